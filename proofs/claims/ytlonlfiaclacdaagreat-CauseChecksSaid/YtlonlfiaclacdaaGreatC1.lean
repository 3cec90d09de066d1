/- Part of the proof of CauseChecks (own work, made small). -/
import Derived.Test.YtlonlfiaclacdaaGreatB3
set_option linter.all false
set_option maxRecDepth 100000
namespace Go.Vi
section
open Go.Proofs Go.Proofs.Tryz
section
variable(e n:Nat) (Q:QT)
def c83:F1:=λa=>Kh [.nil] λb=>oC 106 [a] λa=>TT 0 a λc=>TT 1 a λd=>TT 2 a λa=>Gi c λc=>Gi d λd=>Gi a λa=>LD a (I 0) λg=>cN g (IX [.nil] [] λg=>GZ 1 g b λ_=>Gi d λd=>Gi a λa=>rF (λs=>[IJ (GM 1 b) s,some d,some a]) e n Q) (IX [.nil,I 0,I 0,I 0,I 0] [(some (0,1),c)] λa=>LK a λa=>Gi a λa=>oC 107 [a] λc=>Kh [.nil] λd=>GZ 1 c d λ_=>JV 2 a λc=>LD c (I 0) λc=>cN c (dS (dJ [.nil] [] λc=>dV (NF a λg=>K8 3 g λg=>dV (NF a λa=>K8 2 a λa=>KC 1 c b λ_=>PN g λc=>PN a λa=>dE [0,0,2,6,14,0,32,96,224,1,543,2047] (rF (λs=>[IJ (GM 1 b) s,some c,some a]) e n Q))))) (Gd 1 d λa=>GZ 1 a b λ_=>rF (λs=>[IJ (GM 1 b) s,some (I 0),some (I 0)]) e n Q))
def ALJ:P1 83 c83:=p1 func83 41 λe n Q=>Fx
def RF(a:F3):F4:=λb c d g=>G8 c λh=>Yh h (I 20000) λh=>cN h (LO λh=>Gi d λi=>r3 h i (I 2) e n Q) (Gd 6 g λh=>On 6 [h] λh=>PZ 6 56 c h λc=>Gi c λc=>Hr 0 g λh=>JR h (I 5) λh=>cN h (Gi c λh=>r3 h (I 0) (I 0) e n Q) (Hr 1 g λg=>VS g λg=>HG d g λd=>a b c d))
def NG(a:F3):F3:=λb c d=>IX zT [(some (0,1),(I 5)),(some (5,1),d)] λg=>Kh zT λh=>GZ 6 g h λ_=>VS b λg=>HU d g λg=>cN g (oC 118 [b,d] λg=>TT 0 g λi=>TT 1 g λg=>Kh zT λj=>GZ 6 i j λ_=>Gi g λg=>LD g (I 0) λi=>cN i (LO λi=>Gi d λk=>Gi g λg=>r3 i k g e n Q) (Gd 6 j λg=>GZ 6 g h λ_=>RF e n Q a b c d h)) (RF e n Q a b c d h)
def No(e n:Nat)(Q:QT)(a:F3)(a:F3)(b:F3):F3:=λc d g=>VS c λh=>HU g h λh=>Lh h c λi=>Lh h g λj=>H7 h (JN i j) λi=>H7 h (qB .neq 5 i (.int .u8 10)) λi=>G5 h i bF λh=>cN h (HG g (I 1) λh=>b c d h) (a c d g)
def Vv(a:F3)(b:F3):Nat->F3
 |0=>N3
 |m+1=>No e n Q a b (Vv a b m)
def O9(a:F3)(b:F3):F3:=λc d g=>VS c λh=>HU g h λh=>cN h (oIS c g λh=>IM .eql 5 h (.int .u8 32) λh=>SN h c λi=>SN h g λj=>Iq h (JN i j) λi=>Iq h (qB .eql 5 i (.int .u8 9)) λi=>G5 h bT i λh=>SN h c λi=>SN h g λj=>Iq h (JN i j) λi=>Iq h (qB .eql 5 i (.int .u8 10)) λi=>G5 h bT i λh=>SN h c λi=>SN h g λj=>Iq h (JN i j) λi=>Iq h (qB .eql 5 i (.int .u8 13)) λi=>G5 h bT i λh=>cN h (HG g (I 1) λh=>b c d h) (oIS c g λh=>IM .eql 5 h (.int .u8 45) λh=>Lh h g λi=>H7 h (AKE i (I 1)) λi=>Lh h c λj=>H7 h (G2 j) λj=>H7 h (kV i j) λi=>G5 h i bF λh=>Lh h c λi=>Lh h g λj=>H7 h (AKE j (I 1)) λj=>H7 h (JN i j) λi=>H7 h (qB .eql 5 i (.int .u8 45)) λi=>G5 h i bF λh=>cN h (e3 (Vv e n Q a b) c d g) (NG e n Q a c d g))) (NG e n Q a c d g)
def UD(a:F3):Nat->F3
 |0=>N3
 |m+1=>O9 e n Q a (UD a m)
def NP(a:F3):F3:=λb c d=>e3 (UD e n Q a) b c d
def O8:Nat->F3
 |0=>N3
 |m+1=>NP e n Q (O8 m)
def AO5:F1:=λa=>LO λb=>VS a λb=>Pa b (I 65536) λb=>cN b (LO λb=>r3 b (I 0) (I 2) e n Q) (LO λb=>e3 (O8 e n Q) a b (I 0))
def AF0:P1 106 AO5:=p1 func106 105 λe n Q=>(Fz (Fz (Fz (Fz (GU (wL (λm=>J3 (O8 e n Q m) 0 5 6) λa=>(GU (Fz (wA (J3 (NG e n Q (O8 e n Q a)) 0 5 6) (Fz (Fz (wA (J4 (RF e n Q (O8 e n Q a)) 0 5 6 7) Fx) Fx) Fx)) (GU (wL (λm=>J3 (UD e n Q (O8 e n Q a) m) 0 5 6) λb=>(Fz (GU (Fz (I5 Fx (Fz (I5 (GU (wL (λm=>J3 (Vv e n Q (O8 e n Q a) (UD e n Q (O8 e n Q a) b) m) 0 5 6) λa=>Fx)) Fx) Fx)) Fx)) Fx))))))) Fx) Fx) Fx) Fx)
def Xa:F2:=λa b=>Gd 6 b λb=>GZ 6 b a λ_=>rF (λs=>[IJ (GM 6 a) s,some (I 0)]) e n Q
def gw:F4:=λa b c d=>bg d b λg=>Pa g (I 40) λg=>cN g (IX zT [] λg=>GZ 6 g c λ_=>rF (λs=>[IJ (GM 6 c) s,some (I 2)]) e n Q) (AAi true true a [b,d] λa=>IX zT [(some (0,1),(I 1)),(some (1,1),a),(some (5,1),b)] λa=>Kh zT λb=>GZ 6 a b λ_=>Hr 1 b λa=>Rq 141 [a] λa=>cN a (Mg 0 1 (I 3) b λ_=>Xa e n Q c b) (Xa e n Q c b))
def WC(a:F4):F4:=λb c d g=>VS b λh=>HU g h λh=>Lh h b λi=>Lh h g λj=>H7 h (JN i j) λi=>hCT h 139 [i] λi=>Lh h i λi=>SN i b λj=>SN i g λk=>Iq i (JN j k) λj=>hCF i 140 [j] λj=>H7 h (Gp i bT j) λi=>G5 h i bF λh=>cN h (HG g (I 1) λh=>a b c d h) (gw e n Q b c d g)
def Xb:Nat->F4
 |0=>N4
 |m+1=>WC e n Q (Xb m)
def WA:F6:=λa b c d g h=>AAi true true a [d,h] λi=>Rq 142 [i] λi=>Pa h d λd=>Lh d i λj=>H7 d (kV j (I 2)) λj=>G5 d j bF λd=>cN d (IX zT [] λd=>GZ 6 d c λ_=>rF (λs=>[IJ (GM 6 c) s,some (I 11)]) e n Q) (oC 143 [g,i] λd=>TT 0 d λg=>TT 1 d λd=>Gi g λg=>Gi d λd=>T2 .not d λd=>cN d (IX zT [] λd=>GZ 6 d c λ_=>rF (λs=>[IJ (GM 6 c) s,some (I 11)]) e n Q) (AAi true true a [b,h] λa=>IX [I 0,I 0] [(some (0,1),i)] λd=>IX zT [(some (0,1),(I 2)),(some (1,1),a),(some (2,1),g),(some (3,2),d),(some (5,1),b)] λa=>GZ 6 a c λ_=>rF (λs=>[IJ (GM 6 c) s,some (I 0)]) e n Q))
def Tc(a:F6):F6:=λb c d g h i=>VS b λj=>HU i j λj=>Lh j b λk=>Lh j i λl=>H7 j (JN k l) λk=>hCT j 139 [k] λk=>Lh j k λk=>SN k b λl=>SN k i λo=>Iq k (JN l o) λl=>hCF k 140 [l] λl=>H7 j (Gp k bT l) λk=>G5 j k bF λj=>cN j (HG i (I 1) λj=>a b c d g h j) (WA e n Q b c d g h i)
def WB:Nat->F6
 |0=>N6
 |m+1=>Tc e n Q (WB m)
def aB:F4:=λa b c d=>AAi true true a [b,d] λg=>Gi g λg=>Gi d λh=>e6 (WB e n Q) a b c d g h
def Te(a:F4):F4:=λb c d g=>VS b λh=>HU g h λh=>Lh h b λi=>Lh h g λj=>H7 h (JN i j) λi=>hCT h 140 [i] λi=>G5 h i bF λh=>cN h (HG g (I 1) λh=>a b c d h) (aB e n Q b c d g)
def Td:Nat->F4
 |0=>N4
 |m+1=>Te e n Q (Td m)
def APC:F2:=λa b=>Kh zT λc=>Gi b λd=>oIS a b λg=>oC 139 [g] λg=>cN g (e4 (Xb e n Q) a b c d) (oIS a b λg=>oC 140 [g] λg=>cN g (e4 (Td e n Q) a b c d) (Rq 144 [a,b] λd=>JR d (I 0) λg=>cN g (IX zT [] λg=>GZ 6 g c λ_=>rF (λs=>[IJ (GM 6 c) s,some (I 10)]) e n Q) (Jw b d λd=>AAi true true a [b,d] λa=>IX zT [(some (0,1),(I 4)),(some (1,1),a),(some (5,1),b)] λa=>GZ 6 a c λ_=>rF (λs=>[IJ (GM 6 c) s,some (I 0)]) e n Q)))
def AF7:P2 118 APC:=p2 func118 139 λe n Q=>(Fz (Fz (Fz (Fz Fx (Fz (I5 (Fz (wA (J4 (aB e n Q) 0 1 4 6) (Fz (Fz (Fz (wA (J6 (WA e n Q) 0 1 4 6 9 10) Fx) (GU (wL (λm=>J6 (WB e n Q m) 0 1 4 6 9 10) λa=>Fx))) Fx) Fx)) (GU (wL (λm=>J4 (Td e n Q m) 0 1 4 6) λa=>Fx))) Fx) Fx)) (Fz (I5 (Fz (wA (J4 (gw e n Q) 0 1 4 6) (Fz (Fz (Fz (Fz (wA (J2 (Xa e n Q) 4 7) Fx) Fx) Fx) Fx) Fx)) (GU (wL (λm=>J4 (Xb e n Q m) 0 1 4 6) λa=>Fx))) Fx) Fx)) Fx) Fx)
def APD:F1:=λa=>Kh zT λb=>dS (dV (NF a λc=>K8 0 c λc=>dV (NF a λa=>K8 1 a λa=>MF 6 c a λa=>I3 6 a λa=>KC 6 a b λ_=>dE [0,1,3,7,0,16,48,112,255,511,1023] (rF (λs=>[IJ (GM 6 b) s]) e n Q))))
def AF8:P1 119 APD:=p1 func119 13 λe n Q=>Fx
def APE:F2:=λa b=>oC 119 [a] λc=>Kh zT λd=>GZ 6 c d λ_=>JV 2 a λa=>JR a (I 0) λa=>H7 a (Ho 0 d) λc=>H7 a (GJ c) λc=>H7 a (IN c (I 3)) λc=>Lh a c λc=>Iq c (Ho 0 d) λg=>Iq c (GJ g) λg=>Iq c (IN g (I 4)) λg=>H7 a (Gp c bT g) λc=>G5 a c bF λa=>H7 a (Ho 1 d) λc=>H7 a (GJ c) λc=>Lh a b λb=>H7 a (qB .eql 9 c b) λb=>G5 a b bF λa=>Gi a λa=>r1 a e n Q
def AF9:P2 120 APE:=p2 func120 29 λe n Q=>Fx
def uO:F1:=λa=>JV 0 a λb=>G8 b λb=>bg b (I 1) λb=>O2 a λa=>Mg 1 1 b a λ_=>r0 e n Q
def APF:F2:=λa b=>JV 2 a λc=>JR c (I 0) λc=>cN c (O2 a λc=>Mg 2 1 b c λ_=>dS (dV (dV (NF a λb=>K8 0 b λb=>dV (NF a λc=>K8 1 c λc=>MF 6 b c λb=>K8 5 b λb=>NF a λc=>ai 3 c λc=>KC 1 b c λ_=>dE [0,0,2,6,14,0,32,96,224,510,1022,2046,4095,8191,16383] (uO e n Q a)))))) (uO e n Q a)
def AGA:P2 121 APF:=p2 func121 36 λe n Q=>(Fz (wA (J1 (uO e n Q) 0) Fx) Fx)
def APG:F3:=λa b c=>Yh b c λb=>cN b (oC 121 [a,I 2] λa=>r1 bT e n Q) (r1 bF e n Q)
def AGB:P3 122 APG:=p3 func122 12 λe n Q=>Fx
def OG:F2:=λa b=>Gd 1 b λb=>GZ 1 b a λ_=>rF (λs=>[IJ (GM 1 a) s]) e n Q
def Ja(a:F3):F3:=λb c d=>JV 2 b λg=>JR g (I 0) λg=>Lh g b λh=>hCT g 119 [h] λh=>H7 g (JZ 0 h) λh=>H7 g (Mn h (I 5)) λh=>G5 g h bF λg=>cN g (oC 120 [b,(.Gh ⟨#[110,111,100,101]⟩)] λg=>Gi g λg=>T2 .not g λg=>cN g (oC 121 [b,I 12] λg=>OG e n Q c d) (Hr 0 d λg=>G8 g λg=>Rq 122 [b,g,I 60] λg=>cN g (OG e n Q c d) (dS (K8 0 d λg=>dV (dC 123 [b] λh=>VY 6 [h] λh=>OS 6 120 g h λg=>ai 0 d λh=>KC 1 g h λ_=>dE [0,1,0,4,12,31,63,127] (a b c d)))))) (OG e n Q c d)
def Sf:Nat->F3
 |0=>N3
 |m+1=>Ja e n Q (Sf m)
def AO6:F1:=λa=>Kh [.nil] λb=>Kh [.nil] λc=>e3 (Sf e n Q) a b c
def AF1:P1 107 AO6:=p1 func107 37 λe n Q=>(Fz (Fz (Fz (wA (J2 (OG e n Q) 2 3) Fx) (GU (wL (λm=>J3 (Sf e n Q m) 0 2 3) λa=>Fx))) Fx) Fx)
def Si:F3:=λa b c=>oC 145 [a,(.Gh ⟨#[108,101,116]⟩)] λd=>oC 150 [a] λd=>Mg 4 1 d c λ_=>oC 145 [a,(.Gh ⟨#[116,101,108]⟩)] λa=>Gd 6 c λa=>GZ 6 a b λ_=>rF (λs=>[IJ (GM 6 b) s]) e n Q
def Sg:F3:=λa b c=>oC 145 [a,(.Gh ⟨#[41]⟩)] λd=>oC 145 [a,(.Gh ⟨#[114,101,116,117,114,110,115]⟩)] λd=>oC 145 [a,(.Gh ⟨#[40]⟩)] λd=>oC 147 [a] λd=>Mg 2 1 d c λ_=>oC 145 [a,(.Gh ⟨#[41]⟩)] λd=>oC 148 [a,(.Gh ⟨#[118,97,114]⟩)] λd=>Gi d λd=>cN d (oC 149 [a] λd=>Mg 3 1 d c λ_=>Si e n Q a b c) (Si e n Q a b c)
def APH:F1:=λa=>Kh zS λb=>oC 119 [a] λc=>oF1 5 c λc=>IX zS [(some (5,1),c)] λc=>Kh zS λd=>GZ 6 c d λ_=>oC 145 [a,(.Gh ⟨#[110,111,100,101]⟩)] λc=>oC 146 [a] λc=>Mg 0 1 c d λ_=>oC 145 [a,(.Gh ⟨#[40]⟩)] λc=>oC 120 [a,(.Gh ⟨#[41]⟩)] λc=>Gi c λc=>T2 .not c λc=>cN c (oC 147 [a] λc=>Mg 1 1 c d λ_=>Sg e n Q a b d) (Sg e n Q a b d)
def AGC:P1 123 APH:=p1 func123 49 λe n Q=>(Fz (Fz (Fz (Fz (Fz (Fz (Fz (wA (J3 (Sg e n Q) 0 2 3) (Fz (Fz (Fz (Fz (Fz (Fz (Fz (wA (J3 (Si e n Q) 0 2 3) Fx) Fx) Fx) Fx) Fx) Fx) Fx) Fx)) Fx) Fx) Fx) Fx) Fx) Fx) Fx)
def APK:F1:=λa=>IM .geq 5 a (.int .u8 97) λb=>Lh b a λc=>H7 b (qB .leq 5 c (.int .u8 122)) λc=>G5 b c bF λb=>SN b a λc=>Iq b (qB .geq 5 c (.int .u8 65)) λc=>SN b c λc=>Lh c a λd=>H7 c (qB .leq 5 d (.int .u8 90)) λd=>Iq b (Gp c d bF) λc=>G5 b bT c λb=>SN b a λa=>Iq b (qB .eql 5 a (.int .u8 95)) λa=>G5 b bT a λa=>Gi a λa=>r1 a e n Q
def AGF:P1 139 APK:=p1 func139 21 λe n Q=>Fx
def APL:F1:=λa=>IM .geq 5 a (.int .u8 48) λb=>Lh b a λa=>H7 b (qB .leq 5 a (.int .u8 57)) λa=>G5 b a bF λa=>Gi a λa=>r1 a e n Q
def AGG:P1 140 APL:=p1 func140 9 λe n Q=>Fx
def JU:F1:=λa=>cN a (r1 bT e n Q) (r1 bF e n Q)
def APM:F1:=λa=>oC 142 [a] λb=>Pa b (I 0) λb=>cN b (r1 bT e n Q) (IM .eql 9 a (.Gh ⟨#[110,111,100,101]⟩) λb=>Gi b λb=>cN b (JU e n Q b) (IM .eql 9 a (.Gh ⟨#[114,101,116,117,114,110,115]⟩) λb=>Gi b λb=>cN b (JU e n Q b) (IM .eql 9 a (.Gh ⟨#[118,97,114]⟩) λb=>Gi b λb=>cN b (JU e n Q b) (IM .eql 9 a (.Gh ⟨#[108,101,116]⟩) λb=>Gi b λb=>cN b (JU e n Q b) (IM .eql 9 a (.Gh ⟨#[116,101,108]⟩) λb=>Gi b λb=>cN b (JU e n Q b) (IM .eql 9 a (.Gh ⟨#[105,102]⟩) λb=>Gi b λb=>cN b (JU e n Q b) (IM .eql 9 a (.Gh ⟨#[116,104,101,110]⟩) λb=>Gi b λb=>cN b (JU e n Q b) (IM .eql 9 a (.Gh ⟨#[101,108,115,101]⟩) λb=>Gi b λb=>cN b (JU e n Q b) (IM .eql 9 a (.Gh ⟨#[110,111,116]⟩) λb=>Gi b λb=>cN b (JU e n Q b) (IM .eql 9 a (.Gh ⟨#[97,110,100]⟩) λb=>Gi b λb=>cN b (JU e n Q b) (IM .eql 9 a (.Gh ⟨#[111,114]⟩) λb=>Gi b λb=>cN b (JU e n Q b) (IM .eql 9 a (.Gh ⟨#[120,111,114]⟩) λb=>Gi b λb=>cN b (JU e n Q b) (IM .eql 9 a (.Gh ⟨#[109,111,100]⟩) λb=>Gi b λb=>cN b (JU e n Q b) (IM .eql 9 a (.Gh ⟨#[112,114,101]⟩) λb=>Gi b λb=>cN b (JU e n Q b) (IM .eql 9 a (.Gh ⟨#[102,98,121]⟩) λb=>Gi b λb=>cN b (JU e n Q b) (IM .eql 9 a (.Gh ⟨#[119,104,101,110]⟩) λb=>Gi b λb=>cN b (JU e n Q b) (IM .eql 9 a (.Gh ⟨#[109,101,114,103,101]⟩) λb=>Gi b λb=>cN b (JU e n Q b) (IM .eql 9 a (.Gh ⟨#[99,97,115,116]⟩) λb=>Gi b λb=>cN b (JU e n Q b) (IM .eql 9 a (.Gh ⟨#[116,105,99,107]⟩) λb=>Gi b λb=>cN b (JU e n Q b) (IM .eql 9 a (.Gh ⟨#[114,101,115,101,116]⟩) λb=>Gi b λb=>cN b (JU e n Q b) (IM .eql 9 a (.Gh ⟨#[114,101,112]⟩) λb=>Gi b λb=>cN b (JU e n Q b) (IM .eql 9 a (.Gh ⟨#[109,97,112]⟩) λb=>Gi b λb=>cN b (JU e n Q b) (IM .eql 9 a (.Gh ⟨#[102,111,108,100]⟩) λb=>Gi b λb=>cN b (JU e n Q b) (IM .eql 9 a (.Gh ⟨#[111,110]⟩) λb=>Gi b λb=>cN b (JU e n Q b) (IM .eql 9 a (.Gh ⟨#[116,114,117,101]⟩) λb=>Gi b λb=>cN b (JU e n Q b) (IM .eql 9 a (.Gh ⟨#[102,97,108,115,101]⟩) λb=>Gi b λb=>cN b (JU e n Q b) (IM .eql 9 a (.Gh ⟨#[97,117,116,111,109,97,116,111,110]⟩) λb=>Gi b λb=>cN b (JU e n Q b) (IM .eql 9 a (.Gh ⟨#[115,116,97,116,101]⟩) λb=>Gi b λb=>cN b (JU e n Q b) (IM .eql 9 a (.Gh ⟨#[100,111]⟩) λb=>Gi b λb=>cN b (JU e n Q b) (IM .eql 9 a (.Gh ⟨#[117,110,108,101,115,115]⟩) λb=>Gi b λb=>cN b (JU e n Q b) (IM .eql 9 a (.Gh ⟨#[117,110,116,105,108]⟩) λb=>Gi b λb=>cN b (JU e n Q b) (IM .eql 9 a (.Gh ⟨#[99,111,110,116,105,110,117,101]⟩) λb=>Gi b λb=>cN b (JU e n Q b) (IM .eql 9 a (.Gh ⟨#[101,110,100]⟩) λa=>Gi a λa=>JU e n Q a)))))))))))))))))))))))))))))))))
def AGH:P1 141 APM:=p1 func141 41 λe n Q=>(Fz (Fz (Fz Fx (Fz (GU (Fz (wA (J1 (JU e n Q) 7) Fx) Fx)) Fx)) Fx) Fx)
def ny:F0:=r1 (I 0) e n Q
def UG(a:F3):F3:=λb c d=>G8 c λg=>HU d g λg=>cN g (Jo 1 c d λg=>H4 g λg=>IM .eql 9 g b λg=>cN g (HG d (I 1) λg=>r1 g e n Q) (HG d (I 1) λd=>a b c d)) (ny e n Q)
def gx:Nat->F3
 |0=>N3
 |m+1=>UG e n Q (gx m)
def APN:F1:=λa=>On 1 [(.Gh ⟨#[98,111,111,108]⟩),(.Gh ⟨#[105,56]⟩),(.Gh ⟨#[105,49,54]⟩),(.Gh ⟨#[105,51,50]⟩),(.Gh ⟨#[105,54,52]⟩),(.Gh ⟨#[117,56]⟩),(.Gh ⟨#[117,49,54]⟩),(.Gh ⟨#[117,51,50]⟩),(.Gh ⟨#[117,54,52]⟩)] λb=>Gi b λb=>e3 (gx e n Q) a b (I 0)
def AGI:P1 142 APN:=p1 func142 20 λe n Q=>(Fz (Fz (Fz (wA (J0 (ny e n Q)) Fx) (Fz (GU (wL (λm=>J3 (gx e n Q m) 0 3 4) λa=>Fx)) Fx)) Fx) Fx)
def aE:F3:=λa b c=>oC 155 [a] λd=>cN d (ASE c (I 2) λd=>Pa b d λd=>cN d (r2 (I 0) bF e n Q) (Rq 128 [a,b] λa=>r2 a bT e n Q)) (HU b c λa=>Gi b λb=>Gi a λa=>r2 b a e n Q)
def WD(a:F5):F5:=λb c d g h=>HU h d λi=>cN i (AEJ (I 2) g λi=>HG h (I 1) λh=>a b c d i h) (aE e n Q b c g)
def aF:Nat->F5
 |0=>N5
 |m+1=>WD e n Q (aF m)
def aD:F2:=λa b=>JR a (I 0) λc=>SN c a λd=>Iq c (IN d (I 9)) λd=>G5 c bT d λc=>cN c (Gi b λc=>r2 c bT e n Q) (JR a (I 5) λc=>cN c (JR b (I (-9223372036854775808)) λc=>cN c (Gi b λc=>r2 c bT e n Q) (T2 .neg b λc=>Gi c λc=>r2 c bT e n Q)) (Rq 152 [a] λc=>e5 (aF e n Q) a b c (I 1) (I 0)))
def OQ(e n:Nat)(Q:QT)(a:F4):F4:=λb c d g=>HG g (I 1) λg=>a b c d g
def NV(a:F4):F7:=λb c d g h i j=>cN j (AEI (I 10) d λj=>HG j h λj=>Pa c (I 0) λk=>Lh k j λl=>H7 k (SH l (I 8589934592)) λl=>G5 k l bF λk=>cN k (r2 (I 0) bF e n Q) (OQ e n Q a b c j g)) (Hy i (I 5) λj=>cN j (HU d (I (-922337203685477580)) λj=>SN j d λk=>Iq j (IN k (I (-922337203685477580))) λk=>SN j k λk=>Lh k h λl=>H7 k (SH l (I 8)) λl=>Iq j (Gp k l bF) λk=>G5 j bT k λj=>cN j (r2 (I 0) bF e n Q) (AEI (I 10) d λj=>Uy j h λj=>OQ e n Q a b c j g)) (Hy i (I 9) λi=>cN i (HU d (I 0) λi=>SN i d λj=>Iq i (SH j (I 1844674407370955161)) λj=>G5 i bT j λi=>SN i d λj=>Iq i (IN j (I 1844674407370955161)) λj=>SN i j λj=>Lh j h λk=>H7 j (SH k (I 5)) λk=>Iq i (Gp j k bF) λj=>G5 i bT j λi=>cN i (r2 (I 0) bF e n Q) (AEI (I 10) d λi=>HG i h λh=>OQ e n Q a b c h g)) (OQ e n Q a b c d g)))
def WE(a:F4):F4:=λb c d g=>VS b λh=>HU g h λh=>cN h (oIS b g λh=>IM .sub 5 h (.int .u8 48) λh=>ASB .i64 h λh=>Gi h λh=>Hy c (I 0) λi=>cN i (NV e n Q a b c d g h c i) (Hy c (I 2) λi=>cN i (NV e n Q a b c d g h c i) (Hy c (I 3) λi=>cN i (NV e n Q a b c d g h c i) (Hy c (I 4) λi=>cN i (NV e n Q a b c d g h c i) (Hy c (I 6) λi=>cN i (NV e n Q a b c d g h c i) (Hy c (I 7) λi=>cN i (NV e n Q a b c d g h c i) (Hy c (I 8) λi=>NV e n Q a b c d g h c i))))))) (aD e n Q c d)
def Sj:Nat->F4
 |0=>N4
 |m+1=>WE e n Q (Sj m)
def APO:F2:=λa b=>VS a λc=>Pa c (I 20) λc=>SN c b λd=>Iq c (IN d (I 0)) λd=>SN c d λd=>Lh d a λg=>H7 d (G2 g) λg=>H7 d (SH g (I 9)) λg=>Iq c (Gp d g bF) λd=>G5 c bT d λc=>cN c (r2 (I 0) bF e n Q) (e4 (Sj e n Q) a b (I 0) (I 0))
def AGJ:P2 143 APO:=p2 func143 126 λe n Q=>(Fz (Fz (Fz (Fz (wA (J2 (aD e n Q) 1 6) (Fz (Fz (Fz (Fz (Fz (wA (J3 (aE e n Q) 1 6 10) Fx) (Fz (GU (wL (λm=>J5 (aF e n Q m) 1 6 9 10 11) λa=>Fx)) Fx)) Fx) Fx) Fx) Fx)) (Fz (GU (wL (λm=>J4 (Sj e n Q m) 0 1 6 7) λa=>(Fz (Fz (wA (J4 (OQ e n Q (Sj e n Q a)) 0 1 6 7) Fx) (GU (Fz (Fz (GU (Fz (wA (J7 (NV e n Q (Sj e n Q a)) 0 1 6 7 8 35 36) Fx) Fx)) Fx) Fx))) Fx))) Fx)) Fx) Fx) Fx)
def MY:F1:=λa=>cN a (r1 (I 1) e n Q) (r1 (I 0) e n Q)
def gy:F2:=λa b=>oIS a b λa=>IM .eql 5 a (.int .u8 40) λb=>Gi b λb=>cN b (MY e n Q b) (IM .eql 5 a (.int .u8 41) λb=>Gi b λb=>cN b (MY e n Q b) (IM .eql 5 a (.int .u8 91) λb=>Gi b λb=>cN b (MY e n Q b) (IM .eql 5 a (.int .u8 93) λb=>Gi b λb=>cN b (MY e n Q b) (IM .eql 5 a (.int .u8 44) λb=>Gi b λb=>cN b (MY e n Q b) (IM .eql 5 a (.int .u8 59) λb=>Gi b λb=>cN b (MY e n Q b) (IM .eql 5 a (.int .u8 58) λb=>Gi b λb=>cN b (MY e n Q b) (IM .eql 5 a (.int .u8 61) λb=>Gi b λb=>cN b (MY e n Q b) (IM .eql 5 a (.int .u8 60) λb=>Gi b λb=>cN b (MY e n Q b) (IM .eql 5 a (.int .u8 62) λb=>Gi b λb=>cN b (MY e n Q b) (IM .eql 5 a (.int .u8 43) λb=>Gi b λb=>cN b (MY e n Q b) (IM .eql 5 a (.int .u8 45) λb=>Gi b λb=>cN b (MY e n Q b) (IM .eql 5 a (.int .u8 42) λb=>Gi b λb=>cN b (MY e n Q b) (IM .eql 5 a (.int .u8 47) λb=>Gi b λb=>cN b (MY e n Q b) (IM .eql 5 a (.int .u8 38) λb=>Gi b λb=>cN b (MY e n Q b) (IM .eql 5 a (.int .u8 124) λb=>Gi b λb=>cN b (MY e n Q b) (IM .eql 5 a (.int .u8 94) λa=>Gi a λa=>MY e n Q a))))))))))))))))
def QI:F3:=λa b c=>cN c (r1 (I 2) e n Q) (gy e n Q a b)
def APP:F2:=λa b=>Jw b (I 2) λc=>VS a λd=>ASC c d λc=>cN c (Jw b (I 2) λc=>AAi true true a [b,c] λc=>IM .eql 9 c (.Gh ⟨#[45,62]⟩) λd=>Gi d λd=>cN d (QI e n Q a b d) (IM .eql 9 c (.Gh ⟨#[61,62]⟩) λd=>Gi d λd=>cN d (QI e n Q a b d) (IM .eql 9 c (.Gh ⟨#[60,62]⟩) λd=>Gi d λd=>cN d (QI e n Q a b d) (IM .eql 9 c (.Gh ⟨#[60,61]⟩) λd=>Gi d λd=>cN d (QI e n Q a b d) (IM .eql 9 c (.Gh ⟨#[62,61]⟩) λd=>Gi d λd=>cN d (QI e n Q a b d) (IM .eql 9 c (.Gh ⟨#[60,60]⟩) λd=>Gi d λd=>cN d (QI e n Q a b d) (IM .eql 9 c (.Gh ⟨#[62,62]⟩) λc=>Gi c λc=>QI e n Q a b c))))))) (gy e n Q a b)
def AGK:P2 144 APP:=p2 func144 44 λe n Q=>(Fz (Fz (wA (J2 (gy e n Q) 0 1) (Fz Fx (Fz (GU (Fz (wA (J1 (MY e n Q) 26) Fx) Fx)) Fx))) (Fz (I5 (Fz (GU (Fz (wA (J3 (QI e n Q) 0 1 15) Fx) Fx)) Fx) Fx) Fx)) Fx)
def APQ:F2:=λa b=>Rq 120 [a,b] λb=>T2 .not b λb=>cN b (oC 121 [a,I 12] λb=>r0 e n Q) (JV 1 a λb=>Jw b (I 1) λb=>O2 a λa=>Mg 1 1 b a λ_=>r0 e n Q)
def AGL:P2 145 APQ:=p2 func145 19 λe n Q=>Fx
def APR:F1:=λa=>oC 119 [a] λb=>Kh zT λc=>GZ 6 b c λ_=>JV 2 a λb=>LD b (I 0) λb=>Iq b (Ho 0 c) λd=>Iq b (GJ d) λd=>Iq b (Mn d (I 1)) λd=>G5 b bT d λb=>cN b (oC 121 [a,I 12] λb=>r1 S0 e n Q) (JV 1 a λb=>Jw b (I 1) λb=>O2 a λa=>Mg 1 1 b a λ_=>Hr 1 c λa=>Gi a λa=>r1 a e n Q)
def AGM:P1 146 APR:=p1 func146 27 λe n Q=>Fx
def uP:F1:=λa=>Gi a λa=>r1 a e n Q
def APS:F2:=λa b=>Rq 120 [a,b] λb=>cN b (JV 1 a λc=>Jw c (I 1) λc=>O2 a λa=>Mg 1 1 c a λ_=>uP e n Q b) (uP e n Q b)
def AGN:P2 148 APS:=p2 func148 18 λe n Q=>(Fz (Fz (Fz (wA (J1 (uP e n Q) 5) Fx) Fx) Fx) Fx)
def aG(a:F2):F1:=λa=>Gi a λa=>r1 a e n Q
def PG(a:F2):F2:=λb c=>JV 2 b λd=>LD d (I 0) λd=>cN d (Gi c λd=>r1 d e n Q) (Rq 161 [b] λd=>T2 .not d λd=>cN d (G8 c λd=>JR d (I 0) λd=>cN d (oC 121 [b,I 12] λd=>aG e n Q a c) (aG e n Q a c)) (G8 c λd=>Rq 122 [b,d,I 200] λd=>cN d (Gi c λd=>r1 d e n Q) (oC 162 [b] λd=>On 12 [d] λd=>PZ 12 152 c d λc=>Gi c λc=>a b c)))
def Yp:Nat->F2
 |0=>N2
 |m+1=>PG e n Q (Yp m)
def APT:F1:=λa=>LO λb=>LO λb=>e2 (Yp e n Q) a b
def AGO:P1 150 APT:=p1 func150 33 λe n Q=>(Fz (Fz (GU (wL (λm=>J2 (Yp e n Q m) 0 3) λa=>(GU (Fz (Fz (Fz Fx (Fz (I5 (Fz (wA (J1 (aG e n Q (Yp e n Q a)) 3) Fx) Fx) Fx) Fx)) Fx) Fx)))) Fx) Fx)
def oB:F1:=λa=>Gi a λa=>r1 a e n Q
def PH(a:F2):F2:=λb c=>JV 2 b λd=>JR d (I 0) λd=>cN d (oC 165 [b] λd=>On 2 [d] λd=>PZ 2 24 c d λd=>Gi d λd=>oC 120 [b,(.Gh ⟨#[97,110,100]⟩)] λg=>Gi g λg=>T2 .not g λg=>cN g (oB e n Q d) (JV 1 b λg=>Jw g (I 1) λg=>O2 b λh=>Mg 1 1 g h λ_=>G8 d λg=>Rq 122 [b,g,I 16] λg=>cN g (oB e n Q d) (a b d))) (oB e n Q c)
def cZ:Nat->F2
 |0=>N2
 |m+1=>PH e n Q (cZ m)
def APY:F1:=λa=>LO λb=>LO λb=>e2 (cZ e n Q) a b
def AGT:P1 160 APY:=p1 func160 33 λe n Q=>(Fz (Fz (Fz (wA (J1 (oB e n Q) 3) Fx) (GU (wL (λm=>J2 (cZ e n Q m) 0 3) λa=>Fx))) Fx) Fx)
def APZ:F1:=λa=>JV 2 a λb=>LD b (I 0) λb=>cN b (r1 bF e n Q) (oC 120 [a,(.Gh ⟨#[97,117,116,111,109,97,116,111,110]⟩)] λb=>Gi b λb=>oC 120 [a,(.Gh ⟨#[40]⟩)] λc=>Gi c λc=>SN b c λc=>G5 b bT c λb=>SN b a λa=>hCF b 119 [a] λa=>Iq b (JZ 0 a) λa=>Iq b (IN a (I 1)) λa=>G5 b bT a λa=>Gi a λa=>r1 a e n Q)
def AGU:P1 161 APZ:=p1 func161 24 λe n Q=>Fx
def MR:F3:=λa b c=>oC 145 [a,(.Gh ⟨#[101,110,100]⟩)] λd=>JV 4 a λd=>bg d (I 1) λd=>O2 a λa=>Mg 4 1 d a λ_=>Gd 12 c λa=>GZ 12 a b λ_=>rF (λs=>[IJ (GM 12 b) s]) e n Q
def Qi(a:F3):F3:=λa b c=>MR e n Q a b c
def KY(a:F3):F3:=λb c d=>JV 2 b λg=>JR g (I 0) λg=>cN g (oC 120 [b,(.Gh ⟨#[115,116,97,116,101]⟩)] λg=>Gi g λg=>T2 .not g λg=>cN g (Hr 10 d λg=>G8 g λg=>JR g (I 0) λg=>cN g (oC 121 [b,I 12] λg=>Qi e n Q a b c d) (Qi e n Q a b c d)) (Hr 10 d λg=>G8 g λg=>Rq 122 [b,g,I 16] λg=>cN g (MR e n Q b c d) (dS (K8 10 d λg=>dV (dC 166 [b] λh=>VY 6 [h] λh=>OS 6 120 g h λg=>ai 10 d λh=>KC 1 g h λ_=>dE [0,1,0,4,12,31,63,127] (a b c d)))))) (MR e n Q b c d)
def RG:Nat->F3
 |0=>N3
 |m+1=>KY e n Q (RG m)
def MZ:F3:=λa b c=>oC 145 [a,(.Gh ⟨#[61]⟩)] λd=>oC 167 [a] λd=>Mg 1 9 d c λ_=>oC 145 [a,(.Gh ⟨#[59]⟩)] λa=>Gd 12 c λa=>GZ 12 a b λ_=>rF (λs=>[IJ (GM 12 b) s]) e n Q
def OR:F3:=λa b c=>oC 145 [a,(.Gh ⟨#[41]⟩)] λd=>MZ e n Q a b c
def Lj(a:F3):F3:=λb c d=>dS (K8 0 d λg=>dV (dC 146 [b] λh=>VY 1 [h] λh=>OS 1 16 g h λg=>ai 0 d λh=>KC 1 g h λ_=>dE [0,1,0,4,12,31,63,127] (oC 148 [b,(.Gh ⟨#[44]⟩)] λg=>Gi g λg=>T2 .not g λg=>cN g (OR e n Q b c d) (a b c d))))
def Jj(a:F3):F3:=λb c d=>JV 2 b λg=>JR g (I 0) λg=>cN g (oC 119 [b] λg=>oF1 0 g λg=>JR g (I 1) λg=>cN g (Hr 0 d λg=>G8 g λg=>Rq 122 [b,g,I 16] λg=>cN g (Gd 12 d λg=>GZ 12 g c λ_=>rF (λs=>[IJ (GM 12 c) s]) e n Q) (Lj e n Q a b c d)) (Lj e n Q a b c d)) (OR e n Q b c d)
def Lk:Nat->F3
 |0=>N3
 |m+1=>Jj e n Q (Lk m)
def APa:F1:=λa=>Kh zI λb=>oC 119 [a] λc=>oF1 5 c λc=>IX zI [(some (11,1),c)] λc=>Kh zI λd=>GZ 12 c d λ_=>oC 120 [a,(.Gh ⟨#[97,117,116,111,109,97,116,111,110]⟩)] λc=>Gi c λc=>cN c (JV 4 a λc=>Jw c (I 1) λc=>O2 a λg=>Mg 4 1 c g λ_=>JV 4 a λc=>Pa c (I 40) λc=>cN c (oC 121 [a,I 2] λc=>Gd 12 d λc=>GZ 12 c b λ_=>rF (λs=>[IJ (GM 12 b) s]) e n Q) (JV 1 a λc=>Jw c (I 1) λc=>O2 a λg=>Mg 1 1 c g λ_=>e3 (RG e n Q) a b d)) (oC 148 [a,(.Gh ⟨#[40]⟩)] λc=>Gi c λc=>T2 .not c λc=>cN c (oC 146 [a] λc=>On 1 [c] λc=>Mg 0 1 c d λ_=>MZ e n Q a b d) (e3 (Lk e n Q) a b d))
def AGV:P1 162 APa:=p1 func162 122 λe n Q=>(Fz (Fz (Fz (Fz (Fz (Fz (wA (J3 (MZ e n Q) 0 2 3) Fx) (Fz (I5 Fx (Fz (wA (J3 (OR e n Q) 0 2 3) Fx) (GU (wL (λm=>J3 (Lk e n Q m) 0 2 3) λa=>(Fz (GU (Fz (wA (J3 (Lj e n Q (Lk e n Q a)) 0 2 3) Fx) Fx)) Fx))))) Fx)) Fx) (Fz (I5 (Fz (Fz (Fz (Fz (wA (J3 (MR e n Q) 0 2 3) Fx) (GU (wL (λm=>J3 (RG e n Q m) 0 2 3) λa=>(Fz (GU (Fz (Fz Fx (Fz (I5 (Fz (wA (J3 (Qi e n Q (RG e n Q a)) 0 2 3) Fx) Fx) Fx) Fx)) Fx)) Fx)))) Fx) Fx) Fx) Fx) Fx)) Fx) Fx) Fx)
def APb:F1:=λa=>oC 119 [a] λb=>Kh zT λc=>GZ 6 b c λ_=>JV 2 a λb=>LD b (I 0) λb=>Iq b (Ho 0 c) λd=>Iq b (GJ d) λd=>Iq b (Mn d (I 3)) λd=>G5 b bT d λb=>Iq b (Ho 1 c) λd=>Iq b (GJ d) λd=>hCF b 142 [d] λd=>Iq b (IN d (I 0)) λd=>G5 b bT d λb=>cN b (oC 121 [a,I 12] λb=>r1 (I 0) e n Q) (JV 1 a λb=>Jw b (I 1) λb=>O2 a λa=>Mg 1 1 b a λ_=>Hr 1 c λa=>Rq 142 [a] λa=>r1 a e n Q)
def AGW:P1 163 APb:=p1 func163 34 λe n Q=>Fx
def APc:F1:=λa=>oC 119 [a] λb=>Kh zT λc=>GZ 6 b c λ_=>JV 2 a λb=>LD b (I 0) λb=>Iq b (Ho 0 c) λd=>Iq b (GJ d) λd=>Iq b (Mn d (I 2)) λd=>G5 b bT d λb=>Iq b (Ho 3 c) λd=>Iq b (Ho 0 d) λd=>Iq b (GJ d) λd=>Iq b (Mn d (I 0)) λd=>G5 b bT d λb=>cN b (oC 121 [a,I 12] λb=>r1 (I 0) e n Q) (JV 1 a λb=>Jw b (I 1) λb=>O2 a λa=>Mg 1 1 b a λ_=>Hr 2 c λa=>Gi a λa=>r1 a e n Q)
def AGX:P1 164 APc:=p1 func164 33 λe n Q=>Fx
def APd:F1:=λa=>Kh [S0,bF] λb=>oC 148 [a,(.Gh ⟨#[110,111,116]⟩)] λc=>Gi c λc=>T2 .not c λc=>oC 146 [a] λa=>IX [S0,bF] [(some (1,1),c),(some (0,1),a)] λa=>GZ 2 a b λ_=>rF (λs=>[IJ (GM 2 b) s]) e n Q
def AGY:P1 165 APd:=p1 func165 11 λe n Q=>Fx
def UI:F3:=λa b c=>oC 145 [a,(.Gh ⟨#[100,111]⟩)] λd=>oC 150 [a] λd=>Mg 4 1 d c λ_=>oC 168 [a,(.Gh ⟨#[117,110,116,105,108]⟩)] λa=>Mg 2 1 a c λ_=>Gd 6 c λa=>GZ 6 a b λ_=>rF (λs=>[IJ (GM 6 b) s]) e n Q
def APe:F1:=λa=>Kh zS λb=>oC 119 [a] λc=>oF1 5 c λc=>IX zS [(some (5,1),c)] λc=>Kh zS λd=>GZ 6 c d λ_=>oC 145 [a,(.Gh ⟨#[115,116,97,116,101]⟩)] λc=>oC 146 [a] λc=>Mg 0 1 c d λ_=>oC 168 [a,(.Gh ⟨#[117,110,108,101,115,115]⟩)] λc=>Mg 1 1 c d λ_=>oC 148 [a,(.Gh ⟨#[118,97,114]⟩)] λc=>Gi c λc=>cN c (oC 149 [a] λc=>Mg 3 1 c d λ_=>UI e n Q a b d) (UI e n Q a b d)
def AGZ:P1 166 APe:=p1 func166 32 λe n Q=>(Fz (Fz (Fz (Fz (Fz (Fz (Fz (wA (J3 (UI e n Q) 0 2 3) Fx) Fx) Fx) Fx) Fx) Fx) Fx) Fx)
def APf:F1:=λa=>Kh zE λb=>Rq 169 [a] λc=>T2 .not c λc=>cN c (IX zE [] λc=>GZ 9 c b λ_=>rF (λs=>[IJ (GM 9 b) s]) e n Q) (oC 170 [a] λc=>Kh zE λd=>GZ 9 c d λ_=>JV 4 a λc=>bg c (I 1) λc=>O2 a λa=>Mg 4 1 c a λ_=>Gd 9 d λa=>GZ 9 a b λ_=>rF (λs=>[IJ (GM 9 b) s]) e n Q)
def AGa:P1 167 APf:=p1 func167 20 λe n Q=>Fx
def aH(e n:Nat)(Q:QT)(a:F3):F4:=λb c d g=>oC 146 [b] λh=>Mg 9 1 h g λ_=>oC 145 [b,(.Gh ⟨#[59]⟩)] λh=>Gd 12 g λg=>On 12 [g] λg=>PZ 12 128 d g λd=>Gi d λd=>a b c d
def PI(a:F3):F3:=λb c d=>Rq 120 [b,c] λg=>T2 .not g λg=>cN g (Gi d λg=>r1 g e n Q) (G8 d λg=>Rq 122 [b,g,I 16] λg=>cN g (Gi d λg=>r1 g e n Q) (JV 1 b λg=>Jw g (I 1) λg=>O2 b λh=>Mg 1 1 g h λ_=>oC 119 [b] λg=>oF1 5 g λg=>IX [I 0,I 0,S0,I 0,I 0,I 0,I 0,.nil,I 0,S0,bF,I 0] [(some (11,1),g)] λg=>Kh [I 0,I 0,S0,I 0,I 0,I 0,I 0,.nil,I 0,S0,bF,I 0] λh=>GZ 12 g h λ_=>oC 167 [b] λg=>Mg 0 9 g h λ_=>oC 148 [b,(.Gh ⟨#[99,111,110,116,105,110,117,101]⟩)] λg=>Mg 10 1 g h λ_=>Hr 10 h λg=>T2 .not g λg=>cN g (oC 145 [b,(.Gh ⟨#[116,104,101,110]⟩)] λg=>aH e n Q a b c d h) (aH e n Q a b c d h)))
def WG:Nat->F3
 |0=>N3
 |m+1=>PI e n Q (WG m)
def APg:F2:=λa b=>LO λc=>LO λc=>e3 (WG e n Q) a b c
def AGb:P2 168 APg:=p2 func168 52 λe n Q=>(Fz (Fz (GU (wL (λm=>J3 (WG e n Q m) 0 1 5) λa=>(GU (Fz (Fz (Fz (Fz (Fz (Fz (Fz (Fz (Fz (wA (J4 (aH e n Q (WG e n Q a)) 0 1 5 8) Fx) Fx) Fx) Fx) Fx) Fx) Fx) Fx) Fx) Fx)))) Fx) Fx)
def APh:F1:=λa=>JV 4 a λb=>Jw b (I 1) λb=>O2 a λc=>Mg 4 1 b c λ_=>JV 4 a λb=>Pa b (I 40) λb=>cN b (oC 121 [a,I 2] λa=>r1 bF e n Q) (r1 bT e n Q)
def AGc:P1 169 APh:=p1 func169 17 λe n Q=>Fx
def APi:F1:=λa=>Kh zE λb=>oC 171 [a] λc=>Kh zE λd=>GZ 9 c d λ_=>oC 148 [a,(.Gh ⟨#[45,62]⟩)] λc=>Gi c λc=>T2 .not c λc=>cN c (Gd 9 d λc=>GZ 9 c b λ_=>rF (λs=>[IJ (GM 9 b) s]) e n Q) (oC 170 [a] λa=>Kh zE λc=>GZ 9 a c λ_=>Gd 9 d λa=>Gd 9 c λc=>oC 172 [I 7,I 0,a,c] λa=>GZ 9 a b λ_=>rF (λs=>[IJ (GM 9 b) s]) e n Q)
def AGd:P1 170 APi:=p1 func170 18 λe n Q=>Fx
def APj:F1:=λa=>Kh zE λb=>oC 173 [a] λc=>Kh zE λd=>GZ 9 c d λ_=>oC 148 [a,(.Gh ⟨#[102,98,121]⟩)] λc=>Gi c λc=>T2 .not c λc=>cN c (Gd 9 d λc=>GZ 9 c b λ_=>rF (λs=>[IJ (GM 9 b) s]) e n Q) (oC 171 [a] λa=>Kh zE λc=>GZ 9 a c λ_=>Gd 9 d λa=>Gd 9 c λc=>oC 172 [I 8,I 0,a,c] λa=>GZ 9 a b λ_=>rF (λs=>[IJ (GM 9 b) s]) e n Q)
def AGe:P1 171 APj:=p1 func171 18 λe n Q=>Fx
def APk:F4:=λa b c d=>LK c λc=>LK d λd=>Kh zE λg=>Gd 9 c λh=>Gd 9 d λd=>On 9 [h,d] λd=>Hr 8 c λc=>IX zE [(some (0,1),a),(some (1,1),b),(some (7,1),d),(some (8,1),c)] λa=>GZ 9 a g λ_=>rF (λs=>[IJ (GM 9 g) s]) e n Q
def AGf:P4 172 APk:=p4 func172 17 λe n Q=>Fx
def APl:F1:=λa=>Kh zE λb=>oC 174 [a,I 0] λc=>Kh zE λd=>GZ 9 c d λ_=>oC 148 [a,(.Gh ⟨#[61,62]⟩)] λc=>Gi c λc=>T2 .not c λc=>cN c (Gd 9 d λc=>GZ 9 c b λ_=>rF (λs=>[IJ (GM 9 b) s]) e n Q) (oC 173 [a] λa=>Kh zE λc=>GZ 9 a c λ_=>Gd 9 d λa=>Gd 9 c λc=>oC 172 [I 4,I 11,a,c] λa=>GZ 9 a b λ_=>rF (λs=>[IJ (GM 9 b) s]) e n Q)
def AGg:P1 173 APl:=p1 func173 18 λe n Q=>Fx
def fg:F2:=λa b=>Gd 9 b λb=>GZ 9 b a λ_=>rF (λs=>[IJ (GM 9 a) s]) e n Q
def NW(a:F4):F4:=λb c d g=>JV 2 b λh=>JR h (I 0) λh=>cN h (Rq 176 [b,c] λh=>JR h (I 0) λi=>cN i (fg e n Q d g) (JV 1 b λi=>Jw i (I 1) λi=>O2 b λj=>Mg 1 1 i j λ_=>Jw c (I 1) λi=>oC 174 [b,i] λi=>Kh zE λj=>GZ 9 i j λ_=>Gd 9 g λi=>Gd 9 j λj=>oC 172 [I 4,h,i,j] λh=>GZ 9 h g λ_=>JR c (I 2) λh=>cN h (fg e n Q d g) (a b c d g))) (fg e n Q d g)
def Xd:Nat->F4
 |0=>N4
 |m+1=>NW e n Q (Xd m)
def AKn:F2:=λa b=>Kh zE λc=>JR b (I 8) λd=>cN d (oC 175 [a] λd=>GZ 9 d c λ_=>rF (λs=>[IJ (GM 9 c) s]) e n Q) (Jw b (I 1) λd=>oC 174 [a,d] λd=>Kh zE λg=>GZ 9 d g λ_=>e4 (Xd e n Q) a b c g)
def xI:P2 174 AKn:=p2 func174 44 λe n Q=>(Fz (Fz (Fz (Fz (wA (J2 (fg e n Q) 4 5) Fx) (GU (wL (λm=>J4 (Xd e n Q m) 0 1 4 5) λa=>Fx))) Fx) Fx) Fx)
def APm:F1:=λa=>Kh zE λb=>oC 120 [a,(.Gh ⟨#[110,111,116]⟩)] λc=>Gi c λc=>oC 120 [a,(.Gh ⟨#[45]⟩)] λd=>Gi d λd=>oC 120 [a,(.Gh ⟨#[112,114,101]⟩)] λg=>Gi g λg=>T2 .not c λc=>Lh c d λd=>H7 c (JI .not d) λd=>G5 c d bF λc=>Lh c g λd=>H7 c (JI .not d) λd=>G5 c d bF λc=>cN c (oC 177 [a] λc=>GZ 9 c b λ_=>rF (λs=>[IJ (GM 9 b) s]) e n Q) (Rq 169 [a] λc=>T2 .not c λc=>cN c (IX zE [] λc=>GZ 9 c b λ_=>rF (λs=>[IJ (GM 9 b) s]) e n Q) (oC 177 [a] λc=>Kh zE λd=>GZ 9 c d λ_=>JV 4 a λc=>bg c (I 1) λc=>O2 a λa=>Mg 4 1 c a λ_=>Gd 9 d λa=>GZ 9 a b λ_=>rF (λs=>[IJ (GM 9 b) s]) e n Q))
def AGh:P1 175 APm:=p1 func175 41 λe n Q=>Fx
def QJ:F0:=r1 (I 0) e n Q
def APn:F2:=λa b=>oC 119 [a] λc=>Kh zT λd=>GZ 6 c d λ_=>JV 2 a λa=>LD a (I 0) λa=>Iq a (Ho 0 d) λc=>Iq a (GJ c) λc=>Iq a (Mn c (I 3)) λc=>SN a c λc=>H7 c (Ho 0 d) λg=>H7 c (GJ g) λg=>H7 c (Mn g (I 4)) λg=>Iq a (Gp c g bF) λc=>G5 a bT c λa=>cN a (r1 (I 0) e n Q) (Hy b (I 0) λa=>cN a (Hr 1 d λa=>IM .eql 9 a (.Gh ⟨#[111,114]⟩) λc=>Gi c λc=>cN c (r1 (I 9) e n Q) (IM .eql 9 a (.Gh ⟨#[120,111,114]⟩) λa=>Gi a λa=>cN a (r1 (I 10) e n Q) (QJ e n Q))) (Hy b (I 1) λa=>cN a (Hr 1 d λa=>IM .eql 9 a (.Gh ⟨#[97,110,100]⟩) λa=>cN a (r1 (I 8) e n Q) (QJ e n Q)) (Hy b (I 2) λa=>cN a (Hr 1 d λa=>IM .eql 9 a (.Gh ⟨#[61]⟩) λc=>Gi c λc=>cN c (r1 (I 14) e n Q) (IM .eql 9 a (.Gh ⟨#[60,62]⟩) λc=>Gi c λc=>cN c (r1 (I 15) e n Q) (IM .eql 9 a (.Gh ⟨#[60]⟩) λc=>Gi c λc=>cN c (r1 (I 16) e n Q) (IM .eql 9 a (.Gh ⟨#[60,61]⟩) λc=>Gi c λc=>cN c (r1 (I 17) e n Q) (IM .eql 9 a (.Gh ⟨#[62]⟩) λc=>Gi c λc=>cN c (r1 (I 18) e n Q) (IM .eql 9 a (.Gh ⟨#[62,61]⟩) λa=>Gi a λa=>cN a (r1 (I 19) e n Q) (QJ e n Q))))))) (Hy b (I 3) λa=>cN a (Hr 1 d λa=>IM .eql 9 a (.Gh ⟨#[124]⟩) λc=>Gi c λc=>cN c (r1 (I 9) e n Q) (IM .eql 9 a (.Gh ⟨#[94]⟩) λa=>Gi a λa=>cN a (r1 (I 10) e n Q) (QJ e n Q))) (Hy b (I 4) λa=>cN a (Hr 1 d λa=>IM .eql 9 a (.Gh ⟨#[38]⟩) λa=>cN a (r1 (I 8) e n Q) (QJ e n Q)) (Hy b (I 5) λa=>cN a (Hr 1 d λa=>IM .eql 9 a (.Gh ⟨#[60,60]⟩) λc=>Gi c λc=>cN c (r1 (I 12) e n Q) (IM .eql 9 a (.Gh ⟨#[62,62]⟩) λa=>Gi a λa=>cN a (r1 (I 13) e n Q) (QJ e n Q))) (Hy b (I 6) λa=>cN a (Hr 1 d λa=>IM .eql 9 a (.Gh ⟨#[43]⟩) λc=>Gi c λc=>cN c (r1 (I 3) e n Q) (IM .eql 9 a (.Gh ⟨#[45]⟩) λa=>Gi a λa=>cN a (r1 (I 4) e n Q) (QJ e n Q))) (Hy b (I 7) λa=>cN a (Hr 1 d λa=>IM .eql 9 a (.Gh ⟨#[42]⟩) λb=>Gi b λb=>cN b (r1 (I 5) e n Q) (IM .eql 9 a (.Gh ⟨#[47]⟩) λb=>Gi b λb=>cN b (r1 (I 6) e n Q) (IM .eql 9 a (.Gh ⟨#[109,111,100]⟩) λa=>Gi a λa=>cN a (r1 (I 7) e n Q) (QJ e n Q)))) (QJ e n Q)))))))))
def AGi:P2 176 APn:=p2 func176 92 λe n Q=>(Fz (Fz (Fz (Fz (wA (J0 (QJ e n Q)) Fx) Fx) Fx) Fx) Fx)
def APo:F1:=λa=>Kh zE λb=>oC 119 [a] λc=>oF1 5 c λc=>Gi c λc=>oC 148 [a,(.Gh ⟨#[110,111,116]⟩)] λd=>Gi d λd=>cN d (oC 175 [a] λd=>On 9 [d] λd=>IX zE [(some (0,1),(I 3)),(some (1,1),(I 1)),(some (7,1),d),(some (8,1),c)] λd=>GZ 9 d b λ_=>rF (λs=>[IJ (GM 9 b) s]) e n Q) (oC 148 [a,(.Gh ⟨#[112,114,101]⟩)] λd=>Gi d λd=>cN d (oC 175 [a] λd=>On 9 [d] λd=>IX zE [(some (0,1),(I 6)),(some (7,1),d),(some (8,1),c)] λd=>GZ 9 d b λ_=>rF (λs=>[IJ (GM 9 b) s]) e n Q) (oC 148 [a,(.Gh ⟨#[45]⟩)] λd=>Gi d λd=>cN d (oC 119 [a] λd=>Kh zT λg=>GZ 6 d g λ_=>JV 2 a λd=>JR d (I 0) λd=>H7 d (Ho 0 g) λh=>H7 d (GJ h) λh=>H7 d (IN h (I 2)) λh=>G5 d h bF λd=>H7 d (Ho 3 g) λh=>H7 d (Ho 0 h) λh=>H7 d (GJ h) λh=>H7 d (SH h (I 0)) λh=>G5 d h bF λd=>cN d (JV 1 a λd=>Jw d (I 1) λd=>O2 a λh=>Mg 1 1 d h λ_=>dS (ai 3 g λd=>I3 2 d λd=>ai 3 g λh=>K8 0 h λh=>K8 2 g λg=>dUn .neg g λg=>dC 128 [h,g] λg=>dV (dJ zE [(some (0,1),(I 1)),(some (3,2),d),(some (5,1),g),(some (8,1),c)] λd=>dBx zE λg=>KC 9 d g λ_=>dE [0,1,0,4,12,0,32,96,252,0,1023,0,4095] (Gd 9 g λd=>oC 178 [a,d] λd=>GZ 9 d b λ_=>rF (λs=>[IJ (GM 9 b) s]) e n Q)))) (oC 175 [a] λd=>On 9 [d] λd=>IX zE [(some (0,1),(I 3)),(some (1,1),(I 2)),(some (7,1),d),(some (8,1),c)] λc=>GZ 9 c b λ_=>rF (λs=>[IJ (GM 9 b) s]) e n Q)) (oC 179 [a] λc=>oC 178 [a,c] λa=>GZ 9 a b λ_=>rF (λs=>[IJ (GM 9 b) s]) e n Q)))
def AGj:P1 177 APo:=p1 func177 79 λe n Q=>Fx
def UJ(a:F3):F3:=λb c d=>oC 148 [b,(.Gh ⟨#[91]⟩)] λg=>Gi g λg=>T2 .not g λg=>cN g (Gd 9 c λg=>GZ 9 g d λ_=>rF (λs=>[IJ (GM 9 d) s]) e n Q) (Rq 164 [b] λg=>oC 145 [b,(.Gh ⟨#[93]⟩)] λh=>Gd 9 c λh=>On 9 [h] λh=>Hr 8 c λi=>IX zE [(some (0,1),(I 16)),(some (5,1),g),(some (7,1),h),(some (8,1),i)] λg=>GZ 9 g c λ_=>a b c d)
def cd:Nat->F3
 |0=>N3
 |m+1=>UJ e n Q (cd m)
def APp:F2:=λa b=>LK b λb=>Kh zE λc=>e3 (cd e n Q) a b c
def AGk:P2 178 APp:=p2 func178 22 λe n Q=>(Fz (GU (wL (λm=>J3 (cd e n Q m) 0 3 4) λa=>Fx)) Fx)
end
end
section
open Go.Proofs Go.Proofs.Tryz
section
variable(e n:Nat) (Q:QT)
def aI:F3:=λa b c=>oC 121 [a,I 12] λa=>Gd 9 c λa=>GZ 9 a b λ_=>rF (λs=>[IJ (GM 9 b) s]) e n Q
def oE:F2:=λa b=>Gd 9 b λb=>GZ 9 b a λ_=>rF (λs=>[IJ (GM 9 a) s]) e n Q
def APq:F1:=λa=>Kh zE λb=>oC 119 [a] λc=>Kh zT λd=>GZ 6 c d λ_=>Hr 5 d λc=>IX zE [(some (8,1),c)] λc=>Kh zE λg=>GZ 9 c g λ_=>JV 2 a λc=>LD c (I 0) λc=>cN c (Gd 9 g λc=>GZ 9 c b λ_=>rF (λs=>[IJ (GM 9 b) s]) e n Q) (Hr 0 d λc=>Hy c (I 1) λh=>cN h (JV 1 a λh=>Jw h (I 1) λh=>O2 a λi=>Mg 1 1 h i λ_=>Hr 1 d λh=>Mg 2 1 h g λ_=>Mg 0 1 (I 2) g λ_=>oC 120 [a,(.Gh ⟨#[40]⟩)] λh=>Gi h λh=>cN h (Mg 0 1 (I 13) g λ_=>oC 180 [a] λh=>Mg 7 1 h g λ_=>oE e n Q b g) (oE e n Q b g)) (Hy c (I 2) λh=>cN h (bf 3 d λh=>Hr 0 h λh=>oC 155 [h] λh=>H7 h (Ho 2 d) λi=>H7 h (GJ i) λi=>H7 h (kV i (I 0)) λi=>G5 h i bF λh=>Gi h λh=>bf 3 d λi=>Hr 0 i λi=>JR i (I 0) λi=>SN i h λh=>G5 i bT h λh=>cN h (oC 121 [a,I 12] λh=>Gd 9 g λh=>GZ 9 h b λ_=>rF (λs=>[IJ (GM 9 b) s]) e n Q) (JV 1 a λh=>Jw h (I 1) λh=>O2 a λi=>Mg 1 1 h i λ_=>Mg 0 1 (I 1) g λ_=>bf 3 d λh=>Gd 2 h λh=>Mg 3 2 h g λ_=>Hr 2 d λh=>Mg 5 1 h g λ_=>Gd 9 g λh=>GZ 9 h b λ_=>rF (λs=>[IJ (GM 9 b) s]) e n Q)) (Hy c (I 4) λh=>cN h (Hr 1 d λh=>IM .eql 9 h (.Gh ⟨#[40]⟩) λh=>cN h (JV 1 a λh=>Jw h (I 1) λh=>O2 a λi=>Mg 1 1 h i λ_=>oC 167 [a] λh=>Kh zE λi=>GZ 9 h i λ_=>oC 145 [a,(.Gh ⟨#[41]⟩)] λh=>Gd 9 i λh=>GZ 9 h b λ_=>rF (λs=>[IJ (GM 9 b) s]) e n Q) (Hr 1 d λh=>IM .eql 9 h (.Gh ⟨#[91]⟩) λh=>cN h (JV 1 a λh=>Jw h (I 1) λh=>O2 a λi=>Mg 1 1 h i λ_=>Mg 0 1 (I 15) g λ_=>oC 181 [a,I 0] λh=>Mg 7 1 h g λ_=>oC 145 [a,(.Gh ⟨#[93]⟩)] λh=>Gd 9 g λh=>GZ 9 h b λ_=>rF (λs=>[IJ (GM 9 b) s]) e n Q) (aI e n Q a b g))) (Hy c (I 3) λc=>cN c (Gd 6 d λc=>oC 182 [a,c] λc=>GZ 9 c b λ_=>rF (λs=>[IJ (GM 9 b) s]) e n Q) (aI e n Q a b g)))))
def AGl:P1 179 APq:=p1 func179 120 λe n Q=>(Fz (Fz (Fz (Fz (Fz (wA (J3 (aI e n Q) 0 2 4) Fx) (Fz (GU (Fz (I5 (Fz (Fz (Fz (Fz (Fz (wA (J2 (oE e n Q) 2 4) Fx) Fx) Fx) Fx) Fx) Fx) Fx) Fx)) Fx)) Fx) Fx) Fx) Fx)
def aK:F2:=λa b=>oC 145 [a,(.Gh ⟨#[41]⟩)] λa=>Gi b λa=>r1 a e n Q
def APr:F1:=λa=>LO λb=>oC 145 [a,(.Gh ⟨#[40]⟩)] λb=>LO λb=>oC 120 [a,(.Gh ⟨#[41]⟩)] λc=>Gi c λc=>T2 .not c λc=>cN c (Rq 181 [a,I 0] λc=>aK e n Q a c) (aK e n Q a b)
def AGm:P1 180 APr:=p1 func180 16 λe n Q=>(Fz (Fz (Fz (Fz (Fz (wA (J2 (aK e n Q) 0 3) Fx) Fx) Fx) Fx) Fx) Fx)
def oI:F1:=λa=>Gi a λa=>r1 a e n Q
def PJ(a:F3):F3:=λb c d=>JV 2 b λg=>JR g (I 0) λg=>cN g (G8 d λg=>Jw c g λg=>Rq 122 [b,g,I 16] λg=>cN g (oI e n Q d) (oC 167 [b] λg=>On 9 [g] λg=>PZ 9 96 d g λg=>Gi g λg=>oC 148 [b,(.Gh ⟨#[44]⟩)] λh=>Gi h λh=>T2 .not h λh=>cN h (oI e n Q g) (a b c g))) (oI e n Q d)
def cg:Nat->F3
 |0=>N3
 |m+1=>PJ e n Q (cg m)
def APs:F2:=λa b=>LO λc=>LO λc=>e3 (cg e n Q) a b c
def AGn:P2 181 APs:=p2 func181 30 λe n Q=>(Fz (Fz (Fz (wA (J1 (oI e n Q) 5) Fx) (GU (wL (λm=>J3 (cg e n Q m) 0 1 5) λa=>Fx))) Fx) Fx)
def oJ:F2:=λa b=>Gd 9 b λb=>GZ 9 b a λ_=>rF (λs=>[IJ (GM 9 a) s]) e n Q
def Jb:F3:=λa b c=>oC 145 [a,(.Gh ⟨#[41]⟩)] λa=>Gd 9 c λa=>GZ 9 a b λ_=>rF (λs=>[IJ (GM 9 b) s]) e n Q
def Ma:F5:=λa b c d g=>cN g (JV 1 a λg=>Jw g (I 1) λg=>O2 a λh=>Mg 1 1 g h λ_=>oC 145 [a,(.Gh ⟨#[40]⟩)] λg=>Hr 1 b λb=>IM .eql 9 b (.Gh ⟨#[119,104,101,110]⟩) λg=>Gi g λg=>cN g (Mg 0 1 (I 9) d λ_=>oC 167 [a] λg=>On 9 [g] λg=>Mg 7 1 g d λ_=>oC 145 [a,(.Gh ⟨#[44]⟩)] λg=>oC 165 [a] λg=>Kh [S0,bF] λh=>GZ 2 g h λ_=>Hr 0 h λg=>Mg 2 1 g d λ_=>Hr 1 h λg=>cN g (Mg 5 1 (I 1) d λ_=>Jb e n Q a c d) (Jb e n Q a c d)) (IM .eql 9 b (.Gh ⟨#[109,101,114,103,101]⟩) λg=>Gi g λg=>cN g (Mg 0 1 (I 10) d λ_=>oC 146 [a] λg=>Mg 2 1 g d λ_=>oC 145 [a,(.Gh ⟨#[44]⟩)] λg=>oC 167 [a] λg=>Kh zE λh=>GZ 9 g h λ_=>oC 145 [a,(.Gh ⟨#[44]⟩)] λg=>dS (I3 9 h λg=>dV (dC 167 [a] λh=>VY 9 [g,h] λg=>ai 7 d λh=>KC 1 g h λ_=>dE [0,0,2,7,15,31] (Jb e n Q a c d)))) (IM .eql 9 b (.Gh ⟨#[99,97,115,116]⟩) λg=>Gi g λg=>cN g (Mg 0 1 (I 11) d λ_=>oC 163 [a] λg=>IX [I 0,I 0] [(some (0,1),g)] λg=>Mg 3 2 g d λ_=>oC 145 [a,(.Gh ⟨#[44]⟩)] λg=>oC 167 [a] λg=>On 9 [g] λg=>Mg 7 1 g d λ_=>Jb e n Q a c d) (IM .eql 9 b (.Gh ⟨#[116,105,99,107]⟩) λg=>Gi g λg=>cN g (Mg 0 1 (I 12) d λ_=>oC 164 [a] λg=>Mg 5 1 g d λ_=>oC 145 [a,(.Gh ⟨#[44]⟩)] λg=>oC 164 [a] λg=>Mg 6 1 g d λ_=>Jb e n Q a c d) (IM .eql 9 b (.Gh ⟨#[114,101,115,101,116]⟩) λg=>Gi g λg=>cN g (Mg 0 1 (I 14) d λ_=>oC 146 [a] λg=>Mg 2 1 g d λ_=>oC 180 [a] λg=>Mg 7 1 g d λ_=>oC 145 [a,(.Gh ⟨#[44]⟩)] λg=>dS (K8 7 d λg=>dV (dC 167 [a] λh=>VY 9 [h] λh=>OS 9 96 g h λg=>ai 7 d λh=>KC 1 g h λ_=>dE [0,1,0,4,12,31,63,127] (Jb e n Q a c d)))) (IM .eql 9 b (.Gh ⟨#[114,101,112]⟩) λg=>Gi g λg=>cN g (Mg 0 1 (I 17) d λ_=>oC 167 [a] λg=>On 9 [g] λg=>Mg 7 1 g d λ_=>oC 145 [a,(.Gh ⟨#[44]⟩)] λg=>oC 164 [a] λg=>Mg 5 1 g d λ_=>Jb e n Q a c d) (IM .eql 9 b (.Gh ⟨#[109,97,112]⟩) λg=>Gi g λg=>cN g (Mg 0 1 (I 18) d λ_=>oC 146 [a] λg=>Mg 2 1 g d λ_=>oC 145 [a,(.Gh ⟨#[44]⟩)] λg=>oC 181 [a,I 0] λg=>Mg 7 1 g d λ_=>Jb e n Q a c d) (IM .eql 9 b (.Gh ⟨#[102,111,108,100]⟩) λb=>Gi b λb=>cN b (Mg 0 1 (I 19) d λ_=>oC 146 [a] λb=>Mg 2 1 b d λ_=>oC 145 [a,(.Gh ⟨#[44]⟩)] λb=>oC 167 [a] λb=>Kh zE λg=>GZ 9 b g λ_=>oC 145 [a,(.Gh ⟨#[44]⟩)] λb=>dS (I3 9 g λb=>dV (dC 167 [a] λg=>VY 9 [b,g] λb=>ai 7 d λg=>KC 1 b g λ_=>dE [0,0,2,7,15,31] (Jb e n Q a c d)))) (Jb e n Q a c d))))))))) (oC 121 [a,I 12] λa=>Gd 9 d λa=>GZ 9 a c λ_=>rF (λs=>[IJ (GM 9 c) s]) e n Q)
def aL:F6:=λa b c d g h=>cN h (JV 1 a λh=>Jw h (I 1) λh=>O2 a λi=>Mg 1 1 h i λ_=>Mg 0 1 (I 1) d λ_=>IX [I 0,I 0] [(some (0,1),(I 1))] λh=>Mg 3 2 h d λ_=>Hr 1 b λh=>IM .eql 9 h (.Gh ⟨#[116,114,117,101]⟩) λh=>cN h (Mg 5 1 (I 1) d λ_=>oJ e n Q c d) (oJ e n Q c d)) (IM .eql 9 g (.Gh ⟨#[105,102]⟩) λh=>Gi h λh=>cN h (JV 1 a λh=>Jw h (I 1) λh=>O2 a λi=>Mg 1 1 h i λ_=>oC 167 [a] λh=>Kh zE λi=>GZ 9 h i λ_=>oC 145 [a,(.Gh ⟨#[116,104,101,110]⟩)] λh=>oC 167 [a] λh=>Kh zE λj=>GZ 9 h j λ_=>oC 145 [a,(.Gh ⟨#[101,108,115,101]⟩)] λh=>Mg 0 1 (I 5) d λ_=>dS (I3 9 i λh=>I3 9 j λi=>dV (dC 167 [a] λj=>VY 9 [h,i,j] λh=>ai 7 d λi=>KC 1 h i λ_=>dE [0,0,0,4,15,31,63] (Gd 9 d λh=>GZ 9 h c λ_=>rF (λs=>[IJ (GM 9 c) s]) e n Q)))) (IM .eql 9 g (.Gh ⟨#[119,104,101,110]⟩) λh=>Gi h λh=>cN h (Ma e n Q a b c d h) (IM .eql 9 g (.Gh ⟨#[109,101,114,103,101]⟩) λh=>Gi h λh=>cN h (Ma e n Q a b c d h) (IM .eql 9 g (.Gh ⟨#[99,97,115,116]⟩) λh=>Gi h λh=>cN h (Ma e n Q a b c d h) (IM .eql 9 g (.Gh ⟨#[116,105,99,107]⟩) λh=>Gi h λh=>cN h (Ma e n Q a b c d h) (IM .eql 9 g (.Gh ⟨#[114,101,115,101,116]⟩) λh=>Gi h λh=>cN h (Ma e n Q a b c d h) (IM .eql 9 g (.Gh ⟨#[114,101,112]⟩) λh=>Gi h λh=>cN h (Ma e n Q a b c d h) (IM .eql 9 g (.Gh ⟨#[109,97,112]⟩) λh=>Gi h λh=>cN h (Ma e n Q a b c d h) (IM .eql 9 g (.Gh ⟨#[102,111,108,100]⟩) λg=>Gi g λg=>Ma e n Q a b c d g)))))))))
def APt:F2:=λa b=>LK b λb=>Kh zE λc=>Hr 5 b λd=>IX zE [(some (8,1),d)] λd=>Kh zE λg=>GZ 9 d g λ_=>Hr 1 b λd=>IM .eql 9 d (.Gh ⟨#[116,114,117,101]⟩) λh=>Gi h λh=>cN h (aL e n Q a b c g d h) (IM .eql 9 d (.Gh ⟨#[102,97,108,115,101]⟩) λh=>Gi h λh=>aL e n Q a b c g d h)
def AGo:P2 182 APt:=p2 func182 201 λe n Q=>(Fz (Fz (Fz (Fz (Fz (Fz (wA (J3 (Jb e n Q) 0 4 5) Fx) Fx) Fx) Fx) (Fz (GU (Fz (wA (J6 (aL e n Q) 0 3 4 5 15 19) (I5 (Fz (Fz (Fz (Fz (wA (J2 (oJ e n Q) 4 5) Fx) Fx) Fx) Fx) Fx) (Fz (I5 Fx (Fz (wA (J5 (Ma e n Q) 0 3 4 5 62) Fx) Fx)) Fx))) Fx)) Fx)) Fx) Fx)
def UL:F1:=λa=>dS (dV (NF a λb=>K8 2 b λb=>dV (NF a λa=>K8 1 a λa=>PN b λb=>PN a λa=>dE [0,1,3,7,0,16,48,112,15,511] (r2 b a e n Q))))
def WV(e n:Nat)(Q:QT)(a:F3):F3:=λb c d=>HG d (I 1) λd=>a b c d
def RJ(a:F3):F5:=λb c d g h=>Hr 3 g λi=>oC 87 [c,i,h] λi=>JV 1 c λi=>JR i (I 0) λi=>cN i (Hr 4 g λg=>oC 88 [c,g,h] λg=>WV e n Q a b c d) (WV e n Q a b c d)
def Sn(e n:Nat)(Q:QT)(a:F3)(a:F8):F8:=λb c d g h i j k=>HG k (I 1) λk=>a b c d g h i j k
def R4(a:F3)(b:F8):F8:=λc d g h i j k l=>G8 i λo=>HU l o λo=>Lh o d λp=>H7 o (HK p) λp=>H7 o (Ho 1 p) λp=>H7 o (GJ p) λp=>H7 o (IN p (I 0)) λp=>G5 o p bF λo=>cN o (Jo 5 i l λo=>Hr 0 o λo=>oC 85 [k,o] λo=>T2 .not o λo=>cN o (Jo 5 i l λo=>Hr 4 o λo=>oC 68 [d,o,I 24] λo=>Sn e n Q a b c d g h i j k l) (Sn e n Q a b c d g h i j k l)) (RJ e n Q a c d g h j)
def Xg(a:F3):Nat->F8
 |0=>N8
 |m+1=>R4 e n Q a (Xg a m)
def RI(a:F3):F6:=λb c d g h i=>JV 1 c λj=>LD j (I 0) λj=>cN j (UL e n Q c) (Hr 1 g λj=>G8 j λj=>AEL 1 true false i [j] λj=>Gi j λj=>Hr 4 g λk=>Rq 86 [c,k,i,j,d] λj=>Hr 1 g λk=>G8 k λk=>Gi k λk=>e8 (Xg e n Q a) b c d g h i j k)
def So(e n:Nat)(Q:QT)(a:F3)(a:F7):F7:=λb c d g h i j=>Jo 5 h j λk=>Hr 0 k λk=>On 1 [k] λk=>PZ 1 16 i k λi=>Gi i λi=>HG j (I 1) λj=>a b c d g h i j
def WW(a:F3)(b:F7):F7:=λc d g h i j k=>G8 i λl=>HU k l λl=>cN l (Jo 5 i k λl=>Hr 0 l λl=>oC 85 [j,l] λl=>cN l (Jo 5 i k λl=>Hr 4 l λl=>oC 68 [d,l,I 20] λl=>So e n Q a b c d g h i j k) (So e n Q a b c d g h i j k)) (RI e n Q a c d g h i j)
def UM(a:F3):Nat->F7
 |0=>N7
 |m+1=>WW e n Q a (UM a m)
def aT(a:F3):F3:=λb c d=>Hr 0 b λg=>G8 g λg=>HU d g λg=>Lh g c λh=>H7 g (HK h) λh=>H7 g (Ho 1 h) λh=>H7 g (GJ h) λh=>H7 g (IN h (I 0)) λh=>G5 g h bF λg=>cN g (Hr 0 b λg=>Jo 6 g d λg=>Gd 6 g λg=>Kh zS λh=>GZ 6 g h λ_=>Gd 1 b λg=>Hr 0 h λi=>oC 84 [g,i,d] λg=>Yh g (I 0) λg=>cN g (Hr 5 h λg=>oC 68 [c,g,I 20] λg=>UL e n Q c) (dS (K8 1 h λg=>OS 5 64 .nil g λg=>K8 2 h λi=>OS 5 64 g i λg=>K8 3 h λi=>OS 5 64 g i λg=>PN g λg=>dE [0,1,3,0,8,31,0,64,255,511] (LO λi=>e7 (UM e n Q a) b c d h g i (I 0))))) (UL e n Q c)
def Ll:Nat->F3
 |0=>N3
 |m+1=>aT e n Q (Ll m)
def c54:F1:=λa=>LK a λa=>Gd 1 a λb=>IX [.nil,I 0,I 0] [(some (0,1),b)] λb=>LK b λb=>Gi b λb=>e3 (Ll e n Q) a b (I 0)
def AK3:P1 54 c54:=p1 func54 153 λe n Q=>(Fz (Fz (Fz (wA (J1 (UL e n Q) 4) Fx) (Fz (GU (wL (λm=>J3 (Ll e n Q m) 1 4 5) λa=>(Fz (Fz (wA (J3 (WV e n Q (Ll e n Q a)) 1 4 5) Fx) (GU (Fz (Fz (Fz (Fz (Fz (wA (J6 (RI e n Q (Ll e n Q a)) 1 4 5 6 7 8) (Fz (Fz (Fz (Fz (wA (J5 (RJ e n Q (Ll e n Q a)) 1 4 5 6 8) Fx) (Fz (GU (wL (λm=>J8 (Xg e n Q (Ll e n Q a) m) 1 4 5 6 7 8 11 12) λb=>(Fz (Fz (wA (J8 (Sn e n Q (Ll e n Q a) (Xg e n Q (Ll e n Q a) b)) 1 4 5 6 7 8 11 12) Fx) Fx) Fx))) Fx)) Fx) Fx) Fx)) (Fz (GU (wL (λm=>J7 (UM e n Q (Ll e n Q a) m) 1 4 5 6 7 8 9) λb=>(Fz (Fz Fx (GU (Fz (wA (J7 (So e n Q (Ll e n Q a) (UM e n Q (Ll e n Q a) b)) 1 4 5 6 7 8 9) Fx) Fx))) Fx))) Fx)) Fx) Fx) Fx) Fx))) Fx))) Fx)) Fx) Fx)
def mL:F0:=r1 (I (-1)) e n Q
def iV(a:F4):F4:=λb c d g=>HU g c λh=>Lh h g λi=>H7 h (Ho 0 d) λj=>H7 h (GJ j) λj=>H7 h (Gq j) λj=>H7 h (kV i j) λi=>G5 h i bF λh=>cN h (Hr 0 d λh=>Jo 6 h g λh=>Hr 0 h λh=>IM .eql 9 h b λh=>cN h (Gi g λh=>r1 h e n Q) (HG g (I 1) λg=>a b c d g)) (mL e n Q)
def qy:Nat->F4
 |0=>N4
 |m+1=>iV e n Q (qy m)
def c84:F3:=λa b c=>LK a λa=>e4 (qy e n Q) b c a (I 0)
def ALK:P3 84 c84:=p3 func84 29 λe n Q=>(Fz (Fz (wA (J0 (mL e n Q)) Fx) (Fz (GU (wL (λm=>J4 (qy e n Q m) 1 2 3 7) λa=>Fx)) Fx)) Fx)
def xO:F0:=r1 bF e n Q
def iW(a:F3):F3:=λb c d=>G8 b λg=>HU d g λg=>cN g (Jo 1 b d λg=>H4 g λg=>IM .eql 9 g c λg=>cN g (r1 bT e n Q) (HG d (I 1) λd=>a b c d)) (xO e n Q)
def xP:Nat->F3
 |0=>N3
 |m+1=>iW e n Q (xP m)
def c85:F2:=λa b=>e3 (xP e n Q) a b (I 0)
def ALL:P2 85 c85:=p2 func85 18 λe n Q=>(Fz (Fz (wA (J0 (xO e n Q)) Fx) (Fz (GU (wL (λm=>J3 (xP e n Q m) 0 1 5) λa=>Fx)) Fx)) Fx)
def mM:F1:=λa=>Gi a λa=>r1 a e n Q
def UU(e n:Nat)(Q:QT)(a:F7):F7:=λb c d g h i j=>HG j (I 1) λj=>a b c d g h i j
def dA(a:F7):F8:=λb c d g h i j k=>PZ 1 16 .nil i λi=>PZ 1 16 i k λi=>Gi i λi=>UU e n Q a b c d g h i j
def UR(e n:Nat)(Q:QT)(a:F7)(a:qY):qY:=λb c d g h i j k l o=>HG o (I 1) λo=>a b c d g h i j k l o
def UW(a:F7)(b:qY):qY:=λc d g h i j k l o p=>G8 o λq=>HU p q λq=>Lh q c λr=>H7 q (HK r) λr=>H7 q (Ho 1 r) λr=>H7 q (GJ r) λr=>H7 q (IN r (I 0)) λr=>G5 q r bF λq=>cN q (Jo 1 o p λq=>H4 q λq=>oC 85 [j,q] λq=>cN q (Hr 11 l λq=>oC 68 [c,q,I 20] λq=>UR e n Q a b c d g h i j k l o p) (UR e n Q a b c d g h i j k l o p)) (dA e n Q a c d g h i j k o)
def iX(a:F7):Nat->qY
 |0=>N10
 |m+1=>UW e n Q a (iX a m)
def US(a:F7):F8:=λb c d g h i j k=>JV 1 b λl=>JR l (I 0) λl=>cN l (bf 1 k λk=>Gd 9 k λk=>oC 109 [b,k,d,h] λk=>UU e n Q a b c d g h i j) (UU e n Q a b c d g h i j)
def Sr(e n:Nat)(Q:QT)(a:F7)(a:F9):F9:=λb c d g h i j k l=>dS (dV (OS 1 16 .nil i λi=>K8 0 k λo=>dV (MF 1 o l λo=>IS o λo=>VY 1 [o] λo=>OS 1 16 i o λi=>PN i λi=>dE [0,1,0,4,0,28,60,124,255,511] (HG l (I 1) λl=>a b c d g h i j k l))))
def UT(a:F7)(b:F9):F9:=λc d g h i j k l o=>Hr 0 l λp=>Jo 1 p o λp=>H4 p λp=>oC 85 [j,p] λp=>cN p (Hr 11 l λp=>oC 68 [c,p,I 20] λp=>Sr e n Q a b c d g h i j k l o) (Sr e n Q a b c d g h i j k l o)
def R5(a:F7)(b:F9):F9:=λc d g h i j k l o=>Hr 0 l λp=>G8 p λp=>HU o p λp=>Lh p c λq=>H7 p (HK q) λq=>H7 p (Ho 1 q) λq=>H7 p (GJ q) λq=>H7 p (IN q (I 0)) λq=>G5 p q bF λp=>cN p (Hr 0 l λp=>Jo 1 p o λp=>H4 p λp=>oC 85 [h,p] λp=>T2 .not p λp=>cN p (Hr 11 l λp=>oC 68 [c,p,I 21] λp=>UT e n Q a b c d g h i j k l o) (UT e n Q a b c d g h i j k l o)) (US e n Q a c d g h i j k l)
def Ss(a:F7):Nat->F9
 |0=>N9
 |m+1=>R5 e n Q a (Ss a m)
def UX(a:F7):F7:=λb c d g h i j=>G8 c λk=>HU j k λk=>Lh k b λl=>H7 k (HK l) λl=>H7 k (Ho 1 l) λl=>H7 k (GJ l) λl=>H7 k (IN l (I 0)) λl=>G5 k l bF λk=>cN k (Jo 12 c j λk=>Gd 12 k λk=>Kh zI λl=>GZ 12 k l λ_=>Hr 10 l λk=>G8 k λk=>Pa k (I 0) λk=>cN k (Gd 12 l λk=>Rq 108 [b,k,d,g,h] λk=>e10 (iX e n Q a) b c d g h i j l k (I 0)) (e9 (Ss e n Q a) b c d g h i j l (I 0))) (mM e n Q i)
def Mz:Nat->F7
 |0=>N7
 |m+1=>UX e n Q (Mz m)
def c86:F5:=λa b c d g=>LO λh=>LO λh=>e7 (Mz e n Q) a b c d g h (I 0)
def ALM:P5 86 c86:=p5 func86 129 λe n Q=>(Fz (Fz (Fz (wA (J1 (mM e n Q) 11) Fx) (Fz (GU (wL (λm=>J7 (Mz e n Q m) 0 1 2 3 4 11 12) λa=>(Fz (Fz (wA (J7 (UU e n Q (Mz e n Q a)) 0 1 2 3 4 11 12) Fx) (GU (Fz (Fz (Fz (wA (J8 (US e n Q (Mz e n Q a)) 0 1 2 3 4 11 12 13) Fx) (Fz (GU (wL (λm=>J9 (Ss e n Q (Mz e n Q a) m) 0 1 2 3 4 11 12 13 16) λb=>(Fz (Fz Fx (GU (Fz (wA (J9 (UT e n Q (Mz e n Q a) (Ss e n Q (Mz e n Q a) b)) 0 1 2 3 4 11 12 13 16) (Fz (wA (J9 (Sr e n Q (Mz e n Q a) (Ss e n Q (Mz e n Q a) b)) 0 1 2 3 4 11 12 13 16) Fx) Fx)) Fx))) Fx))) Fx)) (Fz (I5 (Fz (Fz (wA (J8 (dA e n Q (Mz e n Q a)) 0 1 2 3 4 11 12 14) Fx) (Fz (GU (wL (λm=>J10 (iX e n Q (Mz e n Q a) m) 0 1 2 3 4 11 12 13 14 15) λb=>(Fz (Fz (wA (J10 (UR e n Q (Mz e n Q a) (iX e n Q (Mz e n Q a) b)) 0 1 2 3 4 11 12 13 14 15) Fx) Fx) Fx))) Fx)) Fx) Fx) Fx)) Fx))) Fx))) Fx)) Fx) Fx)
def uT(e n:Nat)(Q:QT)(a:F4):F4:=λb c d g=>HG g (I 1) λg=>a b c d g
def UZ(a:F4)(b:F5):F5:=λc d g h i=>Jo 5 d h λj=>Hr 3 j λj=>G8 j λj=>HU i j λj=>cN j (Jo 5 d h λj=>Hr 3 j λj=>Jo 2 j i λj=>Hr 0 j λj=>Gi j λj=>oC 85 [g,j] λk=>T2 .not k λk=>SN k j λj=>SN k d λl=>SN k h λo=>Iq k (Ip 5 l o) λl=>Iq k (Ho 0 l) λl=>Iq k (GJ l) λl=>Iq k (qB .eql 9 j l) λj=>G5 k bT j λj=>cN j (Jo 5 d h λj=>Hr 4 j λj=>oC 68 [c,j,I 21] λj=>r0 e n Q) (HG i (I 1) λi=>b c d g h i)) (uT e n Q a c d g h)
def iY(a:F4):Nat->F5
 |0=>N5
 |m+1=>UZ e n Q a (iY a m)
def UY(a:F4):F4:=λb c d g=>G8 c λh=>HU g h λh=>Lh h b λi=>H7 h (HK i) λi=>H7 h (Ho 1 i) λi=>H7 h (GJ i) λi=>H7 h (IN i (I 0)) λi=>G5 h i bF λh=>cN h (e5 (iY e n Q a) b c d g (I 0)) (r0 e n Q)
def aZ:Nat->F4
 |0=>N4
 |m+1=>UY e n Q (aZ m)
def c87:F3:=λa b c=>e4 (aZ e n Q) a b c (I 0)
def ALN:P3 87 c87:=p3 func87 61 λe n Q=>(Fz (GU (wL (λm=>J4 (aZ e n Q m) 0 1 2 6) λa=>(Fz (Fz (wA (J4 (uT e n Q (aZ e n Q a)) 0 1 2 6) Fx) (GU (Fz (GU (wL (λm=>J5 (iY e n Q (aZ e n Q a) m) 0 1 2 6 7) λa=>Fx)) Fx))) Fx))) Fx)
def uU(e n:Nat)(Q:QT)(a:F4):F4:=λb c d g=>HG g (I 1) λg=>a b c d g
def aa(a:F4)(b:F5):F5:=λc d g h i=>Jo 12 d h λj=>Hr 10 j λj=>G8 j λj=>HU i j λj=>cN j (Jo 12 d h λj=>Hr 10 j λj=>Jo 6 j i λj=>Gd 6 j λj=>Kh zS λk=>GZ 6 j k λ_=>dS (dV (OS 1 16 .nil g λj=>K8 3 k λl=>dC 69 [l] λl=>OS 1 16 j l λj=>PN j λj=>dE [0,1,0,4,15,31,63] (Hr 3 k λl=>oC 87 [c,l,j] λl=>Hr 4 k λk=>oC 88 [c,k,j] λj=>HG i (I 1) λi=>b c d g h i)))) (uU e n Q a c d g h)
def ia(a:F4):Nat->F5
 |0=>N5
 |m+1=>aa e n Q a (ia a m)
def iZ(a:F4):F4:=λb c d g=>G8 c λh=>HU g h λh=>cN h (e5 (ia e n Q a) b c d g (I 0)) (r0 e n Q)
def YX:Nat->F4
 |0=>N4
 |m+1=>iZ e n Q (YX m)
def c88:F3:=λa b c=>e4 (YX e n Q) a b c (I 0)
def ALO:P3 88 c88:=p3 func88 50 λe n Q=>(Fz (GU (wL (λm=>J4 (YX e n Q m) 0 1 2 6) λa=>(Fz (Fz (wA (J4 (uU e n Q (YX e n Q a)) 0 1 2 6) Fx) (GU (Fz (GU (wL (λm=>J5 (ia e n Q (YX e n Q a) m) 0 1 2 6 7) λa=>Fx)) Fx))) Fx))) Fx)
def PA:F1:=λa=>Gi a λa=>r1 a e n Q
def QG:F4:=λa b c d=>Yh d (I 0) λg=>Lh g a λh=>H7 g (HK h) λh=>H7 g (Ho 1 h) λh=>H7 g (GJ h) λh=>H7 g (IN h (I 0)) λh=>G5 g h bF λg=>cN g (Hr 10 b λb=>Jo 6 b d λb=>Hr 5 b λb=>oC 68 [a,b,I 25] λa=>PA e n Q c) (PA e n Q c)
def Ob(e n:Nat)(Q:QT)(a:F9):F9:=λb c d g h i j k l=>HG l (I 1) λl=>a b c d g h i j k l
def OP(a:F9):qY:=λb c d g h i j k l o=>T2 .not o λo=>Lh o k λp=>H7 o (kV p (I 0)) λp=>G5 o p bF λo=>cN o (Gi l λo=>Ob e n Q a b c d g h i j o l) (Ob e n Q a b c d g h i j k l)
def TX(a:F9)(b:Ym):Ym:=λc d g h i j k l o p q r=>G8 p λt=>HU r t λt=>cN t (Lh q k λt=>Lh q p λu=>Lh q r λv=>H7 q (Ip 1 u v) λu=>H7 q (GJ u) λu=>hCT q 85 [t,u] λt=>G5 q t bF λt=>Gi t λt=>HG r (I 1) λr=>b c d g h i j k l o p t r) (OP e n Q a c d g h i j k l o q)
def Z0(a:F9):Nat->Ym
 |0=>N12
 |m+1=>TX e n Q a (Z0 a m)
def NT(a:F9):qY:=λb c d g h i j k l o=>G8 j λp=>G8 o λq=>Hy p q λp=>e12 (Z0 e n Q a) b c d g h i j k l o p (I 0)
def NR(a:F9):qY:=λb c d g h i j k l o=>JR l (I 0) λp=>cN p (Gi o λp=>NT e n Q a b c d g h i p k l o) (NT e n Q a b c d g h i j k l o)
def NU(e n:Nat)(Q:QT)(a:F9)(a:zH):zH:=λb c d g h i j k l o p q r=>HG r (I 1) λr=>a b c d g h i j k l o p q r
def Np(a:F9)(b:zH):zH:=λc d g h i j k l o p q r t=>G8 q λu=>HU t u λu=>cN u (Jo 1 q t λu=>H4 u λu=>oC 85 [p,u] λu=>T2 .not u λu=>cN u (Jo 1 q t λu=>H4 u λu=>On 1 [u] λu=>PZ 1 16 r u λu=>Gi u λu=>NU e n Q a b c d g h i j k l o p q u t) (NU e n Q a b c d g h i j k l o p q r t)) (NR e n Q a c d g h i j k l o r)
def Vw(a:F9):Nat->zH
 |0=>N13
 |m+1=>Np e n Q a (Vw a m)
def NQ(a:F9):zH:=λb c d g h i j k l o p q r=>Hr 2 o λo=>oC 124 [b,o,i,p,g] λo=>JV 1 b λo=>LD o (I 0) λo=>cN o (LO λo=>r1 o e n Q) (LO λo=>e13 (Vw e n Q a) b c d g h i j k l q r o (I 0))
def Nq(a:F9)(b:F14):F14:=λc d g h i j k l o p q r t u=>Hr 3 p λv=>G8 v λv=>HU u v λv=>cN v (Hr 3 p λv=>Jo 5 v u λv=>Hr 0 v λv=>oC 85 [t,v] λv=>T2 .not v λv=>cN v (Hr 3 p λv=>Jo 5 v u λv=>Hr 4 v λv=>oC 68 [c,v,I 24] λv=>LO λv=>r1 v e n Q) (HG u (I 1) λu=>b c d g h i j k l o p q r t u)) (NQ e n Q a c d g h i j k l o p q r t)
def aA(a:F9):Nat->F14
 |0=>N14
 |m+1=>Nq e n Q a (aA a m)
def MX(a:F9):wy:=λb c d g h i j k l o p=>Hr 1 o λq=>oC 124 [b,q,i,c,g] λq=>JV 1 b λq=>LD q (I 0) λq=>cN q (LO λq=>r1 q e n Q) (Hr 3 o λq=>Rq 69 [q] λq=>dS (dV (K8 4 o λr=>dV (dV (OS 1 16 .nil d λt=>dV (OS 1 16 t q λt=>dV (dC 86 [b,r,p,t,g] λr=>PN r λr=>dE [0,0,2,0,0,16,0,112,0,511,1023] (JV 1 b λt=>LD t (I 0) λt=>cN t (LO λt=>r1 t e n Q) (e14 (aA e n Q a) b c d g h i j k l o p q r (I 0))))))))))
def QA(a:F9)(b:Ym):Ym:=λc d g h i j k l o p q r=>Hr 3 p λt=>G8 t λt=>HU r t λt=>cN t (Hr 3 p λt=>Jo 5 t r λt=>Hr 0 t λt=>oC 85 [q,t] λt=>cN t (Hr 3 p λt=>Jo 5 t r λt=>Hr 4 t λt=>oC 68 [c,t,I 20] λt=>LO λt=>r1 t e n Q) (Hr 3 p λt=>Jo 5 t r λt=>Hr 0 t λt=>On 1 [t] λt=>PZ 1 16 q t λt=>Gi t λt=>HG r (I 1) λr=>b c d g h i j k l o p t r)) (MX e n Q a c d g h i j k l o p q)
def Vx(a:F9):Nat->Ym
 |0=>N12
 |m+1=>QA e n Q a (Vx a m)
def Vz(a:F9):F9:=λb c d g h i j k l=>Hr 10 h λo=>G8 o λo=>HU l o λo=>Lh o b λp=>H7 o (HK p) λp=>H7 o (Ho 1 p) λp=>H7 o (GJ p) λp=>H7 o (IN p (I 0)) λp=>G5 o p bF λo=>cN o (Hr 10 h λo=>Jo 6 o l λo=>Gd 6 o λo=>Kh zS λp=>GZ 6 o p λ_=>PZ 1 16 .nil c λo=>Gi o λo=>e12 (Vx e n Q a) b c d g h i j k l p o (I 0)) (QG e n Q b h j k)
def Ji:Nat->F9
 |0=>N9
 |m+1=>Vz e n Q (Ji m)
def UE:F6:=λa b c d g h=>LO λi=>e9 (Ji e n Q) a b c d g h i (I (-1)) (I 0)
def QB(a:F7):F7:=λb c d g h i j=>Hr 10 h λk=>G8 k λk=>HU j k λk=>cN k (Hr 10 h λk=>Jo 6 k j λk=>Hr 0 k λk=>oC 85 [i,k] λk=>cN k (Hr 10 h λk=>Jo 6 k j λk=>Hr 5 k λk=>oC 68 [b,k,I 20] λk=>LO λk=>r1 k e n Q) (Hr 10 h λk=>Jo 6 k j λk=>Hr 0 k λk=>On 1 [k] λk=>PZ 1 16 i k λk=>Gi k λk=>HG j (I 1) λj=>a b c d g h k j)) (UE e n Q b c d g h i)
def Vy:Nat->F7
 |0=>N7
 |m+1=>QB e n Q (Vy m)
def AO7:F5:=λa b c d g=>LK b λb=>LO λh=>LO λh=>e7 (Vy e n Q) a c d g b h (I 0)
def AF2:P5 108 AO7:=p5 func108 245 λe n Q=>(Fz (Fz (Fz (wA (J6 (UE e n Q) 0 2 3 4 6 11) (Fz (Fz (Fz (wA (J4 (QG e n Q) 0 6 13 14) (Fz (wA (J1 (PA e n Q) 13) Fx) Fx)) (Fz (GU (wL (λm=>J9 (Ji e n Q m) 0 2 3 4 6 11 13 14 15) λa=>(Fz (Fz (wA (J9 (Ob e n Q (Ji e n Q a)) 0 2 3 4 6 11 13 14 15) Fx) (GU (Fz (Fz (Fz (wA (J11 (MX e n Q (Ji e n Q a)) 0 2 3 4 6 11 13 14 15 16 17) (Fz (Fz (Fz (Fz (Fz (Fz (wA (J13 (NQ e n Q (Ji e n Q a)) 0 2 3 4 6 11 13 14 15 16 17 19 20) (Fz (Fz (Fz (Fz (wA (J10 (NR e n Q (Ji e n Q a)) 0 2 3 4 6 11 13 14 15 22) (Fz (wA (J10 (NT e n Q (Ji e n Q a)) 0 2 3 4 6 11 13 14 15 22) (Fz (Fz (wA (J10 (OP e n Q (Ji e n Q a)) 0 2 3 4 6 11 13 14 15 24) Fx) (Fz (GU (wL (λm=>J12 (Z0 e n Q (Ji e n Q a) m) 0 2 3 4 6 11 13 14 15 22 24 25) λb=>Fx)) Fx)) Fx)) Fx)) (Fz (GU (wL (λm=>J13 (Vw e n Q (Ji e n Q a) m) 0 2 3 4 6 11 13 14 15 19 20 22 23) λb=>(Fz (Fz (wA (J13 (NU e n Q (Ji e n Q a) (Vw e n Q (Ji e n Q a) b)) 0 2 3 4 6 11 13 14 15 19 20 22 23) Fx) Fx) Fx))) Fx)) Fx) Fx) Fx)) (Fz (GU (wL (λm=>J14 (aA e n Q (Ji e n Q a) m) 0 2 3 4 6 11 13 14 15 16 17 19 20 21) λb=>Fx)) Fx)) Fx) Fx) Fx) Fx) Fx)) (Fz (GU (wL (λm=>J12 (Vx e n Q (Ji e n Q a) m) 0 2 3 4 6 11 13 14 15 16 17 18) λa=>Fx)) Fx)) Fx) Fx))) Fx))) Fx)) Fx) Fx)) (Fz (GU (wL (λm=>J7 (Vy e n Q m) 0 2 3 4 6 11 12) λa=>Fx)) Fx)) Fx) Fx)
def QC(a:F5):F5:=λb c d g h=>Hr 7 g λi=>G8 i λi=>HU h i λi=>Lh i b λj=>H7 i (HK j) λj=>H7 i (Ho 1 j) λj=>H7 i (GJ j) λj=>H7 i (IN j (I 0)) λj=>G5 i j bF λi=>cN i (Hr 7 g λi=>Jo 9 i h λi=>Gd 9 i λi=>oC 109 [b,i,c,d] λi=>HG h (I 1) λh=>a b c d g h) (r0 e n Q)
def Rx:Nat->F5
 |0=>N5
 |m+1=>QC e n Q (Rx m)
def AO8:F4:=λa b c d=>LK b λb=>Hr 0 b λg=>JR g (I 2) λg=>Iq g (Ho 0 b) λh=>Iq g (GJ h) λh=>Iq g (IN h (I 9)) λh=>G5 g bT h λg=>Iq g (Ho 0 b) λh=>Iq g (GJ h) λh=>Iq g (IN h (I 10)) λh=>G5 g bT h λg=>Gi g λg=>Hr 2 b λh=>Rq 85 [c,h] λh=>Lh g h λh=>H7 g (JI .not h) λh=>G5 g h bF λg=>cN g (Hr 8 b λg=>oC 68 [a,g,I 21] λg=>r0 e n Q) (dS (K8 0 b λg=>dC 117 [g] λg=>dV (xa g a λh=>Ve g (HK h) λh=>Ve g (Ho 0 h) λh=>Ve g (GM 1 h) λh=>Ve g (Ho 2 b) λi=>Ve g (GJ i) λi=>xa g d λj=>eCT g 84 [h,i,j] λh=>Ve g (kV h (I 0)) λh=>M0 g h bF λg=>dE [0,1,3,7,15,31,63,127,15,271,15,2047,4095,8191] (cN g (Hr 8 b λg=>oC 68 [a,g,I 21] λg=>r0 e n Q) (Hr 0 b λg=>JR g (I 14) λg=>Iq g (Ho 0 b) λh=>Iq g (GJ h) λh=>Iq g (IN h (I 15)) λh=>G5 g bT h λg=>Iq g (Ho 0 b) λh=>Iq g (GJ h) λh=>Iq g (IN h (I 18)) λh=>G5 g bT h λg=>H7 g (Ho 7 b) λh=>H7 g (GJ h) λh=>H7 g (Gq h) λh=>H7 g (kV h (I 1)) λh=>G5 g h bF λg=>cN g (Hr 8 b λg=>oC 68 [a,g,I 23] λg=>r0 e n Q) (e5 (Rx e n Q) a c d b (I 0)))))))
def AF3:P4 109 AO8:=p4 func109 101 λe n Q=>(Fz (Fz (Fz (Fz (Fz (Fz (Fz (GU (wL (λm=>J5 (Rx e n Q m) 0 2 3 5 10) λa=>Fx)) Fx) Fx) Fx) Fx) Fx) Fx) Fx)
def fb(e n:Nat)(Q:QT)(a:F6):F6:=λb c d g h i=>HG i (I 1) λi=>a b c d g h i
def PD(a:F6):F6:=λb c d g h i=>G8 c λj=>HU i j λj=>Lh j b λk=>H7 j (HK k) λk=>H7 j (Ho 1 k) λk=>H7 j (GJ k) λk=>H7 j (IN k (I 0)) λk=>G5 j k bF λj=>cN j (Jo 12 c i λj=>Hr 9 j λj=>oC 85 [d,j] λj=>T2 .not j λj=>cN j (Jo 12 c i λj=>Hr 11 j λj=>oC 68 [b,j,I 21] λj=>r0 e n Q) (Jo 12 c i λj=>bf 0 j λj=>Gd 9 j λj=>oC 109 [b,j,g,h] λj=>Jo 12 c i λj=>bf 0 j λj=>Gd 9 j λj=>Rq 151 [j] λj=>cN j (Jo 12 c i λj=>Hr 11 j λj=>oC 68 [b,j,I 26] λj=>fb e n Q a b c d g h i) (fb e n Q a b c d g h i))) (r0 e n Q)
def UF:Nat->F6
 |0=>N6
 |m+1=>PD e n Q (UF m)
def API:F5:=λa b c d g=>e6 (UF e n Q) a b c d g (I 0)
def AGD:P5 124 API:=p5 func124 63 λe n Q=>(Fz (GU (wL (λm=>J6 (UF e n Q m) 0 1 2 3 4 10) λa=>(Fz (Fz (wA (J6 (fb e n Q (UF e n Q a)) 0 1 2 3 4 10) Fx) Fx) Fx))) Fx)
def fc:F0:=r1 bF e n Q
def R2(a:F2):F2:=λb c=>Hr 7 b λd=>G8 d λd=>HU c d λd=>cN d (Hr 7 b λd=>Jo 9 d c λd=>Gd 9 d λd=>Rq 151 [d] λd=>cN d (r1 bT e n Q) (HG c (I 1) λc=>a b c)) (fc e n Q)
def Xc:Nat->F2
 |0=>N2
 |m+1=>R2 e n Q (Xc m)
def APU:F1:=λa=>LK a λa=>Hr 0 a λb=>JR b (I 6) λb=>Iq b (Ho 0 a) λc=>Iq b (GJ c) λc=>Iq b (IN c (I 7)) λc=>G5 b bT c λb=>Iq b (Ho 0 a) λc=>Iq b (GJ c) λc=>Iq b (IN c (I 8)) λc=>G5 b bT c λb=>Iq b (Ho 0 a) λc=>Iq b (GJ c) λc=>Iq b (IN c (I 12)) λc=>G5 b bT c λb=>Iq b (Ho 0 a) λc=>Iq b (GJ c) λc=>hCF b 117 [c] λc=>G5 b bT c λb=>cN b (r1 bT e n Q) (e2 (Xc e n Q) a (I 0))
def AGP:P1 151 APU:=p1 func151 42 λe n Q=>(Fz (Fz (Fz (wA (J0 (fc e n Q)) Fx) (Fz (GU (wL (λm=>J2 (Xc e n Q m) 1 3) λa=>Fx)) Fx)) Fx) Fx)
def xN:F1:=λa=>Gi a λa=>r1 a e n Q
def iN(a:F3):F3:=λb c d=>G8 b λg=>HU d g λg=>cN g (Jo 5 b d λg=>Hr 0 g λg=>On 1 [g] λg=>PZ 1 16 c g λg=>Gi g λg=>HG d (I 1) λd=>a b g d) (xN e n Q c)
def mI:Nat->F3
 |0=>N3
 |m+1=>iN e n Q (mI m)
def c69:F1:=λa=>LO λb=>LO λb=>e3 (mI e n Q) a b (I 0)
def ALA:P1 69 c69:=p1 func69 20 λe n Q=>(Fz (Fz (Fz (wA (J1 (xN e n Q) 3) Fx) (Fz (GU (wL (λm=>J3 (mI e n Q m) 0 3 4) λa=>Fx)) Fx)) Fx) Fx)
def iD:F1:=λa=>dS (dV (NF a λb=>K8 2 b λb=>dV (NF a λa=>K8 1 a λa=>PN b λb=>PN a λa=>dE [0,1,3,7,0,16,48,112,15,511] (r2 b a e n Q))))
def aO(a:F3):F3:=λb c d=>Hr 0 b λg=>G8 g λg=>HU d g λg=>Lh g c λh=>H7 g (HK h) λh=>H7 g (Ho 1 h) λh=>H7 g (GJ h) λh=>H7 g (IN h (I 0)) λh=>G5 g h bF λg=>cN g (Hr 0 b λg=>Jo 6 g d λg=>Gd 6 g λg=>Kh zS λh=>GZ 6 g h λ_=>Gd 6 h λg=>Rq 40 [g,.nil] λg=>oC 55 [c,g] λi=>Hr 3 h λi=>oC 56 [c,i,g] λi=>Hr 4 h λh=>oC 57 [c,h,g] λg=>HG d (I 1) λd=>a b c d) (iD e n Q c)
def oK:Nat->F3
 |0=>N3
 |m+1=>aO e n Q (oK m)
def c35:F1:=λa=>LK a λa=>Gd 1 a λb=>IX [.nil,I 0,I 0] [(some (0,1),b)] λb=>LK b λb=>Gi b λb=>e3 (oK e n Q) a b (I 0)
def AKv:P1 35 c35:=p1 func35 53 λe n Q=>(Fz (Fz (Fz (wA (J1 (iD e n Q) 4) Fx) (Fz (GU (wL (λm=>J3 (oK e n Q m) 1 4 5) λa=>Fx)) Fx)) Fx) Fx)
def c40:F2:=λa b=>LK a λa=>LO λc=>Hr 1 a λc=>PZ 5 64 .nil c λc=>Gi c λc=>dS (dV (K8 2 a λd=>OS 5 64 c d λc=>K8 3 a λa=>OS 5 64 c a λa=>PN a λa=>dE [0,0,2,7,0,16,63,127] (PZ 5 64 a b λa=>Gi a λa=>r1 a e n Q)))
def AKw:P2 40 c40:=p2 func40 19 λe n Q=>Fx
def iJ(a:F3):F3:=λb c d=>G8 c λg=>HU d g λg=>cN g (Jo 5 c d λg=>bf 1 g λg=>Hr 1 g λg=>Pa g (I 16) λg=>cN g (Jo 5 c d λg=>Hr 4 g λg=>oC 68 [b,g,I 23] λg=>r0 e n Q) (HG d (I 1) λd=>a b c d)) (r0 e n Q)
def xK:Nat->F3
 |0=>N3
 |m+1=>iJ e n Q (xK m)
def c55:F2:=λa b=>e3 (xK e n Q) a b (I 0)
def AK4:P2 55 c55:=p2 func55 25 λe n Q=>(Fz (GU (wL (λm=>J3 (xK e n Q m) 0 1 4) λa=>Fx)) Fx)
def oM(e n:Nat)(Q:QT)(a:F4):F4:=λb c d g=>HG g (I 1) λg=>a b c d g
def cu(e n:Nat)(Q:QT)(a:F4)(a:F5):F5:=λb c d g h=>HG h (I 1) λh=>a b c d g h
def aU(a:F4)(b:F5):F5:=λc d g h i=>Jo 5 d h λj=>Hr 3 j λj=>G8 j λj=>HU i j λj=>Lh j c λk=>H7 j (HK k) λk=>H7 j (Ho 1 k) λk=>H7 j (GJ k) λk=>H7 j (IN k (I 0)) λk=>G5 j k bF λj=>cN j (dS (dV (dV (dV (dV (MF 5 d h λj=>K8 3 j λj=>dV (MF 2 j i λj=>K8 0 j λj=>dC 89 [g,j] λj=>MF 5 g j λj=>ai 1 j λj=>I3 2 j λj=>dC 90 [] λk=>jF .neq 74 j k λj=>dE [0,0,0,0,12,28,60,0,252,508,1020,2046,4095,8191,16383,4094,65535] (cN j (Jo 5 d h λj=>Hr 4 j λj=>oC 68 [c,j,I 22] λj=>cu e n Q a b c d g h i) (cu e n Q a b c d g h i))))))))) (oM e n Q a c d g h)
def Yr(a:F4):Nat->F5
 |0=>N5
 |m+1=>aU e n Q a (Yr a m)
def iK(a:F4):F4:=λb c d g=>G8 c λh=>HU g h λh=>Lh h b λi=>H7 h (HK i) λi=>H7 h (Ho 1 i) λi=>H7 h (GJ i) λi=>H7 h (IN i (I 0)) λi=>G5 h i bF λh=>cN h (e5 (Yr e n Q a) b c d g (I 0)) (r0 e n Q)
def YV:Nat->F4
 |0=>N4
 |m+1=>iK e n Q (YV m)
def c56:F3:=λa b c=>e4 (YV e n Q) a b c (I 0)
def AK5:P3 56 c56:=p3 func56 62 λe n Q=>(Fz (GU (wL (λm=>J4 (YV e n Q m) 0 1 2 6) λa=>(Fz (Fz (wA (J4 (oM e n Q (YV e n Q a)) 0 1 2 6) Fx) (GU (Fz (GU (wL (λm=>J5 (Yr e n Q (YV e n Q a) m) 0 1 2 6 7) λb=>(Fz (Fz (wA (J5 (cu e n Q (YV e n Q a) (Yr e n Q (YV e n Q a) b)) 0 1 2 6 7) Fx) Fx) Fx))) Fx))) Fx))) Fx)
end
end
section
open Go.Proofs Go.Proofs.Tryz
def Ys(e n:Nat)(Q:QT)(a:F4):F4:=λb c d g=>HG g (I 1) λg=>a b c d g
def UN(e n:Nat)(Q:QT)(a:F4)(a:F7):F7:=λb c d g h i j=>HG j (I 1) λj=>a b c d g h i j
section
variable(e n:Nat) (Q:QT)
def aW(a:F4)(b:F7):F7:=λc d g h i j k=>Hr 0 i λl=>G8 l λl=>HU k l λl=>Lh l c λo=>H7 l (HK o) λo=>H7 l (Ho 1 o) λo=>H7 l (GJ o) λo=>H7 l (IN o (I 0)) λo=>G5 l o bF λl=>cN l (dS (dV (dV (K8 0 i λl=>dV (MF 1 l k λl=>IS l λl=>dC 89 [g,l] λl=>MF 5 g l λl=>ai 1 l λl=>I3 2 l λl=>dV (dV (MF 2 j k λo=>I3 2 o λo=>jF .neq 74 l o λl=>dE [0,0,0,4,0,28,60,126,255,511,1023,0,0,6144,14336,32767] (cN l (Hr 11 i λl=>oC 68 [c,l,I 22] λl=>UN e n Q a b c d g h i j k) (UN e n Q a b c d g h i j k))))))))) (Ys e n Q a c d g h)
def WZ(a:F4):Nat->F7
 |0=>N7
 |m+1=>aW e n Q a (WZ a m)
def Yt(a:F4):F6:=λb c d g h i=>e7 (WZ e n Q a) b c d g h i (I 0)
def WX(a:F4):F5:=λb c d g h=>Hr 10 h λi=>G8 i λi=>Pa i (I 0) λi=>cN i (Ys e n Q a b c d g) (bf 1 h λi=>Gd 9 i λi=>Rq 92 [b,i,d] λi=>JV 1 b λj=>JR j (I 0) λj=>Lh j i λk=>H7 j (Gq k) λk=>H7 j (Ho 0 h) λl=>H7 j (GJ l) λl=>H7 j (Gq l) λl=>H7 j (Mn k l) λk=>G5 j k bF λj=>cN j (Hr 11 h λj=>oC 68 [b,j,I 23] λj=>Yt e n Q a b c d g h i) (Yt e n Q a b c d g h i))
def WY(a:F4)(b:F6):F6:=λc d g h i j=>Hr 10 i λk=>G8 k λk=>HU j k λk=>Lh k c λl=>H7 k (HK l) λl=>H7 k (Ho 1 l) λl=>H7 k (GJ l) λl=>H7 k (IN l (I 0)) λl=>G5 k l bF λk=>cN k (Hr 10 i λk=>Jo 6 k j λk=>Gd 6 k λk=>Kh zS λl=>GZ 6 k l λ_=>dS (dV (OS 5 64 .nil g λk=>K8 3 l λo=>OS 5 64 k o λk=>PN k λk=>dE [0,1,0,4,15,31] (Hr 3 l λo=>oC 55 [c,o] λo=>Hr 3 l λo=>oC 56 [c,o,k] λo=>Hr 1 l λo=>oC 91 [c,o,g] λo=>Hr 4 l λo=>oC 57 [c,o,k] λo=>Hr 2 l λl=>oC 91 [c,l,k] λk=>HG j (I 1) λj=>b c d g h i j)))) (WX e n Q a c d g h i)
def aV(a:F4):Nat->F6
 |0=>N6
 |m+1=>WY e n Q a (aV a m)
def iL(a:F4):F4:=λb c d g=>G8 c λh=>HU g h λh=>Lh h b λi=>H7 h (HK i) λi=>H7 h (Ho 1 i) λi=>H7 h (GJ i) λi=>H7 h (IN i (I 0)) λi=>G5 h i bF λh=>cN h (Jo 12 c g λh=>Gd 12 h λh=>Kh zI λi=>GZ 12 h i λ_=>e6 (aV e n Q a) b c d g i (I 0)) (r0 e n Q)
def OC:Nat->F4
 |0=>N4
 |m+1=>iL e n Q (OC m)
def c57:F3:=λa b c=>e4 (OC e n Q) a b c (I 0)
def AK6:P3 57 c57:=p3 func57 138 λe n Q=>(Fz (GU (wL (λm=>J4 (OC e n Q m) 0 1 2 6) λa=>(Fz (Fz (wA (J4 (Ys e n Q (OC e n Q a)) 0 1 2 6) Fx) (GU (Fz (Fz (wA (J5 (WX e n Q (OC e n Q a)) 0 1 2 6 7) (Fz (Fz (Fz (wA (J6 (Yt e n Q (OC e n Q a)) 0 1 2 6 7 11) (Fz (GU (wL (λm=>J7 (WZ e n Q (OC e n Q a) m) 0 1 2 6 7 11 12) λb=>(Fz (Fz (wA (J7 (UN e n Q (OC e n Q a) (WZ e n Q (OC e n Q a) b)) 0 1 2 6 7 11 12) Fx) Fx) Fx))) Fx)) Fx) Fx) Fx)) (Fz (GU (wL (λm=>J6 (aV e n Q (OC e n Q a) m) 0 1 2 6 7 8) λa=>Fx)) Fx)) Fx))) Fx))) Fx)
def xQ:F0:=r1 (I (-1)) e n Q
def ic(a:F3):F3:=λb c d=>Yh d (I 0) λg=>cN g (Jo 5 b d λg=>Hr 0 g λg=>IM .eql 9 g c λg=>cN g (Gi d λg=>r1 g e n Q) (Uy d (I 1) λd=>a b c d)) (xQ e n Q)
def xR:Nat->F3
 |0=>N3
 |m+1=>ic e n Q (xR m)
def c89:F2:=λa b=>G8 a λc=>Uy c (I 1) λc=>e3 (xR e n Q) a b c
def ALP:P2 89 c89:=p2 func89 21 λe n Q=>(Fz (Fz (wA (J0 (xQ e n Q)) Fx) (Fz (GU (wL (λm=>J3 (xR e n Q m) 0 1 5) λa=>Fx)) Fx)) Fx)
def c90:F0:=Kh [I 0,I 0] λa=>IX [I 0,I 0] [(some (0,1),(I 1))] λb=>GZ 2 b a λ_=>rF (λs=>[IJ (GM 2 a) s]) e n Q
def ALQ:P0 90 c90:=p0 func90 2 λe n Q=>Fx
def dB(e n:Nat)(Q:QT)(a:F4):F4:=λb c d g=>HG g (I 1) λg=>a b c d g
def Yw(a:F4):F4:=λb c d g=>G8 c λh=>HU g h λh=>Lh h b λi=>H7 h (HK i) λi=>H7 h (Ho 1 i) λi=>H7 h (GJ i) λi=>H7 h (IN i (I 0)) λi=>G5 h i bF λh=>cN h (Jo 12 c g λh=>bf 0 h λh=>Gd 9 h λh=>oC 110 [b,h,d] λh=>Kh [I 0,I 0] λi=>GZ 2 h i λ_=>dS (dV (NF b λh=>K8 1 h λh=>AI6 h (I 0) λh=>dV (Ve h (GM 2 i) λi=>eCT h 90 [] λj=>Ve h (qB .neq 74 i j) λi=>M0 h i bF λh=>dE [0,1,3,7,15,31,63,63,255,511] (cN h (Jo 12 c g λh=>Hr 11 h λh=>oC 68 [b,h,I 22] λh=>dB e n Q a b c d g) (dB e n Q a b c d g)))))) (r0 e n Q)
def ee:Nat->F4
 |0=>N4
 |m+1=>Yw e n Q (ee m)
def c91:F3:=λa b c=>e4 (ee e n Q) a b c (I 0)
def ALR:P3 91 c91:=p3 func91 46 λe n Q=>(Fz (GU (wL (λm=>J4 (ee e n Q m) 0 1 2 6) λa=>(Fz (Fz (wA (J4 (dB e n Q (ee e n Q a)) 0 1 2 6) Fx) Fx) Fx))) Fx)
def Lm:F4:=λa b c d=>LD c (I 0) λg=>cN g (Hr 8 b λb=>oC 68 [a,b,c] λa=>LO λa=>r1 a e n Q) (Gd 2 d λa=>On 2 [a] λa=>Gi a λa=>r1 a e n Q)
def RL:F5:=λa b c d g=>Jo 2 c (I 0) λc=>Gd 2 c λc=>GZ 2 c g λ_=>Lm e n Q a b d g
def RM:F5:=λa b c d g=>Mg 0 1 g d λ_=>Lm e n Q a b c d
def RN:F5:=λa b c d g=>Jo 2 c (I 1) λc=>Gd 2 c λc=>GZ 2 c g λ_=>Lm e n Q a b d g
def RP:F5:=λa b c d g=>Jo 2 c (I 0) λc=>Gd 2 c λc=>GZ 2 c g λ_=>Lm e n Q a b d g
def RQ:F5:=λa b c d g=>Jo 2 c (I 0) λc=>Gd 2 c λc=>GZ 2 c g λ_=>Lm e n Q a b d g
def RT:F5:=λa b c d g=>Jo 2 c (I 0) λc=>Gd 2 c λc=>GZ 2 c g λ_=>Lm e n Q a b d g
def RU:F4:=λa b c d=>bf 3 b λg=>Gd 2 g λg=>GZ 2 g d λ_=>Lm e n Q a b c d
def RV:F4:=λa b c d=>oC 90 [] λg=>GZ 2 g d λ_=>Lm e n Q a b c d
def Su:F5:=λa b c d g=>JR d (I 0) λh=>Lh h c λc=>H7 h (Gq c) λc=>H7 h (SH c (I 16)) λc=>G5 h c bF λc=>cN c (Lm e n Q a b (I 23) g) (Lm e n Q a b d g)
def RW(e n:Nat)(Q:QT)(a:F6):F6:=λb c d g h i=>HG i (I 1) λi=>a b c d g h i
def Wc(a:F6):F6:=λb c d g h i=>G8 d λj=>HU i j λj=>cN j (dS (dV (dV (MF 2 d i λj=>I3 2 j λj=>dV (MF 2 d (I 0) λk=>I3 2 k λk=>jF .neq 74 j k λj=>dV (Sv j d λk=>Sv j i λl=>Kp j (Ip 2 k l) λk=>Kp j (Ho 1 k) λk=>Kp j (GJ k) λk=>Kp j (SH k (I 0)) λk=>M0 j bT k λj=>dE [0,0,3,7,0,16,48,127,255,511,511,2047,4095,8191,16383,32767] (cN j (RW e n Q a b c d (I 22) h i) (RW e n Q a b c d g h i)))))))) (Su e n Q b c d g h)
def Ua:Nat->F6
 |0=>N6
 |m+1=>Wc e n Q (Ua m)
def QL:F5:=λa b c d g=>Jo 2 c (I 0) λc=>Hr 0 c λc=>Mg 0 1 c g λ_=>Lm e n Q a b d g
def QM:F5:=λa b c d g=>dS (dV (MF 2 c (I 0) λc=>K8 0 c λc=>K8 5 b λh=>dJ [I 0,I 0] [(some (0,1),c),(some (1,1),h)] λc=>KC 2 c g λ_=>dE [0,1,3,7,0,16,63,127] (Lm e n Q a b d g)))
def PL:F7:=λa b c d g h i=>cN i (Gd 9 b λi=>Rq 113 [a,i,c] λi=>r1 i e n Q) (Hy h (I 15) λi=>cN i (Jo 2 c (I 0) λi=>Hr 0 i λi=>G8 c λj=>IX [I 0,I 0] [(some (0,1),i),(some (1,1),j)] λi=>GZ 2 i g λ_=>e6 (Ua e n Q) a b c d g (I 0)) (Hy h (I 16) λi=>cN i (Jo 2 c (I 0) λi=>Hr 1 i λi=>Hy i (I 0) λi=>cN i (QL e n Q a b c (I 22) g) (dS (K8 5 b λi=>dV (MF 2 c (I 0) λj=>K8 1 j λj=>AP1 i j λi=>PN i λi=>dE [0,1,0,4,12,28,63,127] (cN i (QL e n Q a b c (I 23) g) (QL e n Q a b c d g)))))) (Hy h (I 17) λh=>cN h (Jo 2 c (I 0) λh=>Hr 1 h λh=>ANT h (I 0) λh=>cN h (QM e n Q a b c (I 22) g) (Hr 5 b λh=>HU h (I 1) λh=>Iq h (Ho 5 b) λi=>Iq h (GJ i) λi=>Iq h (SH i (I 16)) λi=>G5 h bT i λh=>Gi h λh=>cN h (QM e n Q a b c (I 23) g) (QM e n Q a b c d g))) (Lm e n Q a b d g))))
def RO:F8:=λa b c d g h i j=>cN j (dS (dV (MF 2 d (I 0) λj=>I3 2 j λj=>dV (MF 2 d (I 1) λk=>I3 2 k λk=>jF .neq 74 j k λj=>dE [0,1,3,0,8,24,63] (cN j (RP e n Q a c d (I 22) h) (RP e n Q a c d g h)))))) (Hy i (I 9) λj=>cN j (dS (dV (dV (K8 2 c λj=>dC 89 [b,j] λj=>MF 5 b j λj=>ai 1 j λj=>I3 2 j λj=>dC 90 [] λk=>jF .neq 74 j k λj=>dE [0,0,0,4,14,31,63,127,30,511] (cN j (RQ e n Q a c d (I 22) h) (RQ e n Q a c d g h)))))) (Hy i (I 10) λj=>cN j (dS (dV (dV (K8 2 c λj=>dC 89 [b,j] λj=>MF 5 b j λb=>ai 1 b λb=>I3 2 b λb=>dC 90 [] λj=>jF .neq 74 b j λb=>dV (Sv b d λj=>Kp b (Ip 2 j (I 0)) λj=>Kp b (GM 2 j) λj=>Sv b d λk=>Kp b (Ip 2 k (I 1)) λk=>Kp b (GM 2 k) λk=>Kp b (qB .neq 74 j k) λj=>M0 b bT j λb=>dE [0,0,0,4,14,31,63,127,30,511,1023,2047,4095,8191,2047,18431,51199,131071,262143] (cN b (RT e n Q a c d (I 22) h) (RT e n Q a c d g h))))))) (Hy i (I 11) λb=>cN b (Jo 2 d (I 0) λb=>Hr 1 b λb=>Pa b (I 0) λb=>cN b (RU e n Q a c (I 22) h) (RU e n Q a c g h)) (Hy i (I 12) λb=>cN b (Hr 5 c λb=>HU b (I 1) λb=>Iq b (Ho 5 c) λj=>Iq b (GJ j) λj=>Iq b (SH j (I 64)) λj=>G5 b bT j λb=>Iq b (Ho 6 c) λj=>Iq b (GJ j) λj=>Iq b (Ho 5 c) λk=>Iq b (GJ k) λk=>Iq b (AEd j k) λj=>G5 b bT j λb=>cN b (RV e n Q a c (I 23) h) (RV e n Q a c g h)) (Hy i (I 13) λb=>cN b (PL e n Q a c d g h i b) (Hy i (I 14) λb=>cN b (PL e n Q a c d g h i b) (Hy i (I 18) λb=>cN b (PL e n Q a c d g h i b) (Hy i (I 19) λb=>PL e n Q a c d g h i b))))))))
def ab:F4:=λa b c d=>JV 1 a λg=>LD g (I 0) λg=>cN g (LO λg=>r1 g e n Q) (IX [I 0,I 0] [] λg=>Kh [I 0,I 0] λh=>GZ 2 g h λ_=>Hr 0 c λg=>Hy g (I 1) λi=>cN i (bf 3 c λi=>Gd 2 i λi=>GZ 2 i h λ_=>Lm e n Q a c (I 0) h) (Hy g (I 2) λi=>cN i (Hr 2 c λi=>oC 89 [b,i] λi=>Jo 5 b i λi=>bf 1 i λi=>Gd 2 i λi=>GZ 2 i h λ_=>Lm e n Q a c (I 0) h) (Hy g (I 3) λi=>cN i (dS (K8 1 c λi=>dV (MF 2 d (I 0) λj=>K8 0 j λj=>dC 111 [i,j,I 0] λi=>dV (dEx 0 i λj=>dEx 1 i λi=>PN j λj=>PN i λi=>dE [0,1,0,4,12,28,63,127,255,255,511,2047] (T2 .not i λi=>SN i d λj=>Iq i (Ip 2 j (I 0)) λj=>Iq i (Ho 1 j) λj=>Iq i (GJ j) λj=>Iq i (SH j (I 0)) λj=>G5 i bT j λi=>cN i (RL e n Q a c d (I 22) h) (RL e n Q a c d (I 0) h)))))) (Hy g (I 4) λi=>cN i (dS (K8 1 c λi=>dV (MF 2 d (I 0) λj=>K8 0 j λj=>dC 112 [i,j,I 0,I 0] λi=>dV (dEx 0 i λj=>dEx 1 i λk=>dEx 2 i λi=>PN j λj=>PN k λj=>PN i λi=>dE [0,1,0,4,12,28,63,127,255,255,255,511,3071,8191] (dS (dV (dUn .not i λi=>dV (Sv i d λk=>Kp i (Ip 2 k (I 0)) λk=>Kp i (Ho 1 k) λk=>Kp i (GJ k) λk=>Kp i (SH k (I 0)) λk=>M0 i bT k λi=>dV (Sv i d λk=>Kp i (Ip 2 k (I 1)) λk=>Kp i (GM 2 k) λk=>Sv i d λl=>Kp i (Ip 2 l (I 0)) λl=>Kp i (GM 2 l) λl=>Kp i (qB .neq 74 k l) λk=>M0 i bT k λi=>dE [0,1,3,7,15,31,63,127,255,511,1023,2047,4095,1023,9215,25599,65535,131071] (cN i (RM e n Q a c (I 22) h j) (RM e n Q a c (I 0) h j))))))))))) (Hy g (I 5) λi=>cN i (dS (dV (MF 2 d (I 0) λi=>I3 2 i λi=>dC 90 [] λj=>jF .neq 74 i j λi=>dV (Sv i d λj=>Kp i (Ip 2 j (I 1)) λj=>Kp i (GM 2 j) λj=>Sv i d λk=>Kp i (Ip 2 k (I 2)) λk=>Kp i (GM 2 k) λk=>Kp i (qB .neq 74 j k) λj=>M0 i bT j λi=>dE [0,1,3,0,15,31,63,127,255,63,575,1599,4095,8191] (cN i (RN e n Q a c d (I 22) h) (RN e n Q a c d (I 0) h)))))) (Hy g (I 6) λi=>cN i (Jo 2 d (I 0) λi=>Gd 2 i λi=>GZ 2 i h λ_=>Lm e n Q a c (I 0) h) (Hy g (I 7) λi=>cN i (RO e n Q a b c d (I 0) h g i) (Hy g (I 8) λi=>RO e n Q a b c d (I 0) h g i))))))))
def Wd(a:F5):F5:=λb c d g h=>Hr 7 d λi=>G8 i λi=>HU h i λi=>Lh i b λj=>H7 i (HK j) λj=>H7 i (Ho 1 j) λj=>H7 i (GJ j) λj=>H7 i (IN j (I 0)) λj=>G5 i j bF λi=>cN i (Hr 7 d λi=>Jo 9 i h λi=>Gd 9 i λi=>oC 110 [b,i,c] λi=>On 2 [i] λi=>PZ 2 16 g i λi=>Gi i λi=>HG h (I 1) λh=>a b c d i h) (ab e n Q b c d g)
def ae:Nat->F5
 |0=>N5
 |m+1=>Wd e n Q (ae m)
def c92:F3:=λa b c=>LK b λb=>LO λd=>LO λd=>e5 (ae e n Q) a c b d (I 0)
def ALS:P3 92 c92:=p3 func92 325 λe n Q=>(Fz (Fz (Fz (wA (J4 (ab e n Q) 0 2 4 7) (Fz (Fz (Fz (Fz (wA (J4 (Lm e n Q) 0 4 9 10) Fx) (Fz (GU (Fz (I5 Fx (Fz (I5 Fx (Fz (I5 (Fz (Fz (wA (J5 (RL e n Q) 0 4 7 9 10) Fx) Fx) Fx) (Fz (I5 (Fz (Fz (wA (J5 (RM e n Q) 0 4 9 10 14) Fx) Fx) Fx) (Fz (I5 (Fz (wA (J5 (RN e n Q) 0 4 7 9 10) Fx) Fx) (Fz (I5 Fx (Fz (wA (J8 (RO e n Q) 0 2 4 7 9 10 49 145) (I5 (Fz (wA (J5 (RP e n Q) 0 4 7 9 10) Fx) Fx) (Fz (I5 (Fz (wA (J5 (RQ e n Q) 0 4 7 9 10) Fx) Fx) (Fz (I5 (Fz (wA (J5 (RT e n Q) 0 4 7 9 10) Fx) Fx) (Fz (I5 (Fz (wA (J4 (RU e n Q) 0 4 9 10) Fx) Fx) (Fz (I5 (Fz (wA (J4 (RV e n Q) 0 4 9 10) Fx) Fx) (Fz (wA (J7 (PL e n Q) 0 4 7 9 10 49 224) (I5 Fx (Fz (I5 (Fz (Fz (wA (J5 (Su e n Q) 0 4 7 9 10) Fx) (Fz (GU (wL (λm=>J6 (Ua e n Q m) 0 4 7 9 10 16) λa=>(Fz (Fz (wA (J6 (RW e n Q (Ua e n Q a)) 0 4 7 9 10 16) Fx) Fx) Fx))) Fx)) Fx) (Fz (I5 (Fz (wA (J5 (QL e n Q) 0 4 7 9 10) Fx) Fx) (Fz (I5 (Fz (wA (J5 (QM e n Q) 0 4 7 9 10) Fx) Fx) Fx) Fx)) Fx)) Fx))) Fx)) Fx)) Fx)) Fx)) Fx))) Fx)) Fx)) Fx)) Fx)) Fx)) Fx)) Fx)) Fx)) Fx) Fx) Fx)) (Fz (GU (wL (λm=>J5 (ae e n Q m) 0 2 4 7 8) λa=>Fx)) Fx)) Fx) Fx)
def XZ:F3:=λa b c=>JV 1 a λa=>LD a (I 0) λa=>cN a (IX [I 0,I 0] [] λa=>GZ 2 a b λ_=>rF (λs=>[IJ (GM 2 b) s]) e n Q) (Jo 2 c (I 0) λa=>Gd 2 a λa=>GZ 2 a b λ_=>rF (λs=>[IJ (GM 2 b) s]) e n Q)
def AO9:F3:=λa b c=>LK b λb=>Kh [I 0,I 0] λd=>Gd 9 b λg=>Rq 92 [a,g,c] λc=>JV 1 a λg=>JR g (I 0) λg=>Lh g c λh=>H7 g (Gq h) λh=>H7 g (Mn h (I 1)) λh=>G5 g h bF λg=>cN g (Hr 8 b λb=>oC 68 [a,b,I 23] λb=>XZ e n Q a d c) (XZ e n Q a d c)
def AF4:P3 110 AO9:=p3 func110 35 λe n Q=>(Fz (Fz (Fz (wA (J3 (XZ e n Q) 0 6 7) Fx) Fx) Fx) Fx)
def QH:F4:=λa b c d=>LD c (I 0) λg=>cN g (Hr 8 b λb=>oC 68 [a,b,c] λa=>LO λa=>r1 a e n Q) (Gi d λa=>r1 a e n Q)
def TY(a:F6):F6:=λb c d g h i=>Hr 2 d λj=>G8 j λj=>HU i j λj=>cN j (Hr 2 d λj=>Jo 5 j i λj=>bf 1 j λj=>Gd 2 j λj=>On 2 [j] λj=>PZ 2 16 h j λj=>Gi j λj=>HG i (I 1) λi=>a b c d g j i) (QH e n Q b c g h)
def V0:Nat->F6
 |0=>N6
 |m+1=>TY e n Q (V0 m)
def Qe:F5:=λa b c d g=>e6 (V0 e n Q) a b c d g (I 0)
def Qd:F6:=λa b c d g h=>dS (K8 0 c λi=>AI6 i (I 14) λi=>dV (xa i b λj=>xa i b λb=>Ve i (Gq b) λb=>Ve i (ASN b (I 1)) λb=>Ve i (Ip 2 j b) λb=>Ve i (GM 2 b) λb=>eCT i 90 [] λj=>Ve i (qB .neq 74 b j) λb=>M0 i b bF λb=>dE [0,1,3,7,15,15,47,111,255,511,15,2047,4095] (cN b (Qe e n Q a c d (I 22) h) (Qe e n Q a c d g h))))
def Qf(e n:Nat)(Q:QT)(a:F7):F7:=λb c d g h i j=>HG j (I 1) λj=>a b c d g h i j
def Ta(a:F7):F7:=λb c d g h i j=>Hr 1 g λk=>G8 k λk=>HU j k λk=>cN k (dS (dV (dV (MF 2 c j λk=>I3 2 k λk=>K8 1 g λl=>dV (MF 5 l j λl=>ai 1 l λl=>I3 2 l λl=>jF .neq 74 k l λk=>dE [0,0,3,7,0,16,0,112,240,496,1023] (cN k (Qf e n Q a b c d g (I 22) i j) (Qf e n Q a b c d g h i j))))))) (Qd e n Q b c d g h i)
def TZ:Nat->F7
 |0=>N7
 |m+1=>Ta e n Q (TZ m)
def Qc:F7:=λa b c d g h i=>G8 b λj=>LD j i λi=>cN i (Hr 8 c λi=>oC 68 [a,i,I 23] λi=>LO λi=>r1 i e n Q) (e7 (TZ e n Q) a b c d g h (I 0))
def Ry:F5:=λa b c d g=>dS (K8 2 d λd=>MF 5 d (I 0) λd=>ai 1 d λd=>K8 0 d λd=>dV (MF 2 b (I 0) λb=>K8 1 b λb=>dJ [I 0,I 0] [(some (0,1),d),(some (1,1),b)] λb=>VY 2 [b] λb=>PN b λb=>dE [0,1,3,7,15,31,0,64,192,448,1023,2047,4095] (QH e n Q a c g b)))
def Qh(e n:Nat)(Q:QT)(a:F6):F6:=λb c d g h i=>HG i (I 1) λi=>a b c d g h i
def Tb(a:F6):F6:=λb c d g h i=>G8 c λj=>HU i j λj=>cN j (dS (K8 1 g λj=>dV (MF 5 j i λj=>ai 1 j λj=>K8 1 j λj=>AI7 j (I 0) λj=>dV (Sv j c λk=>Sv j i λl=>Kp j (Ip 2 k l) λk=>Kp j (Ho 1 k) λk=>Kp j (GJ k) λk=>Kp j (IN k (I 0)) λk=>M0 j bT k λj=>dV (Sv j c λk=>Sv j i λl=>Kp j (Ip 2 k l) λk=>Kp j (Ho 1 k) λk=>Kp j (GJ k) λk=>Sv j c λl=>Kp j (Ip 2 l (I 0)) λl=>Kp j (Ho 1 l) λl=>Kp j (GJ l) λl=>Kp j (Mn k l) λk=>M0 j bT k λj=>dV (Sv j c λk=>Sv j i λl=>Kp j (Ip 2 k l) λk=>Kp j (Ho 0 k) λk=>Kp j (GJ k) λk=>Kp j (Ho 1 g) λl=>Kp j (GJ l) λl=>Sv j i λo=>Kp j (Ip 5 l o) λl=>Kp j (Ho 1 l) λl=>Kp j (Ho 0 l) λl=>Kp j (GJ l) λl=>Kp j (Mn k l) λk=>M0 j bT k λj=>dE [0,1,0,7,15,31,63,127,255,511,511,2047,4095,8191,16383,32767,65535,131071,131071,524287,1048575,2097151,131071,4325375,12713983,29491199,67108863,134217727,268435455,536870911,536870911,2147483647,4294967295,8589934591,536870911,17716740095,536870911,120795955199,258234908671,533112815615,1082868629503,2199023255551,4398046511103] (cN j (Qh e n Q a b c d g (I 22) i) (Qh e n Q a b c d g h i)))))))) (Ry e n Q b c d g h)
def Rz:Nat->F6
 |0=>N6
 |m+1=>Tb e n Q (Rz m)
def Qg:F5:=λa b c d g=>e6 (Rz e n Q) a b c d g (I 0)
def PB:F4:=λa b c d=>Gd 2 d λd=>On 2 [d] λd=>Gi d λd=>QH e n Q a b c d
def Qb:F8:=λa b c d g h i j=>cN j (Hr 1 d λj=>G8 j λj=>Gi j λj=>Hr 0 c λk=>JR k (I 14) λk=>cN k (HG j (I 1) λk=>Qc e n Q a b c d g h k) (Qc e n Q a b c d g h j)) (Hy i (I 18) λj=>cN j (Hr 2 d λj=>G8 j λj=>LD j (I 1) λj=>Iq j (Ho 1 d) λk=>Iq j (GJ k) λk=>Iq j (Gq k) λk=>SN j b λl=>Iq j (Gq l) λl=>Iq j (Mn k l) λk=>G5 j bT k λj=>cN j (Hr 8 c λj=>oC 68 [a,j,I 23] λj=>LO λj=>r1 j e n Q) (Hr 2 d λj=>Jo 5 j (I 0) λj=>bf 1 j λj=>Hr 1 j λj=>Pa j (I 0) λj=>cN j (Qg e n Q a b c d (I 22)) (Qg e n Q a b c d g))) (Hy i (I 19) λi=>cN i (Hr 2 d λi=>G8 i λi=>LD i (I 1) λi=>Iq i (Ho 1 d) λj=>Iq i (GJ j) λj=>Iq i (Gq j) λj=>Iq i (Mn j (I 2)) λj=>G5 i bT j λi=>cN i (Hr 8 c λi=>oC 68 [a,i,I 23] λi=>LO λi=>r1 i e n Q) (Hr 1 d λi=>Jo 5 i (I 0) λi=>bf 1 i λi=>Gd 2 i λi=>Kh [I 0,I 0] λj=>GZ 2 i j λ_=>Hr 1 d λi=>Jo 5 i (I 1) λi=>bf 1 i λi=>Gd 2 i λi=>Kh [I 0,I 0] λk=>GZ 2 i k λ_=>dS (K8 1 j λi=>AI7 i (I 0) λi=>dV (Kp i (Ho 1 k) λl=>Kp i (GJ l) λl=>Kp i (SH l (I 0)) λl=>M0 i bT l λi=>dV (Kp i (Ho 2 d) λd=>Kp i (GJ d) λd=>Kp i (Ip 5 d (I 0)) λd=>Kp i (Ho 1 d) λd=>Kp i (GM 2 d) λd=>Kp i (GM 2 j) λl=>Kp i (qB .neq 74 d l) λd=>M0 i bT d λd=>dV (Sv d b λi=>Kp d (Ip 2 i (I 0)) λi=>Kp d (GM 2 i) λi=>Kp d (GM 2 j) λl=>Kp d (qB .neq 74 i l) λi=>M0 d bT i λd=>dV (Sv d b λi=>Kp d (Ip 2 i (I 1)) λi=>Kp d (Ho 1 i) λi=>Kp d (GJ i) λi=>Kp d (IN i (I 0)) λi=>M0 d bT i λd=>dV (Sv d b λb=>Kp d (Ip 2 b (I 1)) λb=>Kp d (Ho 0 b) λb=>Kp d (GJ b) λb=>Kp d (Ho 0 k) λi=>Kp d (GJ i) λi=>Kp d (Mn b i) λb=>M0 d bT b λb=>dE [0,1,3,7,15,31,63,127,255,511,1023,2047,4095,8191,511,32767,65535,131071,262143,524287,1048575,262143,4194303,8388607,16777215,33554431,67108863,134217727,268435455,536870911,1073741823,2147483647,4294967295,8589934591,17179869183,34359738367,4294967295,73014444031,274877906943,549755813887] (cN b (PB e n Q a c (I 22) j) (PB e n Q a c g j)))))))))) (QH e n Q a c g h)))
def APA:F3:=λa b c=>LK b λb=>LO λd=>dS (dV (NF a λd=>ai 0 d λd=>K8 0 d λd=>dV (NF a λg=>ai 0 g λg=>I3 1 g λg=>K8 2 b λh=>dV (NF a λi=>ai 0 i λi=>K8 0 i λi=>AI8 i λi=>dC 84 [g,h,i] λg=>MF 6 d g λd=>I3 6 d λd=>dBx zS λg=>KC 6 d g λ_=>dE [0,1,3,7,15,0,32,96,224,0,512,0,2048,6144,14336,30720,63488,131040,262143,524287,0,2097151] (LO λd=>Hr 0 b λh=>Hy h (I 13) λi=>cN i (Qb e n Q a c b g (I 0) d h i) (Hy h (I 14) λi=>Qb e n Q a c b g (I 0) d h i))))))
def AF5:P3 113 APA:=p3 func113 266 λe n Q=>(Fz (Fz (Fz (Fz (Fz (wA (J4 (QH e n Q) 0 4 8 9) Fx) (Fz (GU (Fz (wA (J8 (Qb e n Q) 0 2 4 7 8 9 37 38) (I5 (Fz (Fz (wA (J7 (Qc e n Q) 0 2 4 7 8 9 10) (Fz (Fz (wA (J6 (Qd e n Q) 0 2 4 7 8 9) (Fz (wA (J5 (Qe e n Q) 0 4 7 8 9) (Fz (GU (wL (λm=>J6 (V0 e n Q m) 0 4 7 8 9 12) λa=>Fx)) Fx)) Fx)) (Fz (GU (wL (λm=>J7 (TZ e n Q m) 0 2 4 7 8 9 11) λa=>(Fz (Fz (wA (J7 (Qf e n Q (TZ e n Q a)) 0 2 4 7 8 9 11) Fx) Fx) Fx))) Fx)) Fx)) Fx) Fx) (Fz (I5 (Fz (Fz (wA (J5 (Qg e n Q) 0 2 4 7 8) (Fz (wA (J5 (Ry e n Q) 0 2 4 7 8) Fx) (Fz (GU (wL (λm=>J6 (Rz e n Q m) 0 2 4 7 8 13) λa=>(Fz (Fz (wA (J6 (Qh e n Q (Rz e n Q a)) 0 2 4 7 8 13) Fx) Fx) Fx))) Fx))) Fx) Fx) (Fz (I5 (Fz (Fz (Fz (Fz (wA (J4 (PB e n Q) 0 4 8 14) Fx) Fx) Fx) Fx) Fx) Fx) Fx)) Fx))) Fx)) Fx)) Fx) Fx) Fx) Fx)
def nw:F1:=λa=>Gi a λa=>r1 a e n Q
def aC:F3:=λa b c=>oC 155 [a] λa=>Lh a c λd=>Lh a b λg=>H7 a (ASM g (I 2)) λg=>H7 a (AEd d g) λd=>G5 a d bF λa=>cN a (Uy c b λa=>nw e n Q a) (nw e n Q c)
def APJ:F2:=λa b=>Rq 152 [a] λc=>JR c (I 0) λd=>cN d (r1 (I 0) e n Q) (JR c (I 64) λd=>cN d (Gi b λd=>r1 d e n Q) (Rq 154 [c] λc=>ANU b c λb=>HU b (I 0) λd=>cN d (HG b c λd=>aC e n Q a c d) (aC e n Q a c b)))
def AGE:P2 128 APJ:=p2 func128 37 λe n Q=>(Fz (Fz (Fz (Fz (Fz (Fz (Fz (wA (J3 (aC e n Q) 0 6 7) (Fz (wA (J1 (nw e n Q) 7) Fx) Fx)) Fx) Fx) Fx) Fx) Fx) Fx) Fx)
def ff:F1:=λa=>cN a (r1 (I 64) e n Q) (r1 (I 0) e n Q)
def fe:F2:=λa b=>cN b (r1 (I 32) e n Q) (Hy a (I 5) λb=>cN b (ff e n Q b) (Hy a (I 9) λa=>ff e n Q a))
def n9:F2:=λa b=>cN b (r1 (I 16) e n Q) (Hy a (I 4) λb=>cN b (fe e n Q a b) (Hy a (I 8) λb=>fe e n Q a b))
def n8:F2:=λa b=>cN b (r1 (I 8) e n Q) (Hy a (I 3) λb=>cN b (n9 e n Q a b) (Hy a (I 7) λb=>n9 e n Q a b))
def APV:F1:=λa=>Hy a (I 1) λb=>cN b (r1 (I 1) e n Q) (Hy a (I 2) λb=>cN b (n8 e n Q a b) (Hy a (I 6) λb=>n8 e n Q a b))
def AGQ:P1 152 APV:=p1 func152 18 λe n Q=>(Fz (Fz Fx (Fz (GU (Fz (I5 Fx (Fz (wA (J2 (n8 e n Q) 3 6) (I5 Fx (Fz (wA (J2 (n9 e n Q) 3 9) (I5 Fx (Fz (wA (J2 (fe e n Q) 3 12) (I5 Fx (Fz (wA (J1 (ff e n Q) 15) Fx) Fx))) Fx))) Fx))) Fx)) Fx)) Fx)) Fx)
def AB7:F1:=λa=>Gi a λa=>r1 a e n Q
def UH(a:F3):F3:=λb c d=>HU d b λg=>cN g (AEJ (I 2) c λg=>HG d (I 1) λd=>a b g d) (AB7 e n Q c)
def oA:Nat->F3
 |0=>N3
 |m+1=>UH e n Q (oA m)
def APW:F1:=λa=>e3 (oA e n Q) a (I 1) (I 0)
def AGR:P1 154 APW:=p1 func154 13 λe n Q=>(Fz (Fz (Fz (wA (J1 (AB7 e n Q) 3) Fx) (Fz (GU (wL (λm=>J3 (oA e n Q m) 0 3 4) λa=>Fx)) Fx)) Fx) Fx)
def APX:F1:=λa=>Yh a (I 2) λb=>Lh b a λa=>H7 b (ASL a (I 5)) λa=>G5 b a bF λa=>Gi a λa=>r1 a e n Q
def AGS:P1 155 APX:=p1 func155 9 λe n Q=>Fx
def cm:F1:=λa=>dS (dV (NF a λb=>K8 2 b λb=>dV (NF a λa=>K8 1 a λa=>PN b λb=>PN a λa=>dE [0,1,3,7,0,16,48,112,15,511] (r2 b a e n Q))))
def aM(a:F3):F3:=λb c d=>Hr 0 b λg=>G8 g λg=>HU d g λg=>Lh g c λh=>H7 g (HK h) λh=>H7 g (Ho 1 h) λh=>H7 g (GJ h) λh=>H7 g (IN h (I 0)) λh=>G5 g h bF λg=>cN g (Hr 0 b λg=>Jo 6 g d λg=>Gd 6 g λg=>Kh zS λh=>GZ 6 g h λ_=>Gd 6 h λg=>Rq 40 [g,.nil] λg=>Hr 3 h λi=>oC 41 [c,i,g] λi=>Hr 4 h λh=>oC 42 [c,h,g,bF,.nil] λg=>HG d (I 1) λd=>a b c d) (cm e n Q c)
def gz:Nat->F3
 |0=>N3
 |m+1=>aM e n Q (gz m)
def c26:F1:=λa=>LK a λa=>Gd 1 a λb=>IX [.nil,I 0,I 0] [(some (0,1),b)] λb=>LK b λb=>Gi b λb=>e3 (gz e n Q) a b (I 0)
def AKq:P1 26 c26:=p1 func26 50 λe n Q=>(Fz (Fz (Fz (wA (J1 (cm e n Q) 4) Fx) (Fz (GU (wL (λm=>J3 (gz e n Q m) 1 4 5) λa=>Fx)) Fx)) Fx) Fx)
def cq(e n:Nat)(Q:QT)(a:F4):F4:=λb c d g=>HG g (I 1) λg=>a b c d g
def aP(a:F4)(b:F5):F5:=λc d g h i=>Jo 5 d h λj=>Hr 3 j λj=>G8 j λj=>HU i j λj=>cN j (dS (dV (dV (dV (MF 5 d h λj=>K8 3 j λj=>dV (MF 2 j i λj=>K8 0 j λj=>dC 67 [g,j] λj=>dV (dV (MF 5 d h λk=>K8 3 k λk=>dV (AT8 2 false true k [i] λk=>dC 66 [j,k] λj=>dUn .not j λj=>dE [0,0,0,6,14,30,0,126,254,510,1023,0,0,6144,14336,30720,0,129024,262143,524287] (cN j (Jo 5 d h λj=>Hr 4 j λj=>oC 68 [c,j,I 27] λj=>cq e n Q a c d g h) (HG i (I 1) λi=>b c d g h i))))))))))) (cq e n Q a c d g h)
def iF(a:F4):Nat->F5
 |0=>N5
 |m+1=>aP e n Q a (iF a m)
def iE(a:F4):F4:=λb c d g=>G8 c λh=>HU g h λh=>Lh h b λi=>H7 h (HK i) λi=>H7 h (Ho 1 i) λi=>H7 h (GJ i) λi=>H7 h (IN i (I 0)) λi=>G5 h i bF λh=>cN h (e5 (iF e n Q a) b c d g (I 0)) (r0 e n Q)
def ea:Nat->F4
 |0=>N4
 |m+1=>iE e n Q (ea m)
def c41:F3:=λa b c=>e4 (ea e n Q) a b c (I 0)
def AKx:P3 41 c41:=p3 func41 58 λe n Q=>(Fz (GU (wL (λm=>J4 (ea e n Q m) 0 1 2 6) λa=>(Fz (Fz (wA (J4 (cq e n Q (ea e n Q a)) 0 1 2 6) Fx) (GU (Fz (GU (wL (λm=>J5 (iF e n Q (ea e n Q a) m) 0 1 2 6 7) λa=>Fx)) Fx))) Fx))) Fx)
end
end
section
open Go.Proofs Go.Proofs.Tryz
def TC(e n:Nat)(Q:QT)(a:F6):F6:=λb c d g h i=>HG i (I 1) λi=>a b c d g h i
def PK(e n:Nat)(Q:QT)(a:F6)(a:F9):F9:=λb c d g h i j k l=>HG l (I 1) λl=>a b c d g h i j k l
section
variable(e n:Nat) (Q:QT)
def WL(a:F6)(b:F9):F9:=λc d g h i j k l o=>Hr 0 k λp=>G8 p λp=>HU o p λp=>Lh p c λq=>H7 p (HK q) λq=>H7 p (Ho 1 q) λq=>H7 p (GJ q) λq=>H7 p (IN q (I 0)) λq=>G5 p q bF λp=>cN p (dS (I3 2 l λp=>dV (K8 0 k λq=>dV (MF 1 q o λq=>IS q λq=>dC 67 [g,q] λq=>dJ [bF,.nil] [(some (1,1),q)] λq=>dC 74 [p,q] λp=>dUn .not p λp=>dV (Sv p g λq=>Kp p (Ho 0 k) λr=>Kp p (GJ r) λr=>Sv p o λt=>Kp p (Ip 1 r t) λr=>Kp p (GJ r) λr=>eCF p 67 [q,r] λq=>Sv p g λr=>Kp p (Ho 0 k) λt=>Kp p (GJ t) λt=>Kp p (Ip 1 t (I 0)) λt=>Kp p (GJ t) λt=>eCF p 67 [r,t] λr=>eCF p 66 [q,r] λq=>Kp p (JI .not q) λq=>M0 p bT q λp=>dE [0,0,0,4,0,28,60,126,254,511,1023,2047,4095,4095,12287,4095,61439,126975,262143,4095,4095,1052671,3149823,7344127,16777215,33554431,67108863,134217727] (cN p (Hr 11 k λp=>oC 68 [c,p,I 27] λp=>PK e n Q a b c d g h i j k l o) (PK e n Q a b c d g h i j k l o))))))) (TC e n Q a c d g h i j)
def Sl(a:F6):Nat->F9
 |0=>N9
 |m+1=>WL e n Q a (Sl a m)
def TD(a:F6):F7:=λb c d g h i j=>JV 1 b λk=>LD k (I 0) λk=>cN k (r0 e n Q) (bf 1 j λk=>Gd 9 k λk=>oC 73 [b,k,d] λk=>Kh [bF,.nil] λl=>GZ 2 k l λ_=>e9 (Sl e n Q a) b c d g h i j l (I 0))
def UK(a:F6):F7:=λb c d g h i j=>Hr 10 j λk=>G8 k λk=>Pa k (I 0) λk=>SN k b λl=>Iq k (HK l) λl=>Iq k (Ho 1 l) λl=>Iq k (GJ l) λl=>Iq k (Mn l (I 0)) λl=>G5 k bT l λk=>cN k (TC e n Q a b c d g h i) (cN g (dS (dV (ai 1 j λk=>I3 9 k λk=>dC 72 [k] λk=>K8 0 j λl=>OS 1 16 k l λk=>dV (dV (K8 11 j λl=>dC 71 [b,k,d,h,l] λk=>dE [0,0,2,6,0,16,62,0,0,0,512,2047] (TD e n Q a b c d g h i j)))))) (TD e n Q a b c d g h i j))
def RH(e n:Nat)(Q:QT)(a:F6)(a:F8):wy:=λb c d g h i j k l o p=>Hr 4 l λq=>oC 42 [b,q,o,bT,p] λq=>Hr 2 l λl=>oC 70 [b,l,o,p] λl=>HG k (I 1) λk=>a b c d g h i j k
def Sk(e n:Nat)(Q:QT)(a:F6)(a:F8)(a:Ym):Ym:=λb c d g h i j k l o p q=>HG q (I 1) λq=>a b c d g h i j k l o p q
def WO(a:F6)(b:F8)(c:Ym)(d:zH):zH:=λg h i j k l o p q r t u v=>Hr 3 q λw=>Jo 5 w u λw=>Hr 3 w λw=>G8 w λw=>HU v w λw=>cN w (dS (dV (K8 3 q λw=>dV (MF 5 w u λw=>K8 3 w λw=>dV (MF 2 w v λw=>K8 0 w λw=>VY 1 [w] λw=>dV (dV (K8 3 q λx=>dV (MF 5 x u λx=>K8 4 x λx=>dC 71 [g,w,r,t,x] λw=>dE [0,0,2,0,14,30,62,0,254,510,1022,2046,0,0,0,16384,0,114688,245760,507904,1048575] (HG v (I 1) λv=>d g h i j k l o p q r t u v))))))))) (Sk e n Q a b c g h i j k l o p q r t u)
def aQ(a:F6)(b:F8)(c:Ym):Nat->zH
 |0=>N13
 |m+1=>WO e n Q a b c (aQ a b c m)
def WN(a:F6)(b:F8)(c:Ym):Ym:=λd g h i j k l o p q r t=>Hr 3 p λu=>G8 u λu=>HU t u λu=>Lh u d λv=>H7 u (HK v) λv=>H7 u (Ho 1 v) λv=>H7 u (GJ v) λv=>H7 u (IN v (I 0)) λv=>G5 u v bF λu=>cN u (Hr 3 p λu=>Jw t (I 1) λv=>AEL 5 true true u [t,v] λu=>oC 41 [d,u,q] λu=>e13 (aQ e n Q a b c) d g h i j k l o p q r t (I 0)) (RH e n Q a b d g h i j k l o p q r)
def Sm(a:F6)(b:F8):Nat->Ym
 |0=>N12
 |m+1=>WN e n Q a b (Sm a b m)
def WM(a:F6)(b:F8):F8:=λc d g h i j k l=>Hr 10 k λo=>G8 o λo=>HU l o λo=>Lh o c λp=>H7 o (HK p) λp=>H7 o (Ho 1 p) λp=>H7 o (GJ p) λp=>H7 o (IN p (I 0)) λp=>G5 o p bF λo=>cN o (Hr 10 k λo=>Jo 6 o l λo=>Gd 6 o λo=>Kh zS λp=>GZ 6 o p λ_=>dS (dV (OS 5 64 .nil g λo=>K8 3 p λq=>OS 5 64 o q λo=>PN o λo=>dE [0,1,0,4,15,31] (Hr 3 p λq=>Rq 69 [q] λq=>Hr 1 p λr=>oC 70 [c,r,g,.nil] λr=>e12 (Sm e n Q a b) c d g h i j k l p o q (I 0))))) (UK e n Q a c d g h i j k)
def LQ(a:F6):Nat->F8
 |0=>N8
 |m+1=>WM e n Q a (LQ a m)
def iG(a:F6):F6:=λb c d g h i=>G8 c λj=>HU i j λj=>Lh j b λk=>H7 j (HK k) λk=>H7 j (Ho 1 k) λk=>H7 j (GJ k) λk=>H7 j (IN k (I 0)) λk=>G5 j k bF λj=>cN j (Jo 12 c i λj=>Gd 12 j λj=>Kh zI λk=>GZ 12 j k λ_=>e8 (LQ e n Q a) b c d g h i k (I 0)) (r0 e n Q)
def JX:Nat->F6
 |0=>N6
 |m+1=>iG e n Q (JX m)
def c42:F5:=λa b c d g=>e6 (JX e n Q) a b c d g (I 0)
def AKy:P5 42 c42:=p5 func42 216 λe n Q=>(Fz (GU (wL (λm=>J6 (JX e n Q m) 0 1 2 3 4 10) λa=>(Fz (Fz (wA (J6 (TC e n Q (JX e n Q a)) 0 1 2 3 4 10) Fx) (GU (Fz (Fz (wA (J7 (UK e n Q (JX e n Q a)) 0 1 2 3 4 10 11) (Fz (Fz (wA (J7 (TD e n Q (JX e n Q a)) 0 1 2 3 4 10 11) (Fz (Fz (Fz (GU (wL (λm=>J9 (Sl e n Q (JX e n Q a) m) 0 1 2 3 4 10 11 18 19) λb=>(Fz (Fz (wA (J9 (PK e n Q (JX e n Q a) (Sl e n Q (JX e n Q a) b)) 0 1 2 3 4 10 11 18 19) Fx) Fx) Fx))) Fx) Fx) Fx)) Fx) Fx)) (Fz (GU (wL (λm=>J8 (LQ e n Q (JX e n Q a) m) 0 1 2 3 4 10 11 12) λb=>(Fz (Fz Fx (GU (Fz (Fz (Fz (Fz (Fz (wA (J11 (RH e n Q (JX e n Q a) (LQ e n Q (JX e n Q a) b)) 0 1 2 3 4 10 11 12 13 14 15) Fx) (Fz (GU (wL (λm=>J12 (Sm e n Q (JX e n Q a) (LQ e n Q (JX e n Q a) b) m) 0 1 2 3 4 10 11 12 13 14 15 16) λc=>(Fz (Fz (wA (J12 (Sk e n Q (JX e n Q a) (LQ e n Q (JX e n Q a) b) (Sm e n Q (JX e n Q a) (LQ e n Q (JX e n Q a) b) c)) 0 1 2 3 4 10 11 12 13 14 15 16) Fx) (GU (Fz (Fz (GU (wL (λm=>J13 (aQ e n Q (JX e n Q a) (LQ e n Q (JX e n Q a) b) (Sm e n Q (JX e n Q a) (LQ e n Q (JX e n Q a) b) c) m) 0 1 2 3 4 10 11 12 13 14 15 16 17) λa=>Fx)) Fx) Fx))) Fx))) Fx)) Fx) Fx) Fx) Fx))) Fx))) Fx)) Fx))) Fx))) Fx)
def xL:F0:=r1 bT e n Q
def iM(a:F3):F3:=λb c d=>G8 b λg=>HU d g λg=>cN g (dS (dV (dV (MF 2 b d λg=>I3 2 g λg=>dV (dV (MF 2 c d λh=>I3 2 h λh=>jF .neq 80 g h λg=>dE [0,0,3,7,0,0,48,112,255] (cN g (r1 bF e n Q) (HG d (I 1) λd=>a b c d)))))))) (xL e n Q)
def xM:Nat->F3
 |0=>N3
 |m+1=>iM e n Q (xM m)
def c66:F2:=λa b=>G8 a λc=>G8 b λd=>LD c d λc=>cN c (r1 bF e n Q) (e3 (xM e n Q) a b (I 0))
def AK7:P2 66 c66:=p2 func66 26 λe n Q=>(Fz (Fz (Fz (wA (J0 (xL e n Q)) Fx) (Fz (GU (wL (λm=>J3 (xM e n Q m) 0 1 5) λa=>Fx)) Fx)) Fx) Fx)
def c67:F2:=λa b=>LO λc=>oC 89 [a,b] λb=>Jo 5 a b λa=>Hr 3 a λa=>Gi a λa=>r1 a e n Q
def AK8:P2 67 c67:=p2 func67 12 λe n Q=>Fx
def c68:F3:=λa b c=>JV 1 a λd=>JR d (I 0) λd=>cN d (O2 a λd=>Mg 1 1 c d λ_=>O2 a λa=>Mg 2 1 b a λ_=>r0 e n Q) (r0 e n Q)
def AK9:P3 68 c68:=p3 func68 19 λe n Q=>Fx
def cw(e n:Nat)(Q:QT)(a:F5):F5:=λb c d g h=>HG h (I 1) λh=>a b c d g h
def iP(a:F5):F5:=λb c d g h=>G8 c λi=>HU h i λi=>Lh i b λj=>H7 i (HK j) λj=>H7 i (Ho 1 j) λj=>H7 i (GJ j) λj=>H7 i (IN j (I 0)) λj=>G5 i j bF λi=>cN i (dS (dV (dV (dV (MF 12 c h λi=>ai 0 i λi=>I3 9 i λi=>dC 72 [i] λi=>dV (dV (dV (dV (MF 12 c h λj=>K8 11 j λj=>dC 71 [b,i,d,g,j] λi=>dE [0,0,0,6,14,30,62,0,0,0,0,1536,3584,7680,16383] (JV 1 b λi=>LD i (I 0) λi=>cN i (r0 e n Q) (Jo 12 c h λi=>bf 0 i λi=>Gd 9 i λi=>oC 73 [b,i,d] λi=>Kh [bF,.nil] λj=>GZ 2 i j λ_=>JV 1 b λi=>JR i (I 0) λi=>H7 i (Ho 0 j) λk=>H7 i (GJ k) λk=>H7 i (JI .not k) λk=>G5 i k bF λi=>H7 i (Ho 1 j) λj=>H7 i (GJ j) λj=>H7 i (Gq j) λj=>H7 i (SH j (I 0)) λj=>G5 i j bF λi=>cN i (Jo 12 c h λi=>Hr 11 i λi=>oC 68 [b,i,I 27] λi=>cw e n Q a b c d g h) (cw e n Q a b c d g h)))))))))))) (r0 e n Q)
def iO:Nat->F5
 |0=>N5
 |m+1=>iP e n Q (iO m)
def c70:F4:=λa b c d=>e5 (iO e n Q) a b c d (I 0)
def ALB:P4 70 c70:=p4 func70 74 λe n Q=>(Fz (GU (wL (λm=>J5 (iO e n Q m) 0 1 2 3 8) λa=>(Fz (Fz (wA (J5 (cw e n Q (iO e n Q a)) 0 1 2 3 8) Fx) Fx) Fx))) Fx)
def cx(e n:Nat)(Q:QT)(a:F6):F6:=λb c d g h i=>HG i (I 1) λi=>a b c d g h i
def iR(a:F6):F6:=λb c d g h i=>G8 c λj=>HU i j λj=>Lh j b λk=>H7 j (HK k) λk=>H7 j (Ho 1 k) λk=>H7 j (GJ k) λk=>H7 j (IN k (I 0)) λk=>G5 j k bF λj=>cN j (Jo 1 c i λj=>H4 j λj=>oC 85 [g,j] λj=>T2 .not j λj=>Lh j d λk=>Lh j c λl=>Lh j i λo=>H7 j (Ip 1 l o) λl=>H7 j (GJ l) λl=>hCT j 67 [k,l] λk=>H7 j (Gq k) λk=>H7 j (SH k (I 0)) λk=>G5 j k bF λj=>cN j (oC 68 [b,h,I 27] λj=>cx e n Q a b c d g h i) (cx e n Q a b c d g h i)) (r0 e n Q)
def iQ:Nat->F6
 |0=>N6
 |m+1=>iR e n Q (iQ m)
def c71:F5:=λa b c d g=>e6 (iQ e n Q) a b c d g (I 0)
def ALC:P5 71 c71:=p5 func71 44 λe n Q=>(Fz (GU (wL (λm=>J6 (iQ e n Q m) 0 1 2 3 4 10) λa=>(Fz (Fz (wA (J6 (cx e n Q (iQ e n Q a)) 0 1 2 3 4 10) Fx) Fx) Fx))) Fx)
def iS:F1:=λa=>Gi a λa=>r1 a e n Q
def UO(a:F3):F3:=λb c d=>Hr 7 b λg=>G8 g λg=>HU d g λg=>cN g (Hr 7 b λg=>Jo 9 g d λg=>Gd 9 g λg=>oC 72 [g] λg=>PZ 1 16 c g λg=>Gi g λg=>HG d (I 1) λd=>a b g d) (iS e n Q c)
def oN:Nat->F3
 |0=>N3
 |m+1=>UO e n Q (oN m)
def mJ:F2:=λa b=>e3 (oN e n Q) a b (I 0)
def c72:F1:=λa=>LK a λa=>LO λb=>LO λb=>Hr 0 a λc=>JR c (I 2) λc=>Iq c (Ho 0 a) λd=>Iq c (GJ d) λd=>Iq c (IN d (I 9)) λd=>G5 c bT d λc=>Iq c (Ho 0 a) λd=>Iq c (GJ d) λd=>Iq c (IN d (I 10)) λd=>G5 c bT d λc=>cN c (Hr 2 a λc=>On 1 [c] λc=>PZ 1 16 b c λc=>Gi c λc=>mJ e n Q a c) (mJ e n Q a b)
def ALD:P1 72 c72:=p1 func72 39 λe n Q=>(Fz (Fz (Fz (wA (J2 (mJ e n Q) 1 3) (Fz (wA (J1 (iS e n Q) 3) Fx) (Fz (GU (wL (λm=>J3 (oN e n Q m) 1 3 4) λa=>Fx)) Fx))) Fx) Fx) Fx)
def Yv:F3:=λa b c=>Hr 1 c λc=>Hr 2 a λd=>Hr 5 a λa=>JR a (I 1) λa=>oC 102 [c,d,a] λa=>IX [bF,.nil] [(some (1,1),a)] λa=>GZ 2 a b λ_=>rF (λs=>[IJ (GM 2 b) s]) e n Q
def Sp:F2:=λa b=>IX [bF,.nil] [(some (1,1),b)] λb=>GZ 2 b a λ_=>rF (λs=>[IJ (GM 2 a) s]) e n Q
def UP:F2:=λa b=>Gd 2 b λb=>GZ 2 b a λ_=>rF (λs=>[IJ (GM 2 a) s]) e n Q
def UQ(e n:Nat)(Q:QT)(a:F6):F6:=λb c d g h i=>HG i (I 1) λi=>a b c d g h i
def Sq(a:F6):F6:=λb c d g h i=>Hr 0 h λj=>cN j (Jo 2 g i λj=>Gd 2 j λj=>GZ 2 j h λ_=>UQ e n Q a b c d g h i) (UQ e n Q a b c d g h i)
def Wa(a:F6):F6:=λb c d g h i=>G8 g λj=>HU i j λj=>cN j (dS (I3 2 h λj=>dV (dV (MF 2 g i λk=>I3 2 k λk=>dC 74 [j,k] λj=>dUn .not j λj=>dE [0,0,0,6,14,31,63] (cN j (Hr 8 c λj=>oC 68 [b,j,I 27] λj=>Sq e n Q a b c d g h i) (Sq e n Q a b c d g h i)))))) (UP e n Q d h)
def QK:Nat->F6
 |0=>N6
 |m+1=>Wa e n Q (QK m)
def Yu:F7:=λa b c d g h i=>cN i (IX [bF,.nil] [(some (0,1),bT)] λi=>GZ 2 i d λ_=>rF (λs=>[IJ (GM 2 d) s]) e n Q) (Hy h (I 2) λi=>cN i (Hr 2 c λi=>oC 67 [b,i] λi=>IX [bF,.nil] [(some (1,1),i)] λi=>GZ 2 i d λ_=>rF (λs=>[IJ (GM 2 d) s]) e n Q) (Hy h (I 9) λi=>cN i (Hr 2 c λi=>oC 67 [b,i] λi=>IX [bF,.nil] [(some (1,1),i)] λi=>Kh [bF,.nil] λj=>GZ 2 i j λ_=>dS (dV (MF 2 g (I 0) λi=>I3 2 i λi=>I3 2 j λk=>dC 74 [i,k] λi=>dUn .not i λi=>dE [0,1,3,0,15,31] (cN i (Hr 8 c λi=>oC 68 [a,i,I 27] λi=>Yv e n Q c d j) (Yv e n Q c d j))))) (Hy h (I 10) λh=>cN h (Hr 2 c λh=>Rq 67 [b,h] λb=>Hr 2 c λh=>oC 102 [b,h,bT] λh=>IX [bF,.nil] [(some (1,1),h)] λh=>Kh [bF,.nil] λi=>GZ 2 h i λ_=>Hr 2 c λh=>oC 102 [b,h,bF] λh=>IX [bF,.nil] [(some (1,1),h)] λh=>Kh [bF,.nil] λj=>GZ 2 h j λ_=>dS (dV (MF 2 g (I 0) λh=>I3 2 h λh=>I3 2 i λi=>dC 74 [h,i] λh=>dUn .not h λh=>dV (Sv h g λi=>Kp h (Ip 2 i (I 1)) λi=>Kp h (GM 2 i) λi=>Kp h (GM 2 j) λj=>eCF h 74 [i,j] λi=>Kp h (JI .not i) λi=>M0 h bT i λh=>dE [0,1,3,0,15,31,63,127,255,511,127,2047,4095,8191] (cN h (Hr 8 c λh=>oC 68 [a,h,I 27] λh=>Sp e n Q d b) (Sp e n Q d b)))))) (IX [bF,.nil] [(some (0,1),bT)] λb=>Kh [bF,.nil] λh=>GZ 2 b h λ_=>e6 (QK e n Q) a c d g h (I 0)))))
def mK:F5:=λa b c d g=>JV 1 a λh=>LD h (I 0) λh=>cN h (IX [bF,.nil] [(some (0,1),bT)] λh=>GZ 2 h d λ_=>rF (λs=>[IJ (GM 2 d) s]) e n Q) (Hr 0 c λh=>Hy h (I 1) λi=>cN i (Yu e n Q a b c d g h i) (Hy h (I 12) λi=>Yu e n Q a b c d g h i))
def Wb(a:F6):F6:=λb c d g h i=>Hr 7 d λj=>G8 j λj=>HU i j λj=>Lh j b λk=>H7 j (HK k) λk=>H7 j (Ho 1 k) λk=>H7 j (GJ k) λk=>H7 j (IN k (I 0)) λk=>G5 j k bF λj=>cN j (Hr 7 d λj=>Jo 9 j i λj=>Gd 9 j λj=>oC 73 [b,j,c] λj=>On 2 [j] λj=>PZ 2 32 h j λj=>Gi j λj=>HG i (I 1) λi=>a b c d g j i) (mK e n Q b c d g h)
def aX:Nat->F6
 |0=>N6
 |m+1=>Wb e n Q (aX m)
def c73:F3:=λa b c=>LK b λb=>Kh [bF,.nil] λd=>LO λg=>e6 (aX e n Q) a c b d g (I 0)
def ALE:P3 73 c73:=p3 func73 146 λe n Q=>(Fz (Fz (Fz (wA (J5 (mK e n Q) 0 2 4 6 7) (Fz (Fz (Fz (Fz (wA (J2 (UP e n Q) 6 13) Fx) (Fz (GU (wL (λm=>J6 (QK e n Q m) 0 4 6 7 13 14) λa=>(Fz (Fz (wA (J6 (UQ e n Q (QK e n Q a)) 0 4 6 7 13 14) Fx) (GU (Fz (wA (J6 (Sq e n Q (QK e n Q a)) 0 4 6 7 13 14) Fx) Fx))) Fx))) Fx)) Fx) (Fz (GU (Fz (wA (J7 (Yu e n Q) 0 2 4 6 7 47 48) (I5 Fx (Fz (I5 Fx (Fz (I5 (Fz (Fz (wA (J3 (Yv e n Q) 4 6 9) Fx) Fx) Fx) (Fz (I5 (Fz (Fz (Fz (Fz (wA (J2 (Sp e n Q) 6 10) Fx) Fx) Fx) Fx) Fx) Fx) Fx)) Fx)) Fx))) Fx)) Fx)) Fx)) (Fz (GU (wL (λm=>J6 (aX e n Q m) 0 2 4 6 7 8) λa=>Fx)) Fx)) Fx) Fx)
def c74:F2:=λa b=>LK a λa=>LK b λb=>Hr 0 a λc=>Iq c (Ho 0 b) λd=>Iq c (GJ d) λd=>G5 c bT d λc=>Iq c (Ho 1 a) λa=>Iq c (GJ a) λa=>Iq c (Ho 1 b) λb=>Iq c (GJ b) λb=>hCF c 66 [a,b] λa=>G5 c bT a λa=>Gi a λa=>r1 a e n Q
def ALF:P2 74 c74:=p2 func74 18 λe n Q=>Fx
def c75:F2:=λa b=>LK b λb=>Gd 9 b λc=>Rq 103 [a,c] λc=>cN c (Hr 8 b λb=>oC 68 [a,b,I 28] λa=>r0 e n Q) (r0 e n Q)
def ALG:P2 75 c75:=p2 func75 13 λe n Q=>Fx
def AO3:F3:=λa b c=>LO λd=>PZ 2 24 .nil a λa=>IX [S0,bF] [(some (0,1),b),(some (1,1),c)] λb=>On 2 [b] λb=>PZ 2 24 a b λa=>Gi a λa=>r1 a e n Q
def AFy:P3 102 AO3:=p3 func102 14 λe n Q=>Fx
def APB:F1:=λa=>JR a (I 13) λb=>SN b a λc=>Iq b (IN c (I 14)) λc=>G5 b bT c λb=>SN b a λc=>Iq b (IN c (I 18)) λc=>G5 b bT c λb=>SN b a λa=>Iq b (IN a (I 19)) λa=>G5 b bT a λa=>Gi a λa=>r1 a e n Q
def AF6:P1 117 APB:=p1 func117 17 λe n Q=>Fx
def hY:F1:=λa=>dS (dV (NF a λb=>K8 2 b λb=>dV (NF a λa=>K8 1 a λa=>PN b λb=>PN a λa=>dE [0,1,3,7,0,16,48,112,15,511] (r2 b a e n Q))))
def aN(a:F3):F3:=λb c d=>Hr 0 b λg=>G8 g λg=>HU d g λg=>Lh g c λh=>H7 g (HK h) λh=>H7 g (Ho 1 h) λh=>H7 g (GJ h) λh=>H7 g (IN h (I 0)) λh=>G5 g h bF λg=>cN g (Hr 0 b λg=>Jo 6 g d λg=>Hr 4 g λg=>oC 43 [c,g] λg=>HG d (I 1) λd=>a b c d) (hY e n Q c)
def hZ:Nat->F3
 |0=>N3
 |m+1=>aN e n Q (hZ m)
def c27:F1:=λa=>LK a λa=>Gd 1 a λb=>IX [.nil,I 0,I 0] [(some (0,1),b)] λb=>LK b λb=>Gi b λb=>e3 (hZ e n Q) a b (I 0)
def AKr:P1 27 c27:=p1 func27 39 λe n Q=>(Fz (Fz (Fz (wA (J1 (hY e n Q) 4) Fx) (Fz (GU (wL (λm=>J3 (hZ e n Q m) 1 4 5) λa=>Fx)) Fx)) Fx) Fx)
def WQ(e n:Nat)(Q:QT)(a:F3):F3:=λb c d=>HG d (I 1) λd=>a b c d
def Yq(a:F3):F3:=λb c d=>Jo 12 c d λg=>Hr 10 g λg=>G8 g λg=>JR g (I 0) λg=>Lh g b λh=>H7 g (HK h) λh=>H7 g (Ho 1 h) λh=>H7 g (GJ h) λh=>H7 g (IN h (I 0)) λh=>G5 g h bF λg=>cN g (Jo 12 c d λg=>bf 1 g λg=>Gd 9 g λg=>oC 75 [b,g] λg=>WQ e n Q a b c d) (WQ e n Q a b c d)
def cr(e n:Nat)(Q:QT)(a:F3)(a:F4):F4:=λb c d g=>HG g (I 1) λg=>a b c d g
def WS(a:F3)(b:F4)(c:F6):F6:=λd g h i j k=>Hr 2 j λl=>G8 l λl=>HU k l λl=>Lh l d λo=>H7 l (HK o) λo=>H7 l (Ho 1 o) λo=>H7 l (GJ o) λo=>H7 l (IN o (I 0)) λo=>G5 l o bF λl=>cN l (Hr 2 j λl=>Jo 12 l k λl=>bf 0 l λl=>Gd 9 l λl=>oC 75 [d,l] λl=>HG k (I 1) λk=>c d g h i j k) (cr e n Q a b d g h i)
def Xf(a:F3)(b:F4):Nat->F6
 |0=>N6
 |m+1=>WS e n Q a b (Xf a b m)
def Xe(a:F3)(b:F4):F5:=λc d g h i=>Hr 4 i λj=>oC 43 [c,j] λj=>e6 (Xf e n Q a b) c d g h i (I 0)
def WT(a:F3)(b:F4)(c:F6):F6:=λd g h i j k=>Hr 1 j λl=>G8 l λl=>HU k l λl=>Lh l d λo=>H7 l (HK o) λo=>H7 l (Ho 1 o) λo=>H7 l (GJ o) λo=>H7 l (IN o (I 0)) λo=>G5 l o bF λl=>cN l (Hr 1 j λl=>Jo 12 l k λl=>bf 0 l λl=>Gd 9 l λl=>oC 75 [d,l] λl=>HG k (I 1) λk=>c d g h i j k) (Xe e n Q a b d g h i j)
def aR(a:F3)(b:F4):Nat->F6
 |0=>N6
 |m+1=>WT e n Q a b (aR a b m)
def aS(a:F3)(b:F4):F4:=λc d g h=>Jo 12 d g λi=>Hr 10 i λi=>G8 i λi=>HU h i λi=>Lh i c λj=>H7 i (HK j) λj=>H7 i (Ho 1 j) λj=>H7 i (GJ j) λj=>H7 i (IN j (I 0)) λj=>G5 i j bF λi=>cN i (Jo 12 d g λi=>Hr 10 i λi=>Jo 6 i h λi=>Gd 6 i λi=>Kh zS λj=>GZ 6 i j λ_=>e6 (aR e n Q a b) c d g h j (I 0)) (Yq e n Q a c d g)
def R3(a:F3):Nat->F4
 |0=>N4
 |m+1=>aS e n Q a (R3 a m)
def iH(a:F3):F3:=λb c d=>G8 c λg=>HU d g λg=>Lh g b λh=>H7 g (HK h) λh=>H7 g (Ho 1 h) λh=>H7 g (GJ h) λh=>H7 g (IN h (I 0)) λh=>G5 g h bF λg=>cN g (e4 (R3 e n Q a) b c d (I 0)) (r0 e n Q)
def Qj:Nat->F3
 |0=>N3
 |m+1=>iH e n Q (Qj m)
def c43:F2:=λa b=>e3 (Qj e n Q) a b (I 0)
def AKz:P2 43 c43:=p2 func43 116 λe n Q=>(Fz (GU (wL (λm=>J3 (Qj e n Q m) 0 1 4) λa=>(Fz (Fz (wA (J3 (WQ e n Q (Qj e n Q a)) 0 1 4) Fx) (GU (Fz (wA (J3 (Yq e n Q (Qj e n Q a)) 0 1 4) Fx) (Fz (GU (wL (λm=>J4 (R3 e n Q (Qj e n Q a) m) 0 1 4 5) λb=>(Fz (Fz (wA (J4 (cr e n Q (Qj e n Q a) (R3 e n Q (Qj e n Q a) b)) 0 1 4 5) Fx) (GU (Fz (Fz (wA (J5 (Xe e n Q (Qj e n Q a) (R3 e n Q (Qj e n Q a) b)) 0 1 4 5 6) (Fz (Fz (GU (wL (λm=>J6 (Xf e n Q (Qj e n Q a) (R3 e n Q (Qj e n Q a) b) m) 0 1 4 5 6 8) λc=>Fx)) Fx) Fx)) (Fz (GU (wL (λm=>J6 (aR e n Q (Qj e n Q a) (R3 e n Q (Qj e n Q a) b) m) 0 1 4 5 6 7) λa=>Fx)) Fx)) Fx))) Fx))) Fx)))) Fx))) Fx)
def Se:F3:=λa b c=>cN c (Jo 1 a (I 0) λa=>H4 a λa=>Gi a λa=>r1 a e n Q) (Gi b λa=>r1 a e n Q)
def UC:F4:=λa b c d=>JV 1 a λa=>LD a (I 0) λa=>cN a (r1 bF e n Q) (Hr 0 b λa=>Hy a (I 6) λb=>cN b (r1 bT e n Q) (Hy a (I 7) λb=>cN b (Se e n Q c d b) (Hy a (I 8) λa=>Se e n Q c d a)))
def QF(e n:Nat)(Q:QT)(a:F5):F5:=λb c d g h=>HG h (I 1) λh=>a b c d g h
def Vu(a:F5):F5:=λb c d g h=>G8 d λi=>HU h i λi=>Lh i b λj=>H7 i (HK j) λj=>H7 i (Ho 1 j) λj=>H7 i (GJ j) λj=>H7 i (IN j (I 0)) λj=>G5 i j bF λi=>cN i (Jo 1 d h λi=>H4 i λi=>H7 i (Ho 0 c) λj=>H7 i (GJ j) λj=>H7 i (IN j (I 6)) λj=>Lh i j λj=>Iq j (Ho 0 c) λk=>Iq j (GJ k) λk=>Iq j (IN k (I 10)) λk=>H7 i (Gp j bT k) λj=>Lh i j λj=>Iq j (Ho 0 c) λk=>Iq j (GJ k) λk=>Iq j (IN k (I 8)) λk=>SN j k λk=>Lh k h λl=>H7 k (IN l (I 1)) λl=>Iq j (Gp k l bF) λk=>H7 i (Gp j bT k) λj=>Lh i j λj=>Iq j (Ho 0 c) λk=>Iq j (GJ k) λk=>hCF j 117 [k] λk=>H7 i (Gp j bT k) λj=>G5 i j bF λi=>cN i (Hr 7 c λi=>Jo 9 i h λi=>Hr 8 i λi=>oC 68 [b,i,I 28] λi=>QF e n Q a b c d g h) (QF e n Q a b c d g h)) (UC e n Q b c d g)
def RE:Nat->F5
 |0=>N5
 |m+1=>Vu e n Q (RE m)
def cY:F4:=λa b c d=>e5 (RE e n Q) a b c d (I 0)
def TW(a:F5):F5:=λb c d g h=>Hr 7 c λi=>G8 i λi=>HU h i λi=>Lh i b λj=>H7 i (HK j) λj=>H7 i (Ho 1 j) λj=>H7 i (GJ j) λj=>H7 i (IN j (I 0)) λj=>G5 i j bF λi=>cN i (Hr 7 c λi=>Jo 9 i h λi=>Gd 9 i λi=>Rq 103 [b,i] λi=>On 1 [i] λj=>PZ 1 1 d j λj=>Gi j λj=>SN g i λi=>G5 g bT i λi=>Gi i λi=>HG h (I 1) λh=>a b c j i h) (cY e n Q b c d g)
def Vt:Nat->F5
 |0=>N5
 |m+1=>TW e n Q (Vt m)
def AO4:F2:=λa b=>LK b λb=>LO λc=>e5 (Vt e n Q) a b c bF (I 0)
def AFz:P2 103 AO4:=p2 func103 104 λe n Q=>(Fz (Fz (Fz (Fz (wA (J4 (cY e n Q) 0 3 5 6) (Fz (wA (J4 (UC e n Q) 0 3 5 6) (Fz (Fz Fx (Fz (GU (Fz (I5 Fx (Fz (wA (J3 (Se e n Q) 5 6 97) Fx) Fx)) Fx)) Fx)) Fx)) (Fz (GU (wL (λm=>J5 (RE e n Q m) 0 3 5 6 9) λa=>(Fz (Fz (wA (J5 (QF e n Q (RE e n Q a)) 0 3 5 6 9) Fx) Fx) Fx))) Fx))) (Fz (GU (wL (λm=>J5 (Vt e n Q m) 0 3 5 6 7) λa=>Fx)) Fx)) Fx) Fx) Fx)
def c53:F1:=λa=>Kh [.nil] λb=>VS a λc=>Pa c (I 8000) λc=>cN c (IX [.nil] [] λc=>GZ 1 c b λ_=>rF (λs=>[IJ (GM 1 b) s,some bF]) e n Q) (oC 83 [a] λa=>TT 0 a λc=>TT 1 a λd=>TT 2 a λa=>Kh [.nil] λg=>GZ 1 c g λ_=>Gi d λc=>Gi a λa=>Gd 1 g λc=>JR a (I 0) λa=>GZ 1 c b λ_=>Gi a λa=>rF (λs=>[IJ (GM 1 b) s,some a]) e n Q)
def AK2:P1 53 c53:=p1 func53 20 λe n Q=>Fx
def c34:F1:=λa=>Kh [.nil] λb=>oC 53 [a] λa=>TT 0 a λc=>TT 1 a λa=>Kh [.nil] λd=>GZ 1 c d λ_=>Gi a λa=>T2 .not a λa=>cN a (Gd 1 d λa=>GZ 1 a b λ_=>rF (λs=>[IJ (GM 1 b) s,some bF]) e n Q) (Gd 1 d λa=>oC 54 [a] λa=>TT 0 a λc=>TT 1 a λa=>Gi c λc=>Gi a λa=>Gd 1 d λc=>JR a (I 0) λa=>GZ 1 c b λ_=>Gi a λa=>rF (λs=>[IJ (GM 1 b) s,some a]) e n Q)
def AKu:P1 34 c34:=p1 func34 24 λe n Q=>Fx
def c19:F1:=λa=>Kh [.nil] λb=>oC 34 [a] λa=>TT 0 a λc=>TT 1 a λa=>Kh [.nil] λd=>GZ 1 c d λ_=>Gi a λa=>T2 .not a λa=>cN a (Gd 1 d λa=>GZ 1 a b λ_=>rF (λs=>[IJ (GM 1 b) s,some bF]) e n Q) (Gd 1 d λa=>oC 35 [a] λa=>TT 0 a λc=>TT 1 a λa=>Gi c λc=>Gi a λa=>Gd 1 d λc=>JR a (I 0) λa=>GZ 1 c b λ_=>Gi a λa=>rF (λs=>[IJ (GM 1 b) s,some a]) e n Q)
def AKp:P1 19 c19:=p1 func19 24 λe n Q=>Fx
def c13:F1:=λa=>Kh [.nil] λb=>oC 19 [a] λa=>TT 0 a λc=>TT 1 a λa=>Kh [.nil] λd=>GZ 1 c d λ_=>Gi a λa=>T2 .not a λa=>cN a (Gd 1 d λa=>GZ 1 a b λ_=>rF (λs=>[IJ (GM 1 b) s,some bF]) e n Q) (Gd 1 d λa=>oC 26 [a] λa=>TT 0 a λc=>TT 1 a λa=>Gi c λc=>Gi a λa=>Gd 1 d λc=>oC 27 [c] λc=>TT 0 c λg=>TT 1 c λc=>Gi g λg=>Gi c λc=>Gd 1 d λd=>JR a (I 0) λa=>Lh a c λc=>H7 a (IN c (I 0)) λc=>G5 a c bF λa=>GZ 1 d b λ_=>Gi a λa=>rF (λs=>[IJ (GM 1 b) s,some a]) e n Q)
def AKl:P1 13 c13:=p1 func13 35 λe n Q=>Fx
def iT:F1:=λa=>Gi a λa=>r1 a e n Q
def cz(e n:Nat)(Q:QT)(a:F3):F3:=λb c d=>HG d (I 1) λd=>a b c d
def RK(a:F3):F3:=λb c d=>Hr 7 b λg=>G8 g λg=>HU d g λg=>cN g (Hr 0 b λg=>JR g (I 8) λg=>Lh g d λh=>H7 g (IN h (I 1)) λh=>G5 g h bF λg=>cN g (cz e n Q a b c d) (Hr 7 b λg=>Jo 9 g d λg=>Gd 9 g λg=>oC 82 [g] λg=>PZ 1 16 c g λg=>Gi g λg=>cz e n Q a b g d)) (iT e n Q c)
def iU:Nat->F3
 |0=>N3
 |m+1=>RK e n Q (iU m)
def cy:F2:=λa b=>e3 (iU e n Q) a b (I 0)
def c82:F1:=λa=>LK a λa=>LO λb=>LO λb=>Hr 0 a λc=>JR c (I 6) λc=>cN c (LO λc=>r1 c e n Q) (Hr 0 a λc=>JR c (I 2) λc=>Iq c (Ho 0 a) λd=>Iq c (GJ d) λd=>Iq c (IN d (I 9)) λd=>G5 c bT d λc=>Iq c (Ho 0 a) λd=>Iq c (GJ d) λd=>Iq c (IN d (I 10)) λd=>G5 c bT d λc=>cN c (Hr 2 a λc=>On 1 [c] λc=>PZ 1 16 b c λc=>Gi c λc=>cy e n Q a c) (cy e n Q a b))
def ALI:P1 82 c82:=p1 func82 49 λe n Q=>(Fz (Fz (Fz (Fz (wA (J2 (cy e n Q) 1 3) (Fz (wA (J1 (iT e n Q) 3) Fx) (Fz (GU (wL (λm=>J3 (iU e n Q m) 1 3 4) λa=>(Fz (Fz (wA (J3 (cz e n Q (iU e n Q a)) 1 3 4) Fx) Fx) Fx))) Fx))) Fx) Fx) Fx) Fx)
def uQ:F0:=r1 bT e n Q
def aJ(a:F4):F4:=λb c d g=>Hr 0 c λh=>G8 h λh=>HU g h λh=>cN h (Hr 0 c λh=>Jo 6 h g λh=>Gd 6 h λh=>Kh zS λi=>GZ 6 h i λ_=>Hr 0 d λh=>Jo 6 h g λh=>Gd 6 h λh=>Kh zS λj=>GZ 6 h j λ_=>Hr 1 i λh=>Hr 1 j λk=>Rq 32 [h,k,b] λh=>Hr 2 i λk=>Hr 2 j λl=>Rq 32 [k,l,b] λk=>Hr 3 i λl=>Hr 3 j λo=>Rq 32 [l,o,b] λl=>Hr 4 i λo=>Hr 4 j λp=>Rq 33 [o,p,b] λo=>T2 .not h λh=>SN h k λk=>Iq h (JI .not k) λk=>G5 h bT k λh=>SN h l λk=>Iq h (JI .not k) λk=>G5 h bT k λh=>SN h o λk=>Iq h (JI .not k) λk=>G5 h bT k λh=>Iq h (Ho 0 i) λk=>Iq h (GJ k) λk=>Iq h (Ho 0 j) λl=>Iq h (GJ l) λl=>Iq h (qB .neq 9 k l) λk=>G5 h bT k λh=>SN h b λk=>SN h k λk=>H7 k (Ho 5 i) λi=>H7 k (GJ i) λi=>H7 k (Ho 5 j) λj=>H7 k (GJ j) λj=>H7 k (Mn i j) λi=>Iq h (Gp k i bF) λi=>G5 h bT i λh=>cN h (r1 bF e n Q) (HG g (I 1) λg=>a b c d g)) (uQ e n Q)
def oH:Nat->F4
 |0=>N4
 |m+1=>aJ e n Q (oH m)
def c17:F3:=λa b c=>LK a λa=>LK b λb=>Hr 0 a λd=>G8 d λd=>Hr 0 b λg=>G8 g λg=>LD d g λd=>cN d (r1 bF e n Q) (e4 (oH e n Q) c a b (I 0))
def AKo:P3 17 c17:=p3 func17 93 λe n Q=>(Fz (Fz (Fz (wA (J0 (uQ e n Q)) Fx) (Fz (GU (wL (λm=>J4 (oH e n Q m) 2 3 4 7) λa=>Fx)) Fx)) Fx) Fx)
def AB8:F0:=r1 bT e n Q
def uR(e n:Nat)(Q:QT)(a:F4):F4:=λb c d g=>HG g (I 1) λg=>a b c d g
def WH(a:F4)(b:F5):F5:=λc d g h i=>Jo 5 c h λj=>Hr 3 j λj=>G8 j λj=>HU i j λj=>cN j (dS (dV (dV (MF 5 c h λj=>K8 3 j λj=>dV (MF 2 j i λj=>I3 2 j λj=>dV (dV (MF 5 d h λk=>K8 3 k λk=>dV (MF 2 k i λk=>I3 2 k λk=>jF .neq 80 j k λj=>dE [0,0,3,7,15,0,63,127,0,0,768,1792,3840,0,16128,32512,65535] (cN j (r1 bF e n Q) (HG i (I 1) λi=>b c d g h i)))))))))) (uR e n Q a c d g h)
def fh(a:F4):Nat->F5
 |0=>N5
 |m+1=>WH e n Q a (fh a m)
def iB(a:F4):F4:=λb c d g=>G8 b λh=>HU g h λh=>cN h (dS (dV (dV (MF 5 b g λh=>K8 0 h λh=>dV (dV (MF 5 c g λi=>K8 0 i λi=>jF .neq 9 h i λh=>dV (Sv h b λi=>Sv h g λj=>Kp h (Ip 5 i j) λi=>Kp h (Ho 1 i) λi=>Kp h (GM 2 i) λi=>Sv h c λj=>Sv h g λk=>Kp h (Ip 5 j k) λj=>Kp h (Ho 1 j) λj=>Kp h (GM 2 j) λj=>Kp h (qB .neq 74 i j) λi=>M0 h bT i λh=>dV (Sv h b λi=>Sv h g λj=>Kp h (Ip 5 i j) λi=>Kp h (Ho 3 i) λi=>Kp h (GJ i) λi=>Kp h (Gq i) λi=>Sv h c λj=>Sv h g λk=>Kp h (Ip 5 j k) λj=>Kp h (Ho 3 j) λj=>Kp h (GJ j) λj=>Kp h (Gq j) λj=>Kp h (Mn i j) λi=>M0 h bT i λh=>dV (Sv h d λi=>Sv h i λi=>xa i b λj=>xa i g λk=>Ve i (Ip 5 j k) λj=>Ve i (Ho 4 j) λj=>Ve i (GJ j) λj=>xa i c λk=>xa i g λl=>Ve i (Ip 5 k l) λk=>Ve i (Ho 4 k) λk=>Ve i (GJ k) λk=>Ve i (Mn j k) λj=>Kp h (Gp i j bF) λi=>M0 h bT i λh=>dE [0,0,3,7,15,0,0,96,224,480,1023,2047,4095,4095,16383,32767,65535,4095,4095,397311,921599,1970175,4194303,8388607,16777215,33554431,33554431,134217727,268435455,536870911,1073741823,33554431,33554431,6476005375,15065939967,32245809151,66605547519,137438953471,274877906943,549755813887,1099511627775,2199023255551,4398046511103,4398046511103,17592186044415,35184372088831,70368744177663,4398046511103,4398046511103,426610511577087,989560464998399,2115460371841023,4503599627370495,9007199254740991,18014398509481983] (cN h (r1 bF e n Q) (e5 (fh e n Q a) b c d g (I 0)))))))))))) (AB8 e n Q)
def iA:Nat->F4
 |0=>N4
 |m+1=>iB e n Q (iA m)
def c32:F3:=λa b c=>G8 a λd=>G8 b λg=>LD d g λd=>cN d (r1 bF e n Q) (e4 (iA e n Q) a b c (I 0))
def AKs:P3 32 c32:=p3 func32 102 λe n Q=>(Fz (Fz (Fz (wA (J0 (AB8 e n Q)) Fx) (Fz (GU (wL (λm=>J4 (iA e n Q m) 0 1 2 7) λa=>(Fz (Fz (wA (J4 (uR e n Q (iA e n Q a)) 0 1 2 7) Fx) (GU (Fz (Fz (GU (wL (λm=>J5 (fh e n Q (iA e n Q a) m) 0 1 2 7 8) λa=>Fx)) Fx) Fx))) Fx))) Fx)) Fx) Fx)
def AB9:F0:=r1 bT e n Q
def fi(a:F4):F5:=λb c d g h=>T2 .not h λh=>cN h (r1 bF e n Q) (HG g (I 1) λg=>a b c d g)
def WI(a:F4)(b:F8):F8:=λc d g h i j k l=>Hr 10 i λo=>G8 o λo=>HU l o λo=>Lh o k λp=>G5 o p bF λo=>cN o (Hr 10 i λo=>Jo 6 o l λo=>Gd 6 o λo=>Kh zS λp=>GZ 6 o p λ_=>Hr 10 j λo=>Jo 6 o l λo=>Gd 6 o λo=>Kh zS λq=>GZ 6 o q λ_=>Hr 1 p λo=>Hr 1 q λr=>Rq 52 [o,r,g] λo=>Hr 2 p λr=>Hr 2 q λt=>Rq 52 [r,t,g] λr=>Hr 3 p λt=>Hr 3 q λu=>Rq 32 [t,u,g] λt=>Hr 4 p λu=>Hr 4 q λv=>Rq 33 [u,v,g] λu=>Lh o r λr=>G5 o r bF λo=>Lh o t λr=>G5 o r bF λo=>Lh o u λr=>G5 o r bF λo=>H7 o (Ho 0 p) λr=>H7 o (GJ r) λr=>H7 o (Ho 0 q) λt=>H7 o (GJ t) λt=>H7 o (qB .eql 9 r t) λr=>G5 o r bF λo=>Lh o g λr=>H7 o (JI .not r) λr=>Lh o r λr=>Iq r (Ho 5 p) λp=>Iq r (GJ p) λp=>Iq r (Ho 5 q) λq=>Iq r (GJ q) λq=>Iq r (IN p q) λp=>H7 o (Gp r bT p) λp=>G5 o p bF λo=>Gi o λo=>HG l (I 1) λl=>b c d g h i j o l) (fi e n Q a c d g h k)
def fj(a:F4):Nat->F8
 |0=>N8
 |m+1=>WI e n Q a (fj a m)
def uS(a:F4):F7:=λb c d g h i j=>e8 (fj e n Q a) b c d g h i j (I 0)
def WJ(a:F4)(b:F8):F8:=λc d g h i j k l=>Hr 0 i λo=>G8 o λo=>HU l o λo=>cN o (dS (dV (dV (Ve k (Ho 0 i) λo=>Ve k (GJ o) λo=>xa k l λp=>Ve k (Ip 1 o p) λo=>Ve k (GJ o) λo=>Ve k (Ho 0 j) λp=>Ve k (GJ p) λp=>xa k l λq=>Ve k (Ip 1 p q) λp=>Ve k (GJ p) λp=>Ve k (qB .eql 9 o p) λo=>M0 k o bF λo=>PN o λo=>dE [0,1,3,7,3,31,63,3,131,3,899,1923,4095,8191,16383] (HG l (I 1) λl=>b c d g h i j o l))))) (uS e n Q a c d g h i j k)
def fk(a:F4):Nat->F8
 |0=>N8
 |m+1=>WJ e n Q a (fk a m)
def iC(a:F4):F4:=λb c d g=>G8 b λh=>HU g h λh=>cN h (Jo 12 b g λh=>Gd 12 h λh=>Kh zI λi=>GZ 12 h i λ_=>Jo 12 c g λh=>Gd 12 h λh=>Kh zI λj=>GZ 12 h j λ_=>Hr 0 i λh=>G8 h λh=>Hr 0 j λk=>G8 k λk=>LD h k λh=>Iq h (Ho 10 i) λk=>Iq h (GJ k) λk=>Iq h (Gq k) λk=>Iq h (Ho 10 j) λl=>Iq h (GJ l) λl=>Iq h (Gq l) λl=>Iq h (Mn k l) λk=>G5 h bT k λh=>SN h d λk=>SN h k λk=>H7 k (Ho 11 i) λl=>H7 k (GJ l) λl=>H7 k (Ho 11 j) λo=>H7 k (GJ o) λo=>H7 k (Mn l o) λl=>Iq h (Gp k l bF) λk=>G5 h bT k λh=>cN h (r1 bF e n Q) (bf 1 i λh=>Gd 9 h λh=>bf 1 j λk=>Gd 9 k λk=>Rq 51 [h,k,d] λh=>e8 (fk e n Q a) b c d g i j h (I 0))) (AB9 e n Q)
def WK:Nat->F4
 |0=>N4
 |m+1=>iC e n Q (WK m)
def c33:F3:=λa b c=>G8 a λd=>G8 b λg=>LD d g λd=>cN d (r1 bF e n Q) (e4 (WK e n Q) a b c (I 0))
def AKt:P3 33 c33:=p3 func33 165 λe n Q=>(Fz (Fz (Fz (wA (J0 (AB9 e n Q)) Fx) (Fz (GU (wL (λm=>J4 (WK e n Q m) 0 1 2 7) λa=>(Fz (Fz Fx (GU (Fz (Fz (Fz (Fz (Fz (wA (J7 (uS e n Q (WK e n Q a)) 0 1 2 7 8 9 10) (Fz (wA (J5 (fi e n Q (WK e n Q a)) 0 1 2 7 10) Fx) (Fz (GU (wL (λm=>J8 (fj e n Q (WK e n Q a) m) 0 1 2 7 8 9 10 12) λb=>Fx)) Fx))) (Fz (GU (wL (λm=>J8 (fk e n Q (WK e n Q a) m) 0 1 2 7 8 9 10 11) λa=>Fx)) Fx)) Fx) Fx) Fx) Fx))) Fx))) Fx)) Fx) Fx)
def oL:F0:=r1 bT e n Q
def WU(a:F4):F4:=λb c d g=>Hr 7 c λh=>G8 h λh=>HU g h λh=>cN h (dS (K8 7 c λh=>dV (MF 9 h g λh=>I3 9 h λh=>K8 7 d λi=>dV (MF 9 i g λi=>I3 9 i λi=>dV (dC 51 [h,i,b] λh=>PN h λh=>dE [0,1,0,7,15,0,32,0,224,480,0,2047,4095] (T2 .not h λh=>cN h (r1 bF e n Q) (HG g (I 1) λg=>a b c d g))))))) (oL e n Q)
def fl:Nat->F4
 |0=>N4
 |m+1=>WU e n Q (fl m)
def c51:F3:=λa b c=>LK a λa=>LK b λb=>Hr 0 a λd=>Hr 0 b λg=>LD d g λd=>Iq d (Ho 1 a) λg=>Iq d (GJ g) λg=>Iq d (Ho 1 b) λh=>Iq d (GJ h) λh=>Iq d (Mn g h) λg=>G5 d bT g λd=>Iq d (Ho 2 a) λg=>Iq d (GJ g) λg=>Iq d (Ho 2 b) λh=>Iq d (GJ h) λh=>Iq d (qB .neq 9 g h) λg=>G5 d bT g λd=>Iq d (Ho 3 a) λg=>Iq d (GM 2 g) λg=>Iq d (Ho 3 b) λh=>Iq d (GM 2 h) λh=>Iq d (qB .neq 74 g h) λg=>G5 d bT g λd=>Iq d (Ho 5 a) λg=>Iq d (GJ g) λg=>Iq d (Ho 5 b) λh=>Iq d (GJ h) λh=>Iq d (Mn g h) λg=>G5 d bT g λd=>Iq d (Ho 6 a) λg=>Iq d (GJ g) λg=>Iq d (Ho 6 b) λh=>Iq d (GJ h) λh=>Iq d (Mn g h) λg=>G5 d bT g λd=>Iq d (Ho 7 a) λg=>Iq d (GJ g) λg=>Iq d (Gq g) λg=>Iq d (Ho 7 b) λh=>Iq d (GJ h) λh=>Iq d (Gq h) λh=>Iq d (Mn g h) λg=>G5 d bT g λd=>SN d c λg=>SN d g λg=>H7 g (Ho 8 a) λh=>H7 g (GJ h) λh=>H7 g (Ho 8 b) λi=>H7 g (GJ i) λi=>H7 g (Mn h i) λh=>Iq d (Gp g h bF) λg=>G5 d bT g λd=>cN d (r1 bF e n Q) (e4 (fl e n Q) c a b (I 0))
def AK0:P3 51 c51:=p3 func51 89 λe n Q=>(Fz (Fz (Fz (wA (J0 (oL e n Q)) Fx) (Fz (GU (wL (λm=>J4 (fl e n Q m) 2 3 4 7) λa=>Fx)) Fx)) Fx) Fx)
def ACA:F0:=r1 bT e n Q
def iI(a:F4):F4:=λb c d g=>G8 b λh=>HU g h λh=>cN h (dS (dV (dV (MF 12 b g λh=>ai 0 h λh=>I3 9 h λh=>dV (dV (MF 12 c g λi=>ai 0 i λi=>I3 9 i λi=>dV (dC 51 [h,i,d] λh=>PN h λh=>dE [0,0,3,7,15,0,0,96,224,480,0,2047,4095] (dS (dV (dUn .not h λh=>dV (Sv h b λi=>Sv h g λj=>Kp h (Ip 12 i j) λi=>Kp h (Ho 9 i) λi=>Kp h (GJ i) λi=>Sv h c λj=>Sv h g λk=>Kp h (Ip 12 j k) λj=>Kp h (Ho 9 j) λj=>Kp h (GJ j) λj=>Kp h (qB .neq 9 i j) λi=>M0 h bT i λh=>dV (Sv h b λi=>Sv h g λj=>Kp h (Ip 12 i j) λi=>Kp h (Ho 10 i) λi=>Kp h (GJ i) λi=>Sv h c λj=>Sv h g λk=>Kp h (Ip 12 j k) λj=>Kp h (Ho 10 j) λj=>Kp h (GJ j) λj=>Kp h (qB .neq 4 i j) λi=>M0 h bT i λh=>dV (Sv h d λi=>Sv h i λi=>xa i b λj=>xa i g λk=>Ve i (Ip 12 j k) λj=>Ve i (Ho 11 j) λj=>Ve i (GJ j) λj=>xa i c λk=>xa i g λl=>Ve i (Ip 12 k l) λk=>Ve i (Ho 11 k) λk=>Ve i (GJ k) λk=>Ve i (Mn j k) λj=>Kp h (Gp i j bF) λi=>M0 h bT i λh=>dE [0,1,3,7,7,31,63,127,7,7,775,1799,3847,8191,16383,32767,65535,65535,262143,524287,1048575,65535,65535,6356991,14745599,31522815,67108863,134217727,268435455,536870911,1073741823,2147483647,2147483647,8589934591,17179869183,34359738367,2147483647,2147483647,208305913855,483183820799,1032939634687,2199023255551,4398046511103,8796093022207] (cN h (r1 bF e n Q) (HG g (I 1) λg=>a b c d g))))))))))))))) (ACA e n Q)
def xJ:Nat->F4
 |0=>N4
 |m+1=>iI e n Q (xJ m)
def c52:F3:=λa b c=>G8 a λd=>G8 b λg=>LD d g λd=>cN d (r1 bF e n Q) (e4 (xJ e n Q) a b c (I 0))
def AK1:P3 52 c52:=p3 func52 76 λe n Q=>(Fz (Fz (Fz (wA (J0 (ACA e n Q)) Fx) (Fz (GU (wL (λm=>J4 (xJ e n Q m) 0 1 2 7) λa=>Fx)) Fx)) Fx) Fx)
end
end
section
open Go.Proofs Go.Proofs.Tryz
section
variable(e n:Nat) (Q:QT)
def ACB:F0:=r1 (I (-1)) e n Q
def aY(a:F3):F3:=λb c d=>Yh d (I 0) λg=>cN g (Hr 0 c λg=>Jo 1 g d λg=>H4 g λg=>IM .eql 9 g b λg=>cN g (Hr 1 c λg=>Jo 1 g d λg=>H4 g λg=>Gi g λg=>r1 g e n Q) (Uy d (I 1) λd=>a b c d)) (ACB e n Q)
def oO:Nat->F3
 |0=>N3
 |m+1=>aY e n Q (oO m)
def c81:F2:=λa b=>LK a λa=>Hr 0 a λc=>G8 c λc=>Uy c (I 1) λc=>e3 (oO e n Q) b a c
def ALH:P2 81 c81:=p2 func81 26 λe n Q=>(Fz (Fz (wA (J0 (ACB e n Q)) Fx) (Fz (GU (wL (λm=>J3 (oO e n Q m) 1 2 5) λa=>Fx)) Fx)) Fx)
end
end
section
open Go.Proofs Go.Proofs.Tryz
section
variable(e n:Nat) (Q:QT)
def c16:F1:=λa=>Gi a λa=>r1 a e n Q
def AKm:P1 16 c16:=p1 func16 4 λe n Q=>Fx
def c12:F0:=oC 19 [(.Gh ⟨#[110,111,100,101,32,102,40,41,32,114,101,116,117,114,110,115,32,40,120,58,32,105,56,41,32,118,97,114,32,121,58,32,105,56,59,32,108,101,116,32,120,32,61,32,121,32,43,32,49,105,56,59,32,121,32,61,32,120,59,32,116,101,108]⟩)] λa=>TT 0 a λb=>TT 1 a λa=>Kh [.nil] λc=>GZ 1 b c λ_=>Gi a λa=>oC 19 [(.Gh ⟨#[110,111,100,101,32,102,40,41,32,114,101,116,117,114,110,115,32,40,120,58,32,105,56,41,32,118,97,114,32,121,58,32,105,56,59,32,108,101,116,32,120,32,61,32,48,105,56,32,45,62,32,112,114,101,32,121,59,32,121,32,61,32,120,59,32,116,101,108]⟩)] λb=>TT 0 b λd=>TT 1 b λb=>Kh [.nil] λg=>GZ 1 d g λ_=>Gi b λb=>Gd 1 c λc=>oC 14 [c] λc=>TT 0 c λd=>TT 1 c λc=>Gi d λd=>Gi c λc=>Gd 1 g λg=>oC 14 [g] λg=>TT 0 g λh=>TT 1 g λg=>Gi h λh=>Gi g λg=>Lh a b λb=>G5 a b bF λa=>Lh a c λb=>hCT a 16 [b] λb=>H7 a (IN b (I 29)) λb=>G5 a b bF λa=>Lh a d λb=>H7 a (IN b (I 18)) λb=>G5 a b bF λa=>Lh a g λb=>hCT a 16 [b] λb=>H7 a (IN b (I 0)) λb=>G5 a b bF λa=>Gi a λa=>r1 a e n Q
def AKk:P0 12 c12:=p0 func12 45 λe n Q=>Fx
end
end
end Go.Vi
