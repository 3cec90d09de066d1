/- Part of the proof of CauseOrders (own work, made small). -/
import Derived.Test.YtlonlfiaclacdaaGreatB3
set_option linter.all false
set_option maxRecDepth 100000
open Go.Proofs.Tryz renaming prog->BW
namespace Go.Vi
section
open Go.Proofs Go.Proofs.Tryz
def rq(X:Mode)(Q:F1):F1:=λa=>HL a λa=>s2 a bT Q
section
variable(X:Mode) (Q:F1)
def rr(a:F5):F5:=λb c d g h=>ID h g λi=>cN i (Kq 1 d h λi=>JR i λi=>HL i λi=>Kq 5 b i λi=>Ia 0 i λi=>Om 1 [i] λi=>PU 1 16 c i λi=>HL i λi=>Ky h (I 1) λh=>a b i d g h) (rq X Q c)
def gw:Nat->F5
 |0=>N5
 |m+1=>rr X Q (gw m)
def pS:F1:=λa=>HN 6 a λb=>oG X 28 [b] λb=>KZ 1 b λb=>oG X 39 [b] λb=>bV 0 b λc=>bV 1 b λb=>HL c λc=>HL b λb=>WC .not b λb=>cN b (Le λb=>s2 b bF Q) (dS (MJ 2 a λb=>O2 5 64 .nil b λb=>MJ 3 a λa=>O2 5 64 b a λa=>QR a λa=>dE [0,1,3,0,8,31,63] (Le λb=>Hv c λd=>e5 (gw X Q) a b c d (I 0))))
def mD(a:F4):F4:=λb c d g=>ID g d λh=>cN h (Kq 12 c g λh=>HN 12 h λh=>MM zI λi=>HG 12 h i λ_=>Ia 10 i λh=>Hv h λh=>QM h (I 0) λh=>cN h (Le λh=>s2 h bF Q) (Ky g (I 1) λg=>a b c d g)) (pS X Q b)
def aF:Nat->F4
 |0=>N4
 |m+1=>mD X Q (aF m)
def g22:F2:=λa b=>Mr a λa=>Mr b λa=>Le λb=>Ia 4 a λb=>Hv b λc=>e4 (aF X Q) a b c (I 0)
def AOQ:D2 false 22 g22:=d2 func22 59 λX Q=>(Gt (Gt (wA (J1 (pS X Q) 3) (Gt (Gt (Gt (Gt (Gt (wA (J1 (rq X Q) 11) Gs) (Gt (G7 (wL (λm=>J5 (gw X Q m) 10 11 43 44 45) λa=>Gs)) Gs)) Gs) Gs) Gs) Gs)) (Gt (G7 (wL (λm=>J4 (aF X Q m) 3 15 16 17) λa=>Gs)) Gs)) Gs)
def r6:F3:=λa b c=>JR b λd=>Ia 4 a λa=>oG X 45 [d,a,c,.nil,(.fn 46 [b])] λa=>JR b λa=>HL a λa=>s1 a Q
def r7(a:F6):F6:=λb c d g h i=>ID i h λj=>cN j (Kq 5 g i λj=>HN 5 j λj=>MM [S0,I 0,I 0,.nil,I 0] λk=>HG 5 j k λ_=>dS (dV (Nk d λj=>MJ 0 j λj=>MJ 0 k λk=>dQ (IZ BW 68 j k) λ_=>dE [0,1,3,7,0,16,63] (Ky i (I 1) λi=>a b c d g h i)))) (r6 X Q b c d)
def gx:Nat->F6
 |0=>N6
 |m+1=>r7 X Q (gx m)
def g28:F1:=λa=>Mr a λa=>JI [.nil,.nil] [] λb=>Mr b λb=>MM [.RC] λc=>HG 1 b c λ_=>AP8 λb=>JI [.je,.RC] [(some (0,1),b)] λb=>Mr b λb=>HL b λb=>JR c λd=>Ia 2 a λg=>oG X 44 [d,b,g] λd=>JR c λd=>Ia 3 a λg=>oG X 44 [d,b,g] λd=>Ia 1 a λd=>Hv d λg=>e6 (gx X Q) a c b d g (I 0)
def AOS:D1 false 28 g28:=d1 func28 43 λX Q=>(Gt (Gt (Gt (Gt (Gt (Gt (wA (J3 (r6 X Q) 1 3 4) Gs) (Gt (G7 (wL (λm=>J6 (gx X Q m) 1 3 4 23 24 25) λa=>Gs)) Gs)) Gs) Gs) Gs) Gs) Gs)
def mJ(X:Mode)(Q:F1):F2:=λa b=>Hv b λc=>Hv a λa=>KA c a λa=>HL b λb=>HL a λa=>s2 b a Q
def gz(X:Mode)(Q:F1)(a:F5)(a:F8):F8:=λb c d g h i j k=>Ky k (I 1) λk=>a b c d g h i j k
def sB(a:F5)(b:F8):F8:=λc d g h i j k l=>ID l k λo=>cN o (Kq 1 j l λo=>JR o λo=>HL o λo=>Kq 1 d o λp=>JR p λp=>jO p (I 1) λp=>Kq 1 d o λq=>HG 1 p q λ_=>Kq 1 d o λp=>JR p λp=>KA p (I 0) λp=>cN p (oIf 124 h λp=>oIf 3 o λo=>oG X 63 [p,o] λo=>gz X Q a b c d g h i j k l) (gz X Q a b c d g h i j k l)) (a c d g h i)
def cP(a:F5):Nat->F8
 |0=>N8
 |m+1=>sB X Q a (cP a m)
def sA(a:F5):F5:=λb c d g h=>On g λi=>JR i λi=>oG X 64 [i] λi=>QM i (I 0) λi=>cN i (oIf 124 g λi=>oG X 65 [i] λi=>oAs 3 i λi=>HL i λi=>Om 1 [i] λj=>PU 1 8 h j λj=>HL j λj=>Kq 1 d i λi=>JR i λi=>Hv i λk=>e8 (cP X Q a) b c d g j i k (I 0)) (mJ X Q b h)
def Wu:Nat->F5
 |0=>N5
 |m+1=>sA X Q (Wu m)
def gy:F4:=λa b c d=>Le λg=>e5 (Wu X Q) a b c d g
def aK(X:Mode)(Q:F1)(a:F7):F7:=λb c d g h i j=>Ky j (I 1) λj=>a b c d g h i j
def mK(a:F7):F7:=λb c d g h i j=>ID j i λk=>cN k (Kq 1 h j λk=>JR k λk=>HL j λl=>HL k λk=>KA k (I 0) λk=>cN k (oIf 124 g λk=>oIf 3 l λl=>oG X 63 [k,l] λk=>aK X Q a b c d g h i j) (aK X Q a b c d g h i j)) (gy X Q b c d g)
def Ws:Nat->F7
 |0=>N7
 |m+1=>mK X Q (Ws m)
def Yo:F3:=λa b c=>oQ (some (.LM 1 [] λb=> .LQ b 0)) λd=>Mr d λd=>HL d λd=>Hv b λg=>e7 (Ws X Q) a b c d b g (I 0)
def Up(X:Mode)(Q:F1)(a:F6):F6:=λb c d g h i=>Ky i (I 1) λi=>a b c d g h i
def Wr(X:Mode)(Q:F1)(a:F6)(a:qm):qm:=λb c d g h i j k l o p=>Ky p (I 1) λp=>a b c d g h i j k l o p
def Yp(a:F6)(b:qm):qm:=λc d g h i j k l o p q=>ID q p λr=>cN r (Kq 1 o q λr=>JR r λr=>HL r λr=>oQ (IP BW 55 i r false) λt=>KA t (I 0) λt=>cN t (oQ (IU BW 55 i r (I 1)) λ_=>Kq 1 d h λt=>JR t λt=>Ky t (I 1) λt=>Kq 1 d h λu=>HG 1 t u λ_=>Kq 1 g r λt=>JR t λt=>Om 1 [h] λu=>PU 1 8 t u λt=>Kq 1 g r λr=>HG 1 t r λ_=>Wr X Q a b c d g h i j k l o p q) (Wr X Q a b c d g h i j k l o p q)) (Up X Q a c d g j k l)
def Wt(a:F6):Nat->qm
 |0=>N11
 |m+1=>Yp X Q a (Wt a m)
def ej(a:F6):F6:=λb c d g h i=>ID i h λj=>cN j (Kq 1 g i λj=>JR j λj=>HL i λk=>HL j λj=>AP8 λl=>HL l λl=>Hv j λo=>e11 (Wt X Q a) b c d k l g h i j o (I 0)) (Yo X Q b c d)
def Po:Nat->F6
 |0=>N6
 |m+1=>ej X Q (Po m)
def g39:F1:=λa=>Le λb=>Hv a λb=>AG1 1 8 [I 0] b b λb=>HL b λb=>Hv a λc=>AG1 1 24 [.nil] c c λc=>HL c λc=>Hv a λd=>e6 (Po X Q) a b c a d (I 0)
def AOU:D1 false 39 g39:=d1 func39 124 λX Q=>(Gt (Gt (Gt (Gt (wA (J3 (Yo X Q) 0 4 5) (Gt (Gt (wA (J4 (gy X Q) 0 4 5 11) (Gt (Gt (wA (J2 (mJ X Q) 0 14) Gs) (G7 (wL (λm=>J5 (Wu X Q m) 0 4 5 11 14) λa=>(Gt (G7 (Gt (Gt (Gt (G7 (wL (λm=>J8 (cP X Q (Wu X Q a) m) 0 4 5 11 14 95 96 97) λb=>(Gt (Gt (Gt (wA (J8 (gz X Q (Wu X Q a) (cP X Q (Wu X Q a) b)) 0 4 5 11 14 95 96 97) Gs) Gs) Gs) Gs))) Gs) Gs) Gs)) Gs)))) Gs)) (Gt (G7 (wL (λm=>J7 (Ws X Q m) 0 4 5 11 64 65 66) λa=>(Gt (Gt (Gt (wA (J7 (aK X Q (Ws X Q a)) 0 4 5 11 64 65 66) Gs) Gs) Gs) Gs))) Gs)) Gs)) (Gt (G7 (wL (λm=>J6 (Po X Q m) 0 4 5 24 25 26) λa=>(Gt (Gt (Gt (wA (J6 (Up X Q (Po X Q a)) 0 4 5 24 25 26) Gs) (G7 (Gt (Gt (Gt (G7 (wL (λm=>J11 (Wt X Q (Po X Q a) m) 0 4 5 6 8 24 25 26 32 33 34) λb=>(Gt (Gt (Gt (wA (J11 (Wr X Q (Po X Q a) (Wt X Q (Po X Q a) b)) 0 4 5 6 8 24 25 26 32 33 34) Gs) Gs) Gs) Gs))) Gs) Gs) Gs))) Gs) Gs))) Gs)) Gs) Gs) Gs)
def sC(X:Mode)(Q:F1)(a:F5):F5:=λb c d g h=>Ky h (I 1) λh=>a b c d g h
def jx(a:F5)(b:F9):F9:=λc d g h i j k l o=>ID o l λp=>cN p (Kq 2 k o λp=>HN 2 p λp=>MM [S0,bF] λq=>HG 2 p q λ_=>dS (dV (dV (Nk d λp=>MJ 0 p λp=>MJ 0 g λr=>dQ (IP BW 68 p r false) λp=>dV (MJ 0 q λq=>dG X 77 [c,p,d,q] λp=>dE [0,0,2,6,14,0,32,126,0,0,512,2047] (Ky o (I 1) λo=>b c d g h i j k l o)))))) (sC X Q a c d h i j)
def mL(a:F5):Nat->F9
 |0=>N9
 |m+1=>jx X Q a (mL a m)
def yg(a:F5):F5:=λb c d g h=>ID h g λi=>cN i (Kq 5 d h λi=>HN 5 i λi=>MM [S0,I 0,I 0,.nil,I 0] λj=>HG 5 i j λ_=>Ia 3 j λi=>Hv i λk=>e9 (mL X Q a) b c j d g h i k (I 0)) (s0 Q)
def jA:Nat->F5
 |0=>N5
 |m+1=>yg X Q (jA m)
def ABB:F3:=λa b c=>Hv c λd=>e5 (jA X Q) a b c d (I 0)
def ep(a:F6):F6:=λb c d g h i=>ID i h λj=>cN j (Kq 5 g i λj=>HN 5 j λj=>MM [S0,I 0,I 0,.nil,I 0] λk=>HG 5 j k λ_=>dS (dV (Nk c λj=>MJ 0 j λj=>MJ 0 k λl=>dV (MJ 4 k λk=>dG X 76 [b,k] λk=>dQ (IU BW 68 j l k) λ_=>dE [0,1,3,7,0,16,0,0,128,448,1023] (Ky i (I 1) λi=>a b c d g h i))))) (ABB X Q b c d)
def ek:Nat->F6
 |0=>N6
 |m+1=>ep X Q (ek m)
def g44:F3:=λa b c=>Hv c λd=>e6 (ek X Q) a b c c d (I 0)
def AOV:D3 false 44 g44:=d3 func44 56 λX Q=>(Gt (wA (J3 (ABB X Q) 0 1 2) (Gt (G7 (wL (λm=>J5 (jA X Q m) 0 1 29 30 31) λa=>(Gt (Gt (Gt (wA (J5 (sC X Q (jA X Q a)) 0 1 29 30 31) Gs) (G7 (Gt (Gt (G7 (wL (λm=>J9 (mL X Q (jA X Q a) m) 0 1 9 29 30 31 36 37 38) λa=>Gs)) Gs) Gs))) Gs) Gs))) Gs)) (Gt (G7 (wL (λm=>J6 (ek X Q m) 0 1 2 12 13 14) λa=>Gs)) Gs))
def mM(X:Mode)(Q:F1)(a:F7):F7:=λb c d g h i j=>Ky j (I 1) λj=>a b c d g h i j
def mO(X:Mode)(Q:F1)(a:F7)(a:qm):qm:=λb c d g h i j k l o p=>Ky p (I 1) λp=>a b c d g h i j k l o p
def j0(X:Mode)(a b c:PV)(d:PV)(g:F0):F0:=HL d λd=>JR a λa=>JR c λc=>JR b λb=>oG X 77 [a,c,b,d] λa=>g
def jz(a:F7)(b:qm):qm:=λc d g h i j k l o p q=>ID q p λr=>cN r (Kq 1 o q λr=>JR r λr=>HL r λr=>JR h λt=>oG X 79 [t,r] λr=>MM [I 0] λt=>HG 1 r t λ_=>JR t λr=>ID r (I 0) λr=>cN r (mO X Q a b c d g h i j k l o p q) (iS 1 i λr=>HN 9 r λr=>oG X 78 [r] λr=>oR X r (j0 X g h t) (dS (MC g λr=>Nk r λr=>MJ 1 r λr=>MC t λu=>MC g λv=>Nk v λv=>MJ 1 v λv=>MC t λt=>PL 1 v t λt=>MC t λt=>dV (O2 1 8 t c λt=>PL 1 r u λr=>MD 1 t r λ_=>dE [0,1,3,7,0,0,32,96,224,0,992,2016,0,8160,16383,32767] (mO X Q a b c d g h i j k l o p q)))))) (mM X Q a c d g h j k l)
def cQ(a:F7):Nat->qm
 |0=>N11
 |m+1=>jz X Q a (cQ a m)
def yi(a:F7):F8:=λb c d g h i j k=>Ia 10 h λl=>Hv l λl=>QM l (I 0) λl=>cN l (mM X Q a b c d g i j k) (Ia 0 h λl=>Hv l λo=>e11 (cQ X Q a) b c d g h i j k l o (I 0))
def ABC(X:Mode)(Q:F1)(a:F7)(a:bl):F14:=λb c d g h i j k l o p q r t=>JR d λu=>Ia 4 j λj=>JR i λv=>oG X 45 [u,j,k,v,c] λj=>Ky t (I 1) λj=>a b c d g h i l o p q r j
def sD(X:Mode)(Q:F1)(a:F7)(a:bl)(a:F17):F17:=λb c d g h i j k l o p q r t u v w=>Ky w (I 1) λw=>a b c d g h i j k l o p q r t u v w
def AFi(a:F7)(b:bl)(c:F17):F17:=λd g h i j k l o p q r t u v w x y=>ID y x λz=>cN z (Kq 5 w y λz=>HN 5 z λz=>MM [S0,I 0,I 0,.nil,I 0] λA=>HG 5 z A λ_=>Ia 0 A λz=>oG X 79 [o,z] λz=>HL z λz=>ZO z (I 0) λA=>cN A (dS (MC h λA=>Nk A λA=>MJ 1 A λA=>dV (MC h λB=>Nk B λB=>MJ 1 B λB=>dV (PL 1 B z λB=>MC B λB=>MC k λC=>O2 1 8 B C λB=>PL 1 A z λz=>MD 1 B z λ_=>dE [0,1,3,7,0,0,32,96,224,0,992,2016,0,8160,16383,32767] (sD X Q a b c d g h i j k l o p q r t u v w x y))))) (sD X Q a b c d g h i j k l o p q r t u v w x y)) (ABC X Q a b d g h i j k l o p q r t u v)
def jy(a:F7)(b:bl):Nat->F17
 |0=>N17
 |m+1=>AFi X Q a b (jy a b m)
def vI(a:F7)(b:bl):bl:=λc d g h i j k l o p q r=>ID r q λt=>cN t (Kq 6 p r λt=>HN 6 t λt=>MM zS λu=>HG 6 t u λ_=>AP8 λt=>JR h λv=>JI [.je,.RC] [(some (0,1),t),(some (1,1),v)] λt=>Mr t λt=>HL t λt=>HN 6 u λv=>oD X [d,v,t] λv=>Ia 3 u λv=>Hv v λw=>e17 (jy X Q a b) c d g h i j u t k l o p q r v w (I 0)) (yi X Q a c d g h i k l o)
def Uq(a:F7):Nat->bl
 |0=>N12
 |m+1=>vI X Q a (Uq a m)
def yh(a:F7):F9:=λb c d g h i j k l=>JR i λo=>PU 1 8 o b λo=>HG 1 o i λ_=>Ia 10 h λo=>Hv o λp=>xT (Uq X Q a) b c d g h i j k l o p (I 0)
def ABD(X:Mode)(Q:F1)(a:F7)(a:bl):bl:=λb c d g h i j k l o p q=>Ky q (I 1) λq=>a b c d g h i j k l o p q
def ABE(X:Mode)(a b:PV)(c:PV)(d:F0):F0:=HL c λc=>JR a λa=>oG X 79 [a,c] λa=>HL a λa=>ZO a (I 0) λc=>cN c (JR b λc=>Om 1 [a] λa=>PU 1 8 c a λa=>HG 1 a b λ_=>d) (d)
def AFj(a:F7)(b:bl)(c:F15):F15:=λd g h i j k l o p q r t u v w=>ID w v λx=>cN x (Kq 12 u w λx=>HN 12 x λx=>MM [I 0,I 0,S0,I 0,I 0,I 0,I 0,.nil,I 0,S0,bF,I 0] λy=>HG 12 x y λ_=>iS 0 y λx=>HN 9 x λx=>oG X 78 [x] λx=>oR X x (ABE X i k) (Ky w (I 1) λw=>c d g h i j k l o p q r t u v w)) (ABD X Q a b d g h i j k l o p q r t)
def sE(a:F7)(b:bl):Nat->F15
 |0=>N15
 |m+1=>AFj X Q a b (sE a b m)
def vJ(a:F7)(b:bl):bl:=λc d g h i j k l o p q r=>ID r q λt=>cN t (Kq 6 p r λt=>HN 6 t λt=>MM zS λu=>HG 6 t u λ_=>Ia 1 u λt=>Hv t λu=>e15 (sE X Q a b) c d g h i j k l o p q r t u (I 0)) (yh X Q a c d g h i j k l o)
def aL(a:F7):Nat->bl
 |0=>N12
 |m+1=>vJ X Q a (aL a m)
def yj(a:F7):F7:=λb c d g h i j=>ID j i λk=>cN k (Kq 12 h j λk=>HN 12 k λk=>MM zI λl=>HG 12 k l λ_=>MM [.nil] λk=>Ia 10 l λo=>Hv o λp=>xT (aL X Q a) b c d g l k h i j o p (I 0)) (s0 Q)
def Np:Nat->F7
 |0=>N7
 |m+1=>yj X Q (Np m)
def g45:F5:=λa b c d g=>Mr a λa=>Mr c λc=>Hv b λh=>e7 (Np X Q) d g a c b h (I 0)
def AOW:D5 false 45 g45:=d5 func45 161 λX Q=>(Gt (Gt (G7 (wL (λm=>J7 (Np X Q m) 3 4 5 7 29 30 31) (λa=>(Gt (Gt (Gt (wA (J7 (mM X Q (Np X Q a)) 3 4 5 7 29 30 31) Gs) (G7 (Gt (Gt (Gt (wA (J9 (yh X Q (Np X Q a)) 3 4 5 7 11 12 29 30 31) (Gt (Gt (wA (J8 (yi X Q (Np X Q a)) 3 4 5 7 11 29 30 31) (Gt (Gt (G7 (wL (λm=>J11 (cQ X Q (Np X Q a) m) 3 4 5 7 11 29 30 31 124 125 126) (λb=>(Gt (Gt (Gt (wA (J11 (mO X Q (Np X Q a) (cQ X Q (Np X Q a) b)) 3 4 5 7 11 29 30 31 124 125 126) Gs) (G7 (Gt (Gt (Gt (Gt Gs (Gt (G7 (AM9 rfl rfl (λf=>(f 137)) (λ_=>rfl) (λf=>j0 X (f 5) (f 7) (f 27)) (λ_ _ _ _=>by kernel_rfl))) Gs)) Gs) Gs) Gs))) Gs) Gs)))) Gs) Gs)) (Gt (G7 (wL (λm=>J12 (Uq X Q (Np X Q a) m) 3 4 5 7 11 12 29 30 31 68 69 70) λb=>(Gt (Gt (Gt Gs (G7 (Gt (Gt (Gt (Gt (wA (J14 (ABC X Q (Np X Q a) (Uq X Q (Np X Q a) b)) 3 4 5 7 11 12 20 21 29 30 31 68 69 70) Gs) (Gt (G7 (wL (λm=>J17 (jy X Q (Np X Q a) (Uq X Q (Np X Q a) b) m) 3 4 5 7 11 12 20 21 29 30 31 68 69 70 83 84 85) λc=>(Gt (Gt (Gt (wA (J17 (sD X Q (Np X Q a) (Uq X Q (Np X Q a) b) (jy X Q (Np X Q a) (Uq X Q (Np X Q a) b) c)) 3 4 5 7 11 12 20 21 29 30 31 68 69 70 83 84 85) Gs) Gs) Gs) Gs))) Gs)) Gs) Gs) Gs))) Gs) Gs))) Gs)) Gs)) (Gt (G7 (wL (λm=>J12 (aL X Q (Np X Q a) m) 3 4 5 7 11 12 29 30 31 36 37 38) (λb=>(Gt (Gt (Gt (wA (J12 (ABD X Q (Np X Q a) (aL X Q (Np X Q a) b)) 3 4 5 7 11 12 29 30 31 36 37 38) Gs) (G7 (Gt (Gt (G7 (wL (λm=>J15 (sE X Q (Np X Q a) (aL X Q (Np X Q a) b) m) 3 4 5 7 11 12 29 30 31 36 37 38 43 44 45) (λa=>(Gt (Gt (Gt Gs (G7 (Gt (Gt (G7 (AM9 rfl rfl (λf=>(f 51)) (λ_=>rfl) (λf=>ABE X (f 7) (f 12)) (λ_ _ _ _=>by kernel_rfl))) Gs) Gs))) Gs) Gs)))) Gs) Gs))) Gs) Gs)))) Gs)) Gs) Gs))) Gs) Gs)))) Gs) Gs)
def g76(X:Mode)(Q:F1):F2:=λa b=>KZ 0 a λc=>Om 1 [b] λb=>PU 1 8 c b λb=>On a λc=>Nb 0 1 b c λ_=>KZ 1 a λb=>AMr 1 [.nil] λc=>AMq 1 24 b c λb=>On a λc=>Nb 1 1 b c λ_=>KZ 0 a λa=>Hv a λa=>XN a (I 1) λa=>s1 a Q
def AOc:D2 false 76 g76:=d2 func76 30 λX Q=>Gs
def g77:F4:=λa b c d=>oG X 79 [c,d] λc=>HL c λc=>ZO b (I 0) λd=>Mx d c λg=>Is d (AHS g (I 0)) λg=>Hy d g bF λd=>cN d (dS (dV (Nk a λd=>MJ 1 d λd=>dV (dV (Nk a λa=>MJ 1 a λa=>dV (PL 1 a b λa=>MC a λa=>dV (Xj 1 [c] λc=>O2 1 8 a c λa=>PL 1 d b λb=>MD 1 a b λ_=>dE [0,1,3,7,0,0,32,96,224,0,992,2016,0,4096,16352,32767,65535] (s0 Q)))))))) (s0 Q)
def AOd:D4 false 77 g77:=d4 func77 34 λX Q=>Gs
def g78(X:Mode)(Q:F1):F1:=λa=>Mr a λa=>HL (.fn 104 [a]) λa=>s1 a Q
def AOe:D1 false 78 g78:=d1 func78 4 λX Q=>Gs
def AFn(X:Mode)(Q:F1):F0:=s1 (I (-1)) Q
def sL(a:F2):F2:=λb c=>JB .neq 99 b .RC λd=>cN d (KZ 0 b λd=>oQ (IP BW 68 d c true) λd=>bV 0 d λg=>bV 1 d λd=>HL g λg=>HL d λd=>cN d (HL g λd=>s1 d Q) (KZ 1 b λb=>HL b λb=>a b c)) (AFn X Q)
def mR:Nat->F2
 |0=>N2
 |m+1=>sL X Q (mR m)
def g79:F2:=λa b=>e2 (mR X Q) a b
def AOf:D2 false 79 g79:=d2 func79 24 λX Q=>(Gt (Gt (wA (J0 (AFn X Q)) Gs) (G7 (wL (λm=>J2 (mR X Q m) 0 1) λa=>Gs))) Gs)
def ASo:F2:=λa b=>HN 9 b λb=>oG X 105 [b,a] λa=>s0 Q
def AJu:D2 false 104 ASo:=d2 func104 6 λX Q=>Gs
def rm(X:Mode)(Q:F1):F0:=s1 bT Q
def mC(a:F4):F4:=λb c d g=>ID g d λh=>cN h (Kq 9 c g λh=>HN 9 h λh=>MM zE λi=>HG 9 h i λ_=>HN 9 i λh=>oG X 105 [h,b] λh=>WC .not h λh=>cN h (s1 bF Q) (Ky g (I 1) λg=>a b c d g)) (rm X Q)
def aE:Nat->F4
 |0=>N4
 |m+1=>mC X Q (aE m)
def gr:F2:=λa b=>Hv b λc=>e4 (aE X Q) a b c (I 0)
def Uo:F4:=λa b c d=>cN d (Ia 2 b λb=>oD X [a,b] λb=>WC .not b λb=>cN b (s1 bF Q) (gr X Q a c)) (gr X Q a c)
def ASp:F2:=λa b=>Mr a λa=>Ia 7 a λc=>HL c λc=>Ia 0 a λd=>IX d (I 6) λg=>cN g (s1 bT Q) (IX d (I 8) λg=>cN g (Hv c λg=>AYZ (I 1) g λg=>AK3 9 false true c [g] λg=>HL g λg=>gr X Q b g) (IX d (I 2) λg=>cN g (Uo X Q b a c g) (IX d (I 9) λg=>cN g (Uo X Q b a c g) (IX d (I 10) λd=>Uo X Q b a c d))))
def AJv:D2 false 105 ASp:=d2 func105 41 λX Q=>(Gt (Gt (Gt (wA (J2 (gr X Q) 1 5) (Gt (wA (J0 (rm X Q)) Gs) (Gt (G7 (wL (λm=>J4 (aE X Q m) 1 30 31 32) λa=>Gs)) Gs))) (Gt (G7 (Gt (Jj Gs (Gt (Jj Gs (Gt (wA (J4 (Uo X Q) 1 2 5 21) Gs) Gs)) Gs)) Gs)) Gs)) Gs) Gs)
def g63:F2:=λa b=>oI X "Push" [a,b] λb=>oI X "Len" [a] λb=>jO b (I 1) λb=>oG X 100 [a,b] λa=>s0 Q
def AOa:D2 false 63 g63:=d2 func63 12 λX Q=>Gs
def g65:F1:=λa=>oI X "Len" [a] λb=>XN b (I 1) λb=>oI X "Swap" [a,I 0,b] λc=>oG X 101 [a,I 0,b] λb=>oI X "Pop" [a] λa=>HL a λa=>s1 a Q
def AOb:D1 false 65 g65:=d1 func65 15 λX Q=>Gs
def rj(a:F2):F2:=λb c=>jO c (I 1) λd=>AP9 d (I 2) λd=>KA d c λg=>U8 g b λh=>U8 g c λi=>U8 g d λj=>hIF g X "Less" [h,i,j] λh=>Kz g (KV .not h) λh=>Hy g bT h λg=>cN g (s0 Q) (oI X "Swap" [b,d,c] λc=>HL d λc=>a b c)
def gm:Nat->F2
 |0=>N2
 |m+1=>rj X Q (gm m)
def ASm:F2:=λa b=>e2 (gm X Q) a b
def AJs:D2 false 100 ASm:=d2 func100 23 λX Q=>(G7 (wL (λm=>J2 (gm X Q m) 0 1) λa=>Gs))
def gq(X:Mode)(Q:F1):F2:=λa b=>AG0 b a λa=>s1 a Q
def aD(a:F4):F5:=λb c d g h=>oI X "Less" [b,h,g] λi=>WC .not i λi=>cN i (gq X Q c g) (oI X "Swap" [b,g,h] λg=>HL h λg=>a b c d g)
def vG(a:F4):F4:=λb c d g=>ABr (I 2) g λh=>H3 h (I 1) λh=>ZO h d λi=>U8 i h λj=>Kz i (fU j (I 0)) λj=>Hy i bT j λi=>cN i (gq X Q c g) (HL h λi=>H3 h (I 1) λj=>ID j d λk=>Mx k b λl=>Mx k j λo=>Mx k h λh=>hIT k X "Less" [l,o,h] λh=>Hy k h bF λh=>cN h (HL j λh=>aD X Q a b c d g h) (aD X Q a b c d g i))
def Wp:Nat->F4
 |0=>N4
 |m+1=>vG X Q (Wp m)
def ASn:F3:=λa b c=>HL b λd=>e4 (Wp X Q) a b c d
def AJt:D3 false 101 ASn:=d3 func101 48 λX Q=>(Gt (Gt (Gt (wA (J2 (gq X Q) 1 7) Gs) (G7 (wL (λm=>J4 (Wp X Q m) 0 1 2 7) λa=>(G7 (Gt (Gt (Gt (Gt (wA (J5 (aD X Q (Wp X Q a)) 0 1 2 7 9) Gs) Gs) Gs) Gs) Gs))))) Gs) Gs)
def g64(X:Mode)(Q:F1):F1:=λa=>Hv a λa=>HL a λa=>s1 a Q
def AFm:D1 false 64 g64:=d1 func64 5 λX Q=>Gs
def ASq(X:Mode)(Q:F1):F3:=λa b c=>dS (dV (dV (PL 1 a b λb=>MC b λb=>dV (dV (PL 1 a c λa=>MC a λa=>AL3 b a λa=>QR a λa=>dE [0,0,3,7,0,0,48,112,255,511] (s1 a Q))))))
def AJw:D3 false 199 ASq:=d3 func199 16 λX Q=>Gs
def ASr(X:Mode)(Q:F1):F1:=λa=>On a λb=>JR b λb=>Hv b λb=>XN b (I 1) λb=>On a λc=>JR c λc=>Kq 1 c b λc=>JR c λc=>HL c λc=>On a λd=>JR d λd=>AK3 1 false true d [b] λb=>On a λa=>HG 1 b a λ_=>oIf 3 c λa=>HL a λa=>s1 a Q
def AJx:D1 false 200 ASr:=d1 func200 25 λX Q=>Gs
def ASs(X:Mode)(Q:F1):F2:=λa b=>dS (dV (dV (Nk a λc=>MC c λc=>dV (dAs 3 b λb=>ASa 1 [b] λb=>ASZ 1 8 c b λb=>Nk a λa=>MD 1 b a λ_=>dE [0,0,2,6,0,16,48,126,255,511] (s0 Q)))))
def AJy:D2 false 201 ASs:=d2 func201 13 λX Q=>Gs
def ASt(X:Mode)(Q:F1):F3:=λa b c=>dS (dV (dV (dV (dV (dV (dV (PL 1 a c λd=>MC d λd=>dV (dV (PL 1 a b λg=>MC g λg=>PL 1 a b λb=>MD 1 d b λ_=>PL 1 a c λa=>MD 1 g a λ_=>dE [0,0,0,0,0,0,48,112,0,0,768,1792,4083,8179,16383,32767] (s0 Q))))))))))
def AJz:D3 false 202 ASt:=d3 func202 20 λX Q=>Gs
end
end
section
open Go.Proofs Go.Proofs.Tryz
def ry(X:Mode)(Q:F1):F1:=λa=>HL a λa=>s2 a bT Q
def Wq(X:Mode)(Q:F1)(a:F4):F5:=λb c d g h=>ID h (I 0) λi=>cN i (Le λi=>s2 i bF Q) (Kq 1 d h λi=>HG 1 bT i λ_=>KZ 0 c λi=>Kq 1 i h λh=>JR h λh=>Om 1 [h] λh=>PU 1 16 g h λg=>HL g λg=>a b c d g)
def aG(X:Mode)(Q:F1)(a:F4)(a:F6):F6:=λb c d g h i=>H3 i (I 1) λi=>a b c d g h i
section
variable(X:Mode) (Q:F1)
def ei(a:F4)(b:F6):F7:=λc d g h i j k=>cN k (HL j λk=>aG X Q a b c d g h k j) (aG X Q a b c d g h i j)
def mG(a:F4)(b:F6)(c:F8):F8:=λd g h i j k l o=>KZ 2 g λp=>Kq 1 p k λp=>JR p λp=>Hv p λp=>ID o p λp=>cN p (Mx l h λp=>Mx l g λq=>Is l (IA q) λq=>Is l (Iz 2 q) λq=>Is l (G3 q) λq=>Mx l k λr=>Is l (Jq 1 q r) λq=>Is l (G3 q) λq=>Mx l o λr=>Is l (Jq 1 q r) λq=>Is l (G3 q) λq=>Is l (Jq 1 p q) λp=>Is l (G3 p) λp=>Hy l p bF λp=>HL p λp=>H3 o (I 1) λo=>c d g h i j k p o) (ei X Q a b d g h i j k l)
def aH(a:F4)(b:F6):Nat->F8
 |0=>N8
 |m+1=>mG X Q a b (aH a b m)
def mF(a:F4)(b:F6):F6:=λc d g h i j=>KZ 0 d λk=>Hv k λk=>ID j k λk=>Mx k i λl=>Is k (fU l (I 0)) λl=>Hy k l bF λk=>cN k (Kq 1 g j λk=>JR k λk=>WC .not k λk=>HL k λk=>e8 (aH X Q a b) c d g h i j k (I 0)) (Wq X Q a c d g h i)
def Rl(a:F4):Nat->F6
 |0=>N6
 |m+1=>mF X Q a (Rl a m)
def rz(a:F4):F4:=λb c d g=>dS (dV (uv g λh=>dV (Nk c λi=>MJ 0 i λi=>uv i λi=>MJ 1 b λj=>uv j λj=>ASc i j λi=>AL3 h i λh=>dE [0,1,0,4,12,28,60,0,128,384,1020,2047] (cN h (Ia 1 b λh=>Hv h λh=>HL h λh=>e6 (Rl X Q a) b c d g (I (-1)) h) (ry X Q g)))))
def Qw:Nat->F4
 |0=>N4
 |m+1=>rz X Q (Qw m)
def mE:F3:=λa b c=>Le λd=>e4 (Qw X Q) a b c d
def mH(a:F4):F4:=λb c d g=>Ia 1 b λh=>Hv h λh=>ID g h λh=>cN h (Kq 1 d g λh=>HG 1 bT h λ_=>H3 g (I 1) λg=>a b c d g) (mE X Q b c d)
def aI:Nat->F4
 |0=>N4
 |m+1=>mH X Q (aI m)
def vH:F1:=λa=>HN 6 a λb=>oG X 30 [b] λb=>HL b λb=>KZ 0 b λc=>Hv c λc=>AG1 1 1 [bF] c c λc=>HL c λc=>e4 (aI X Q) a b c (I 0)
def mI(a:F2):F2:=λb c=>Ia 4 b λd=>Hv d λd=>ID c d λd=>cN d (Ia 4 b λd=>Kq 12 d c λd=>Ia 10 d λd=>Hv d λd=>QM d (I 0) λd=>cN d (Le λd=>s2 d bF Q) (H3 c (I 1) λc=>a b c)) (vH X Q b)
def aJ:Nat->F2
 |0=>N2
 |m+1=>mI X Q (aJ m)
def g23:F1:=λa=>Mr a λa=>Le λb=>e2 (aJ X Q) a (I 0)
def AOR:D1 false 23 g23:=d1 func23 125 λX Q=>(Gt (Gt (wA (J1 (vH X Q) 1) (Gt (Gt (Gt (wA (J3 (mE X Q) 1 5 6) (Gt (Gt (wA (J1 (ry X Q) 8) Gs) (G7 (wL (λm=>J4 (Qw X Q m) 1 5 6 8) λa=>(Gt (G7 (Gt (Gt (wA (J5 (Wq X Q (Qw X Q a)) 1 5 6 8 9) Gs) (Gt (G7 (wL (λm=>J6 (Rl X Q (Qw X Q a) m) 1 5 6 8 9 10) λb=>(Gt (Gt (wA (J6 (aG X Q (Qw X Q a) (Rl X Q (Qw X Q a) b)) 1 5 6 8 9 10) Gs) (G7 (Gt (Gt (wA (J7 (ei X Q (Qw X Q a) (Rl X Q (Qw X Q a) b)) 1 5 6 8 9 10 11) Gs) (Gt (G7 (wL (λm=>J8 (aH X Q (Qw X Q a) (Rl X Q (Qw X Q a) b) m) 1 5 6 8 9 10 11 12) λa=>Gs)) Gs)) Gs))) Gs))) Gs)) Gs)) Gs)))) Gs)) (Gt (G7 (wL (λm=>J4 (aI X Q m) 1 5 6 7) λa=>Gs)) Gs)) Gs) Gs)) (Gt (G7 (wL (λm=>J2 (aJ X Q m) 1 4) λa=>Gs)) Gs)) Gs)
def g30:F1:=λa=>Mr a λa=>JI [.nil,.nil,.nil] [] λb=>Mr b λb=>HL b λb=>JI [.nil,.nil] [] λc=>HN 6 a λd=>oG X 40 [d,.nil] λd=>oG X 48 [b,c,d] λc=>MM [.nil,.nil] λd=>HG 2 c d λ_=>HN 2 d λc=>Ia 3 a λg=>oG X 49 [b,c,g] λc=>Ia 4 a λa=>HN 2 d λc=>oG X 50 [b,a,c,.nil] λa=>HL b λa=>s1 a Q
def AOT:D1 false 30 g30:=d1 func30 23 λX Q=>Gs
def mP(X:Mode)(Q:F1):F2:=λa b=>HN 2 b λb=>HG 2 b a λ_=>sF (λs=>[I8 (G4 2 a) s]) Q
def j7(a:F5):F5:=λb c d g h=>Hv c λi=>ID h i λi=>cN i (dS (MJ 0 g λi=>dV (dV (PL 5 c h λj=>MJ 0 j λj=>Xj 1 [j] λj=>O2 1 16 i j λi=>ga 0 g λj=>MD 1 i j λ_=>dE [0,1,0,0,12,28,60,124,255,511,1023] (dS (MJ 1 g λi=>dV (Nk b λj=>MJ 0 j λj=>uv j λj=>Xj 1 [j] λj=>O2 1 8 i j λi=>ga 1 g λj=>MD 1 i j λ_=>dE [0,1,0,4,12,28,60,124,255,511,1023] (dS (dV (dV (Nk b λi=>MJ 0 i λi=>dV (dV (PL 5 c h λj=>MJ 0 j λj=>Xj 1 [j] λj=>O2 1 16 i j λi=>Nk b λj=>ga 0 j λj=>MD 1 i j λ_=>dE [0,0,2,6,14,0,0,96,224,480,992,2046,4095,8191,16383] (dS (dV (dV (Nk b λi=>MJ 1 i λi=>dV (dV (PL 5 c h λj=>MJ 4 j λj=>Xj 1 [j] λj=>O2 1 8 i j λi=>Nk b λj=>ga 1 j λj=>MD 1 i j λ_=>dE [0,0,2,6,14,0,0,96,224,480,992,2046,4095,8191,16383] (KZ 2 b λi=>AMr 1 [.nil] λj=>AMq 1 24 i j λi=>On b λj=>Nb 2 1 i j λ_=>H3 h (I 1) λh=>a b c d g h)))))))))))))))))))) (mP X Q d g)
def hY:Nat->F5
 |0=>N5
 |m+1=>j7 X Q (hY m)
def g48:F3:=λa b c=>Mr b λb=>MM [.nil,.nil] λd=>dS (MJ 0 b λg=>O2 1 16 .nil g λg=>MJ 1 b λb=>O2 1 8 .nil b λb=>gZ [.nil,.nil] [(some (0,1),g),(some (1,1),b)] λb=>dBx [.nil,.nil] λg=>MD 2 b g λ_=>dE [0,1,3,0,8,31,63,0,255] (e5 (hY X Q) a c d g (I 0)))
def AOX:D3 false 48 g48:=d3 func48 80 λX Q=>(Gt (Gt (Gt (wA (J2 (mP X Q) 6 7) Gs) (Gt (G7 (wL (λm=>J5 (hY X Q m) 0 2 6 7 8) λa=>Gs)) Gs)) Gs) Gs)
def mQ(X:Mode)(Q:F1)(a:F4):F4:=λb c d g=>H3 g (I 1) λg=>a b c d g
def sG(a:F4)(b:F5):F5:=λc d g h i=>Kq 5 d h λj=>Ia 3 j λj=>Hv j λj=>ID i j λj=>cN j (dS (dV (Jz 2 g λj=>dV (dV (PL 5 d h λk=>MJ 0 k λk=>dG X 81 [j,k] λj=>Jz 2 g λk=>dV (dV (PL 5 d h λl=>MJ 3 l λl=>dV (PL 2 l i λl=>MJ 0 l λl=>Xj 1 [l] λl=>dG X 80 [c,j,k,l] λj=>dE [0,0,0,0,12,28,60,126,0,0,0,1536,3584,7680,0,32256,65024,130560,261632,524287] (H3 i (I 1) λi=>b c d g h i))))))))) (mQ X Q a c d g h)
def hZ(a:F4):Nat->F5
 |0=>N5
 |m+1=>sG X Q a (hZ a m)
def yk(a:F4):F4:=λb c d g=>Hv c λh=>ID g h λh=>cN h (e5 (hZ X Q a) b c d g (I 0)) (s0 Q)
def jB:Nat->F4
 |0=>N4
 |m+1=>yk X Q (jB m)
def g49:F3:=λa b c=>Mr b λb=>e4 (jB X Q) a c b (I 0)
def AOY:D3 false 49 g49:=d3 func49 44 λX Q=>(Gt (Gt (G7 (wL (λm=>J4 (jB X Q m) 0 2 4 6) λa=>(Gt (Gt (wA (J4 (mQ X Q (jB X Q a)) 0 2 4 6) Gs) (G7 (Gt (G7 (wL (λm=>J5 (hZ X Q (jB X Q a) m) 0 2 4 6 7) λa=>Gs)) Gs))) Gs))) Gs) Gs)
def sH(X:Mode)(Q:F1)(a:F5):F5:=λb c d g h=>H3 h (I 1) λh=>a b c d g h
def ABH(a:F5)(b:F8):F8:=λc d g h i j k l=>Ia 10 j λo=>Hv o λo=>ID l o λo=>cN o (Ia 10 j λo=>Kq 6 o l λo=>HN 6 o λo=>MM zS λp=>HG 6 o p λ_=>HN 2 h λo=>Ia 3 p λq=>oG X 48 [c,o,q] λo=>MM [.nil,.nil] λq=>HG 2 o q λ_=>HN 2 q λo=>Ia 3 p λr=>oG X 49 [c,o,r] λo=>Ia 4 p λo=>HN 2 q λp=>oG X 50 [c,o,p,k] λo=>H3 l (I 1) λl=>b c d g h i j k l) (sH X Q a c d g h i)
def sK(a:F5):Nat->F8
 |0=>N8
 |m+1=>ABH X Q a (sK a m)
def sI(a:F5):F7:=λb c d g h i j=>e8 (sK X Q a) b c d g h i j (I 0)
def ABF(X:Mode)(Q:F1)(a:F5)(a:F8):F8:=λb c d g h i j k=>H3 k (I 1) λk=>a b c d g h i j k
def ABG(X:Mode)(Q:F1)(a:F5)(a:F8)(a:F9):F9:=λb c d g h i j k l=>H3 l (I 1) λl=>a b c d g h i j k l
def AFl(a:F5)(b:F8)(c:F9)(d:qm):qm:=λg h i j k l o p q r t=>Hv r λu=>ID t u λu=>cN u (dS (dV (Jz 2 j λu=>dV (dV (PL 1 r t λv=>MC v λv=>dG X 81 [u,v] λu=>Xj 1 [u] λu=>O2 1 8 o u λu=>QR u λu=>dE [0,0,0,0,12,28,62,126,255,511] (H3 t (I 1) λt=>d g h i j k l u p q r t)))))) (ABG X Q a b c g h i j k l o p q)
def sJ(a:F5)(b:F8)(c:F9):Nat->qm
 |0=>N11
 |m+1=>AFl X Q a b c (sJ a b c m)
def AFk(a:F5)(b:F8)(c:F9):F9:=λd g h i j k l o p=>Ia 10 k λq=>Kq 6 q o λq=>Ia 1 q λq=>Hv q λq=>ID p q λq=>cN q (Ia 10 k λq=>Kq 6 q o λq=>Ia 1 q λq=>Kq 12 q p λq=>iS 0 q λq=>HN 9 q λq=>oG X 82 [q] λq=>HL q λq=>e11 (sJ X Q a b c) d g h i j k l o p q (I 0)) (ABF X Q a b d g h i j k l o)
def er(a:F5)(b:F8):Nat->F9
 |0=>N9
 |m+1=>AFk X Q a b (er a b m)
def vK(a:F5)(b:F8):F8:=λc d g h i j k l=>Ia 10 j λo=>Hv o λo=>ID l o λo=>cN o (e9 (er X Q a b) c d g h i j k l (I 0)) (sI X Q a c d g h i j k)
def Rm(a:F5):Nat->F8
 |0=>N8
 |m+1=>vK X Q a (Rm a m)
def iA(a:F5):F6:=λb c d g h i=>PU 1 8 .nil d λj=>HL j λj=>e8 (Rm X Q a) b c d g h i j (I 0)
def et(a:F5)(b:F8):F8:=λc d g h i j k l=>Ia 0 j λo=>Hv o λo=>ID l o λo=>Is o (Iz 10 j) λp=>Is o (G3 p) λp=>Is o (Hg p) λp=>Is o (JJ p (I 0)) λp=>Hy o p bF λo=>cN o (dS (Jz 2 h λo=>MJ 0 j λp=>dV (PL 1 p l λp=>MC p λp=>dG X 81 [o,p] λo=>QR o λo=>dE [0,0,2,0,14,30,63,127] (HN 2 h λp=>oG X 80 [c,o,p,k] λp=>dS (dV (Nk c λp=>MJ 2 p λp=>dV (dV (Nk c λq=>MJ 2 q λq=>dV (PL 1 q o λq=>MC q λq=>dV (O2 1 8 q g λq=>PL 1 p o λo=>MD 1 q o λ_=>dE [0,1,3,7,0,0,32,96,224,0,992,2016,0,8160,16383,32767] (H3 l (I 1) λl=>b c d g h i j k l))))))))))) (iA X Q a c d g h i j)
def aM(a:F5):Nat->F8
 |0=>N8
 |m+1=>et X Q a (aM a m)
def yl(a:F5):F5:=λb c d g h=>Hv c λi=>ID h i λi=>cN i (Kq 12 c h λi=>HN 12 i λi=>MM zI λj=>HG 12 i j λ_=>iS 1 j λi=>HN 9 i λi=>oG X 82 [i] λi=>HL i λi=>e8 (aM X Q a) b c d g h j i (I 0)) (s0 Q)
def OQ:Nat->F5
 |0=>N5
 |m+1=>yl X Q (OQ m)
def g50:F4:=λa b c d=>Mr c λc=>e5 (OQ X Q) a b d c (I 0)
def AOZ:D4 false 50 g50:=d4 func50 148 λX Q=>(Gt (Gt (G7 (wL (λm=>J5 (OQ X Q m) 0 1 3 6 8) λa=>(Gt (Gt (wA (J5 (sH X Q (OQ X Q a)) 0 1 3 6 8) Gs) (G7 (Gt (Gt (Gt (wA (J6 (iA X Q (OQ X Q a)) 0 1 3 6 8 9) (Gt (Gt (wA (J7 (sI X Q (OQ X Q a)) 0 1 3 6 8 9 13) (Gt (G7 (wL (λm=>J8 (sK X Q (OQ X Q a) m) 0 1 3 6 8 9 13 18) λb=>Gs)) Gs)) (Gt (G7 (wL (λm=>J8 (Rm X Q (OQ X Q a) m) 0 1 3 6 8 9 13 14) λb=>(Gt (Gt (wA (J8 (ABF X Q (OQ X Q a) (Rm X Q (OQ X Q a) b)) 0 1 3 6 8 9 13 14) Gs) (G7 (Gt (G7 (wL (λm=>J9 (er X Q (OQ X Q a) (Rm X Q (OQ X Q a) b) m) 0 1 3 6 8 9 13 14 15) λc=>(Gt (Gt (wA (J9 (ABG X Q (OQ X Q a) (Rm X Q (OQ X Q a) b) (er X Q (OQ X Q a) (Rm X Q (OQ X Q a) b) c)) 0 1 3 6 8 9 13 14 15) Gs) (G7 (Gt (Gt (G7 (wL (λm=>J11 (sJ X Q (OQ X Q a) (Rm X Q (OQ X Q a) b) (er X Q (OQ X Q a) (Rm X Q (OQ X Q a) b) c) m) 0 1 3 6 8 9 13 14 15 16 17) λb=>Gs)) Gs) Gs))) Gs))) Gs))) Gs))) Gs)) Gs)) (Gt (G7 (wL (λm=>J8 (aM X Q (OQ X Q a) m) 0 1 3 6 8 9 10 11) λa=>Gs)) Gs)) Gs) Gs))) Gs))) Gs) Gs)
def ym(a:F5):F5:=λb c d g h=>Hv d λi=>ID h i λi=>cN i (dS (dV (Nk b λi=>MJ 2 i λi=>dV (dV (Nk b λj=>MJ 2 j λj=>dV (PL 1 j c λj=>MC j λj=>Jz 2 g λk=>dV (dV (PL 1 d h λl=>MC l λl=>dG X 81 [k,l] λk=>Xj 1 [k] λk=>O2 1 8 j k λj=>PL 1 i c λi=>MD 1 j i λ_=>dE [0,1,3,7,0,0,32,96,224,0,992,2016,0,0,0,24576,57344,126976,258048,524256,1048575,2097151] (H3 h (I 1) λh=>a b c d g h))))))))) (s0 Q)
def pT:Nat->F5
 |0=>N5
 |m+1=>ym X Q (pT m)
def g80:F4:=λa b c d=>Mr c λc=>e5 (pT X Q) a b d c (I 0)
def AOg:D4 false 80 g80:=d4 func80 36 λX Q=>(Gt (Gt (G7 (wL (λm=>J5 (pT X Q m) 0 1 3 6 8) λa=>Gs)) Gs) Gs)
def yf(X:Mode)(Q:F1):F0:=s1 bT Q
def rp(a:F2):F2:=λb c=>Ia 0 b λd=>Hv d λd=>ID c d λd=>cN d (dS (Jz 1 b λd=>MJ 0 b λg=>dV (PL 6 g c λg=>Jz 6 g λg=>dG X 22 [d,g] λd=>dV (dEx 0 d λg=>dEx 1 d λd=>QR g λg=>QR d λd=>dE [0,0,2,0,14,30,63,127,255,255,511,2047] (Ia 0 b λh=>Kq 6 h c λh=>HN 6 h λh=>oG X 23 [h] λh=>bV 0 h λi=>bV 1 h λh=>HL i λi=>HL h λh=>JB .neq 4 d h λd=>U8 d g λg=>U8 d i λh=>hGF d X 24 [g,h] λg=>Kz d (KV .not g) λg=>Hy d bT g λd=>cN d (s1 bF Q) (H3 c (I 1) λc=>a b c)))))) (yf X Q)
def gu:Nat->F2
 |0=>N2
 |m+1=>rp X Q (gu m)
def g10:F1:=λa=>oG X 12 [] λb=>HL b λb=>oG X 13 [a] λa=>bV 0 a λc=>bV 1 a λa=>MM [.nil] λd=>HG 1 c d λ_=>HL a λa=>WC .not b λc=>U8 c a λa=>Kz c (KV .not a) λa=>Hy c bT a λa=>cN a (HL b λa=>s1 a Q) (e2 (gu X Q) d (I 0))
def AOP:D1 false 10 g10:=d1 func10 59 λX Q=>(Gt (Gt (Gt (Gt (Gt (wA (J0 (yf X Q)) Gs) (Gt (G7 (wL (λm=>J2 (gu X Q m) 4 6) λa=>Gs)) Gs)) Gs) Gs) Gs) Gs)
end
end
end Go.Vi
