/- Part of the proof of CauseChecks (own work, made small). -/
import Derived.Test.YtlonlfiaclacdaaGreatB3
set_option linter.all false
set_option maxRecDepth 100000
open Go.Proofs.Tryz renaming prog->BZ
namespace Go.Vi
section
open Go.Proofs Go.Proofs.Tryz
section
variable(X:Mode) (Q:F1)
def ov:F3:=λa b c=>H4 b λd=>Hr 4 a λa=>oG X 45 [d,a,c,.nil,(.fn 46 [b])] λa=>H4 b λa=>Gi a λa=>s1 a Q
def ox(a:F6):F6:=λb c d g h i=>HU i h λj=>cN j (Jo 5 g i λj=>Gd 5 j λj=>Kh [S0,I 0,I 0,.nil,I 0] λk=>GZ 5 j k λ_=>dS (dV (NF d λj=>K8 0 j λj=>K8 0 k λk=>dQ (HN BZ 68 j k) λ_=>dE [0,1,3,7,0,16,63] (Jw i (I 1) λi=>a b c d g h i)))) (ov X Q b c d)
def dU:Nat->F6
 |0=>N6
 |m+1=>ox X Q (dU m)
def g28:F1:=λa=>LK a λa=>IX [.nil,.nil] [] λb=>LK b λb=>Kh [.PY] λc=>GZ 1 b c λ_=>AH7 λb=>IX [.Za,.PY] [(some (0,1),b)] λb=>LK b λb=>Gi b λb=>H4 c λd=>Hr 2 a λg=>oG X 44 [d,b,g] λd=>H4 c λd=>Hr 3 a λg=>oG X 44 [d,b,g] λd=>Hr 1 a λd=>G8 d λg=>e6 (dU X Q) a c b d g (I 0)
def ALm:D1 false 28 g28:=d1 func28 43 λX Q=>(Fz (Fz (Fz (Fz (Fz (Fz (wA (J3 (ov X Q) 1 3 4) Fx) (Fz (GU (wL (λm=>J6 (dU X Q m) 1 3 4 23 24 25) λa=>Fx)) Fx)) Fx) Fx) Fx) Fx) Fx)
def oz(X:Mode)(Q:F1)(a:F5):F5:=λb c d g h=>Jw h (I 1) λh=>a b c d g h
def fx(a:F5)(b:F9):F9:=λc d g h i j k l o=>HU o l λp=>cN p (Jo 2 k o λp=>Gd 2 p λp=>Kh [S0,bF] λq=>GZ 2 p q λ_=>dS (dV (dV (NF d λp=>K8 0 p λp=>K8 0 g λr=>dQ (HF BZ 68 p r false) λp=>dV (K8 0 q λq=>dG X 77 [c,p,d,q] λp=>dE [0,0,2,6,14,0,32,126,0,0,512,2047] (Jw o (I 1) λo=>b c d g h i j k l o)))))) (oz X Q a c d h i j)
def jV(a:F5):Nat->F9
 |0=>N9
 |m+1=>fx X Q a (jV a m)
def u6(a:F5):F5:=λb c d g h=>HU h g λi=>cN i (Jo 5 d h λi=>Gd 5 i λi=>Kh [S0,I 0,I 0,.nil,I 0] λj=>GZ 5 i j λ_=>Hr 3 j λi=>G8 i λk=>e9 (jV X Q a) b c j d g h i k (I 0)) (s0 Q)
def ei:Nat->F5
 |0=>N5
 |m+1=>u6 X Q (ei m)
def xk:F3:=λa b c=>G8 c λd=>e5 (ei X Q) a b c d (I 0)
def au(a:F6):F6:=λb c d g h i=>HU i h λj=>cN j (Jo 5 g i λj=>Gd 5 j λj=>Kh [S0,I 0,I 0,.nil,I 0] λk=>GZ 5 j k λ_=>dS (dV (NF c λj=>K8 0 j λj=>K8 0 k λl=>dV (K8 4 k λk=>dG X 76 [b,k] λk=>dQ (HH BZ 68 j l k) λ_=>dE [0,1,3,7,0,16,0,0,128,448,1023] (Jw i (I 1) λi=>a b c d g h i))))) (xk X Q b c d)
def ar:Nat->F6
 |0=>N6
 |m+1=>au X Q (ar m)
def g44:F3:=λa b c=>G8 c λd=>e6 (ar X Q) a b c c d (I 0)
def ALq:D3 false 44 g44:=d3 func44 56 λX Q=>(Fz (wA (J3 (xk X Q) 0 1 2) (Fz (GU (wL (λm=>J5 (ei X Q m) 0 1 29 30 31) λa=>(Fz (Fz (Fz (wA (J5 (oz X Q (ei X Q a)) 0 1 29 30 31) Fx) (GU (Fz (Fz (GU (wL (λm=>J9 (jV X Q (ei X Q a) m) 0 1 9 29 30 31 36 37 38) λa=>Fx)) Fx) Fx))) Fx) Fx))) Fx)) (Fz (GU (wL (λm=>J6 (ar X Q m) 0 1 2 12 13 14) λa=>Fx)) Fx))
def dW(X:Mode)(Q:F1)(a:F7):F7:=λb c d g h i j=>Jw j (I 1) λj=>a b c d g h i j
def jW(X:Mode)(Q:F1)(a:F7)(a:wy):wy:=λb c d g h i j k l o p=>Jw p (I 1) λp=>a b c d g h i j k l o p
def gD(X:Mode)(a b c:PV)(d:PV)(g:F0):F0:=Gi d λd=>H4 a λa=>H4 c λc=>H4 b λb=>oG X 77 [a,c,b,d] λa=>g
def gC(a:F7)(b:wy):wy:=λc d g h i j k l o p q=>HU q p λr=>cN r (Jo 1 o q λr=>H4 r λr=>Gi r λr=>H4 h λt=>oG X 79 [t,r] λr=>Kh [I 0] λt=>GZ 1 r t λ_=>H4 t λr=>HU r (I 0) λr=>cN r (jW X Q a b c d g h i j k l o p q) (bf 1 i λr=>Gd 9 r λr=>oG X 78 [r] λr=>oR X r (gD X g h t) (dS (IS g λr=>NF r λr=>K8 1 r λr=>IS t λu=>IS g λv=>NF v λv=>K8 1 v λv=>IS t λt=>MF 1 v t λt=>IS t λt=>dV (OS 1 8 t c λt=>MF 1 r u λr=>KC 1 t r λ_=>dE [0,1,3,7,0,0,32,96,224,0,992,2016,0,8160,16383,32767] (jW X Q a b c d g h i j k l o p q)))))) (dW X Q a c d g h j k l)
def ZE(a:F7):Nat->wy
 |0=>N11
 |m+1=>gC X Q a (ZE a m)
def o5(a:F7):F8:=λb c d g h i j k=>Hr 10 h λl=>G8 l λl=>Pa l (I 0) λl=>cN l (dW X Q a b c d g i j k) (Hr 0 h λl=>G8 l λo=>e11 (ZE X Q a) b c d g h i j k l o (I 0))
def fy(X:Mode)(Q:F1)(a:F7)(a:Ym):F14:=λb c d g h i j k l o p q r t=>H4 d λu=>Hr 4 j λj=>H4 i λv=>oG X 45 [u,j,k,v,c] λj=>Jw t (I 1) λj=>a b c d g h i l o p q r j
def gA(X:Mode)(Q:F1)(a:F7)(a:Ym)(a:F17):F17:=λb c d g h i j k l o p q r t u v w=>Jw w (I 1) λw=>a b c d g h i j k l o p q r t u v w
def ax(a:F7)(b:Ym)(c:F17):F17:=λd g h i j k l o p q r t u v w x y=>HU y x λz=>cN z (Jo 5 w y λz=>Gd 5 z λz=>Kh [S0,I 0,I 0,.nil,I 0] λA=>GZ 5 z A λ_=>Hr 0 A λz=>oG X 79 [o,z] λz=>Gi z λz=>Yh z (I 0) λA=>cN A (dS (IS h λA=>NF A λA=>K8 1 A λA=>dV (IS h λB=>NF B λB=>K8 1 B λB=>dV (MF 1 B z λB=>IS B λB=>IS k λC=>OS 1 8 B C λB=>MF 1 A z λz=>KC 1 B z λ_=>dE [0,1,3,7,0,0,32,96,224,0,992,2016,0,8160,16383,32767] (gA X Q a b c d g h i j k l o p q r t u v w x y))))) (gA X Q a b c d g h i j k l o p q r t u v w x y)) (fy X Q a b d g h i j k l o p q r t u v)
def Uj(a:F7)(b:Ym):Nat->F17
 |0=>N17
 |m+1=>ax X Q a b (Uj a b m)
def aw(a:F7)(b:Ym):Ym:=λc d g h i j k l o p q r=>HU r q λt=>cN t (Jo 6 p r λt=>Gd 6 t λt=>Kh zS λu=>GZ 6 t u λ_=>AH7 λt=>H4 h λv=>IX [.Za,.PY] [(some (0,1),t),(some (1,1),v)] λt=>LK t λt=>Gi t λt=>Gd 6 u λv=>oD X [d,v,t] λv=>Hr 3 u λv=>G8 v λw=>e17 (Uj X Q a b) c d g h i j u t k l o p q r v w (I 0)) (o5 X Q a c d g h i k l o)
def QO(a:F7):Nat->Ym
 |0=>N12
 |m+1=>aw X Q a (QO a m)
def o4(a:F7):F9:=λb c d g h i j k l=>H4 i λo=>PZ 1 8 o b λo=>GZ 1 o i λ_=>Hr 10 h λo=>G8 o λp=>e12 (QO X Q a) b c d g h i j k l o p (I 0)
def gB(X:Mode)(Q:F1)(a:F7)(a:Ym):Ym:=λb c d g h i j k l o p q=>Jw q (I 1) λq=>a b c d g h i j k l o p q
def ay(X:Mode)(a b:PV)(c:PV)(d:F0):F0:=Gi c λc=>H4 a λa=>oG X 79 [a,c] λa=>Gi a λa=>Yh a (I 0) λc=>cN c (H4 b λc=>On 1 [a] λa=>PZ 1 8 c a λa=>GZ 1 a b λ_=>d) (d)
def jY(a:F7)(b:Ym)(c:F15):F15:=λd g h i j k l o p q r t u v w=>HU w v λx=>cN x (Jo 12 u w λx=>Gd 12 x λx=>Kh [I 0,I 0,S0,I 0,I 0,I 0,I 0,.nil,I 0,S0,bF,I 0] λy=>GZ 12 x y λ_=>bf 0 y λx=>Gd 9 x λx=>oG X 78 [x] λx=>oR X x (ay X i k) (Jw w (I 1) λw=>c d g h i j k l o p q r t u v w)) (gB X Q a b d g h i j k l o p q r t)
def Xr(a:F7)(b:Ym):Nat->F15
 |0=>N15
 |m+1=>jY X Q a b (Xr a b m)
def jX(a:F7)(b:Ym):Ym:=λc d g h i j k l o p q r=>HU r q λt=>cN t (Jo 6 p r λt=>Gd 6 t λt=>Kh zS λu=>GZ 6 t u λ_=>Hr 1 u λt=>G8 t λu=>e15 (Xr X Q a b) c d g h i j k l o p q r t u (I 0)) (o4 X Q a c d g h i j k l o)
def Sy(a:F7):Nat->Ym
 |0=>N12
 |m+1=>jX X Q a (Sy a m)
def u7(a:F7):F7:=λb c d g h i j=>HU j i λk=>cN k (Jo 12 h j λk=>Gd 12 k λk=>Kh zI λl=>GZ 12 k l λ_=>Kh [.nil] λk=>Hr 10 l λo=>G8 o λp=>e12 (Sy X Q a) b c d g l k h i j o p (I 0)) (s0 Q)
def Md:Nat->F7
 |0=>N7
 |m+1=>u7 X Q (Md m)
def g45:F5:=λa b c d g=>LK a λa=>LK c λc=>G8 b λh=>e7 (Md X Q) d g a c b h (I 0)
def ALr:D5 false 45 g45:=d5 func45 161 λX Q=>(Fz (Fz (GU (wL (λm=>J7 (Md X Q m) 3 4 5 7 29 30 31) (λa=>(Fz (Fz (Fz (wA (J7 (dW X Q (Md X Q a)) 3 4 5 7 29 30 31) Fx) (GU (Fz (Fz (Fz (wA (J9 (o4 X Q (Md X Q a)) 3 4 5 7 11 12 29 30 31) (Fz (Fz (wA (J8 (o5 X Q (Md X Q a)) 3 4 5 7 11 29 30 31) (Fz (Fz (GU (wL (λm=>J11 (ZE X Q (Md X Q a) m) 3 4 5 7 11 29 30 31 124 125 126) (λb=>(Fz (Fz (Fz (wA (J11 (jW X Q (Md X Q a) (ZE X Q (Md X Q a) b)) 3 4 5 7 11 29 30 31 124 125 126) Fx) (GU (Fz (Fz (Fz (Fz Fx (Fz (GU (AKJ rfl rfl (λf=>(f 137)) (λ_=>rfl) (λf=>gD X (f 5) (f 7) (f 27)) (λ_ _ _ _=>by kernel_rfl))) Fx)) Fx) Fx) Fx))) Fx) Fx)))) Fx) Fx)) (Fz (GU (wL (λm=>J12 (QO X Q (Md X Q a) m) 3 4 5 7 11 12 29 30 31 68 69 70) λb=>(Fz (Fz (Fz Fx (GU (Fz (Fz (Fz (Fz (wA (J14 (fy X Q (Md X Q a) (QO X Q (Md X Q a) b)) 3 4 5 7 11 12 20 21 29 30 31 68 69 70) Fx) (Fz (GU (wL (λm=>J17 (Uj X Q (Md X Q a) (QO X Q (Md X Q a) b) m) 3 4 5 7 11 12 20 21 29 30 31 68 69 70 83 84 85) λc=>(Fz (Fz (Fz (wA (J17 (gA X Q (Md X Q a) (QO X Q (Md X Q a) b) (Uj X Q (Md X Q a) (QO X Q (Md X Q a) b) c)) 3 4 5 7 11 12 20 21 29 30 31 68 69 70 83 84 85) Fx) Fx) Fx) Fx))) Fx)) Fx) Fx) Fx))) Fx) Fx))) Fx)) Fx)) (Fz (GU (wL (λm=>J12 (Sy X Q (Md X Q a) m) 3 4 5 7 11 12 29 30 31 36 37 38) (λb=>(Fz (Fz (Fz (wA (J12 (gB X Q (Md X Q a) (Sy X Q (Md X Q a) b)) 3 4 5 7 11 12 29 30 31 36 37 38) Fx) (GU (Fz (Fz (GU (wL (λm=>J15 (Xr X Q (Md X Q a) (Sy X Q (Md X Q a) b) m) 3 4 5 7 11 12 29 30 31 36 37 38 43 44 45) (λa=>(Fz (Fz (Fz Fx (GU (Fz (Fz (GU (AKJ rfl rfl (λf=>(f 51)) (λ_=>rfl) (λf=>ay X (f 7) (f 12)) (λ_ _ _ _=>by kernel_rfl))) Fx) Fx))) Fx) Fx)))) Fx) Fx))) Fx) Fx)))) Fx)) Fx) Fx))) Fx) Fx)))) Fx) Fx)
def g46:F3:=λa b c=>LK a λa=>H4 c λc=>Hr 3 a λa=>oG X 44 [c,b,a] λa=>s0 Q
def ALs:D3 false 46 g46:=d3 func46 10 λX Q=>Fx
def u4(X:Mode)(Q:F1):F1:=λa=>H4 a λa=>Gi a λa=>s1 a Q
def jU(X:Mode)(Q:F1)(a:F5):F5:=λb c d g h=>Jw h (I 1) λh=>a b c d g h
def oy(a:F5):F5:=λb c d g h=>HU h g λi=>cN i (Gi h λi=>H4 b λj=>Jo 1 j i λj=>H4 j λj=>JR j (I 0) λj=>cN j (H4 d λj=>oD X [j,i] λi=>jU X Q a b c d g h) (jU X Q a b c d g h)) (u4 X Q c)
def ZD:Nat->F5
 |0=>N5
 |m+1=>oy X Q (ZD m)
def g29:F1:=λa=>LK a λa=>H4 a λb=>JV 0 b λb=>G8 b λb=>Gi b λb=>dS (dV (AI9 1 8 [I 0] b b λc=>dV (AI9 1 8 [I 0] b b λd=>dBx [.nil] λg=>dBx [.nil] λh=>KC 1 c g λ_=>KC 1 d h λ_=>dE [0,1,0,4,0,0,51,127] (AH7 λc=>Kh [.Za] λd=>GZ 1 c d λ_=>AH7 λc=>Kh [.Za] λi=>GZ 1 c i λ_=>Kh [.nil] λc=>Kh [I 0] λj=>GZ 1 (I 0) j λ_=>Kh [.nfn] λk=>GZ 1 (.fn 47 [j,g,h,c,d,a,i,k]) k λ_=>e5 (ZD X Q) g i k b (I 0)))))
def ALn:D1 true 29 g29:=d1 func29 38 λX Q=>(Fz (Fz (Fz (Fz (Fz (Fz (Fz (Fz (Fz (Fz (wA (J1 (u4 X Q) 7) Fx) (Fz (GU (wL (λm=>J5 (ZD X Q m) 4 7 10 24 25) λa=>(Fz (Fz (Fz (wA (J5 (jU X Q (ZD X Q a)) 4 7 10 24 25) Fx) Fx) Fx) Fx))) Fx)) Fx) Fx) Fx) Fx) Fx) Fx) Fx) Fx) Fx)
def az(X:Mode)(Q:F1)(a:F6):F6:=λb c d g h i=>Jw i (I 1) λi=>a b c d g h i
def o7(a:F6):F6:=λb c d g h i=>HU i h λj=>cN j (H4 b λj=>H4 b λk=>G8 k λk=>bg k (I 1) λk=>Jo 1 j k λj=>H4 j λj=>Gi j λj=>H4 b λk=>H4 b λl=>G8 l λl=>bg l (I 1) λl=>AEL 1 false true k [l] λk=>GZ 1 k b λ_=>H4 c λk=>oQ (HN BZ 55 k j) λ_=>Pa g (I 0) λk=>cN k (H4 d λk=>oQ (HH BZ 55 k j (I 1)) λ_=>az X Q a b c d g h i) (az X Q a b c d g h i)) (s0 Q)
def Wm:Nat->F6
 |0=>N6
 |m+1=>o7 X Q (Wm m)
def o6:F4:=λa b c d=>Jw d (I 1) λg=>e6 (Wm X Q) a b c d g (I 0)
def bA(a:F6):F6:=λb c d g h i=>H4 c λj=>Jo 1 j i λj=>H4 j λj=>LD j b λj=>cN j (HG h (I 1) λj=>Uy i (I 1) λi=>a b c d g j i) (o6 X Q c d g h)
def Xs:Nat->F6
 |0=>N6
 |m+1=>bA X Q (Xs m)
def jZ:F6:=λa b c d g h=>dS (IS c λc=>dV (MF 1 c a λc=>IS c λc=>IS b λb=>dV (MF 1 b a λb=>IS b λb=>AP2 c b λb=>dE [0,0,3,7,0,0,48,112,255] (cN b (s0 Q) (H4 d λb=>G8 b λb=>Uy b (I 1) λb=>e6 (Xs X Q) a d g h (I 0) b)))))
def Ns(X:Mode)(Q:F1)(a:qY):qY:=λb c d g h i j k l o=>Jw o (I 1) λo=>a b c d g h i j k l o
def bB(a:qY):qY:=λb c d g h i j k l o=>HU o l λp=>cN p (Jo 1 k o λp=>H4 p λp=>Gi p λp=>Hy p b λq=>cN q (H4 i λq=>oQ (HH BZ 55 q b (I 1)) λ_=>Ns X Q a b c d g h i j k l o) (H4 c λq=>Jo 1 q p λq=>H4 q λq=>Hy q (I 0) λq=>cN q (H4 j λq=>oD X [q,p] λq=>dS (IS d λq=>dV (IS d λr=>dV (MF 1 r b λr=>IS r λr=>IS d λt=>dV (MF 1 t p λt=>IS t λt=>ACK r t λr=>MF 1 q b λq=>KC 1 r q λ_=>dE [0,0,0,0,12,28,0,0,192,448,1020,2047,4095] (Ns X Q a b c d g h i j k l o)))))) (H4 h λq=>oQ (HF BZ 55 q p false) λq=>AEK q (I 0) λq=>cN q (dS (IS d λq=>dV (IS d λr=>dV (MF 1 r b λr=>IS r λr=>IS c λt=>dV (MF 1 t p λp=>IS p λp=>ACK r p λp=>MF 1 q b λq=>KC 1 p q λ_=>dE [0,0,0,0,12,28,0,0,192,448,1020,2047,4095] (Ns X Q a b c d g h i j k l o)))))) (Ns X Q a b c d g h i j k l o)))) (jZ X Q b c d g h i)
def PO:Nat->qY
 |0=>N10
 |m+1=>bB X Q (PO m)
def g47:F9:=λa b c d g h i j k=>H4 b λl=>Jw l (I 1) λl=>GZ 1 l b λ_=>dS (IS c λl=>dV (IS d λo=>dV (IS b λp=>IS b λb=>MF 1 l a λl=>KC 1 p l λ_=>MF 1 o a λl=>KC 1 b l λ_=>dE [0,0,0,0,0,0,19,83,255,511] (H4 g λb=>AEF 1 [a] λl=>sM 1 8 b l λb=>GZ 1 b g λ_=>H4 h λb=>oQ (HH BZ 55 b a (I 1)) λ_=>H4 i λb=>JV 1 b λb=>Jo 1 b a λb=>H4 b λb=>G8 b λi=>e10 (PO X Q) a c d g h j k b i (I 0)))))
def ALt:D9 true 47 g47:=d9 func47 132 λX Q=>(Fz (Fz (Fz (Fz (Fz (wA (J6 (jZ X Q) 0 2 3 4 5 7) (Fz (Fz (Fz (wA (J4 (o6 X Q) 4 5 7 12) (Fz (GU (wL (λm=>J6 (Wm X Q m) 4 5 7 12 111 112) λa=>(Fz (Fz (Fz (wA (J6 (az X Q (Wm X Q a)) 4 5 7 12 111 112) Fx) Fx) Fx) Fx))) Fx)) (Fz (GU (wL (λm=>J6 (Xs X Q m) 0 4 5 7 12 13) λa=>Fx)) Fx)) Fx) Fx)) (Fz (GU (wL (λm=>J10 (PO X Q m) 0 2 3 4 5 7 8 37 38 39) λa=>(Fz (Fz (Fz (wA (J10 (Ns X Q (PO X Q a)) 0 2 3 4 5 7 8 37 38 39) Fx) Fx) Fx) Fx))) Fx)) Fx) Fx) Fx) Fx)
def g76(X:Mode)(Q:F1):F2:=λa b=>JV 0 a λc=>On 1 [b] λb=>PZ 1 8 c b λb=>O2 a λc=>Mg 0 1 b c λ_=>JV 1 a λb=>AEF 1 [.nil] λc=>sM 1 24 b c λb=>O2 a λc=>Mg 1 1 b c λ_=>JV 0 a λa=>G8 a λa=>Uy a (I 1) λa=>s1 a Q
def ALx:D2 false 76 g76:=d2 func76 30 λX Q=>Fx
def g77:F4:=λa b c d=>oG X 79 [c,d] λc=>Gi c λc=>Yh b (I 0) λd=>Lh d c λg=>H7 d (AEd g (I 0)) λg=>G5 d g bF λd=>cN d (dS (dV (NF a λd=>K8 1 d λd=>dV (dV (NF a λa=>K8 1 a λa=>dV (MF 1 a b λa=>IS a λa=>dV (VY 1 [c] λc=>OS 1 8 a c λa=>MF 1 d b λb=>KC 1 a b λ_=>dE [0,1,3,7,0,0,32,96,224,0,992,2016,0,4096,16352,32767,65535] (s0 Q)))))))) (s0 Q)
def ALy:D4 false 77 g77:=d4 func77 34 λX Q=>Fx
def g78(X:Mode)(Q:F1):F1:=λa=>LK a λa=>Gi (.fn 104 [a]) λa=>s1 a Q
def ALz:D1 false 78 g78:=d1 func78 4 λX Q=>Fx
def ACs(X:Mode)(Q:F1):F0:=s1 (I (-1)) Q
def o9(a:F2):F2:=λb c=>IM .neq 99 b .PY λd=>cN d (JV 0 b λd=>oQ (HF BZ 68 d c true) λd=>TT 0 d λg=>TT 1 d λd=>Gi g λg=>Gi d λd=>cN d (Gi g λd=>s1 d Q) (JV 1 b λb=>Gi b λb=>a b c)) (ACs X Q)
def jf:Nat->F2
 |0=>N2
 |m+1=>o9 X Q (jf m)
def g79:F2:=λa b=>e2 (jf X Q) a b
def AL0:D2 false 79 g79:=d2 func79 24 λX Q=>(Fz (Fz (wA (J0 (ACs X Q)) Fx) (GU (wL (λm=>J2 (jf X Q m) 0 1) λa=>Fx))) Fx)
def AQD:F2:=λa b=>Gd 9 b λb=>oG X 105 [b,a] λa=>s0 Q
def AG2:D2 false 104 AQD:=d2 func104 6 λX Q=>Fx
def oj(X:Mode)(Q:F1):F0:=s1 bT Q
def jT(a:F4):F4:=λb c d g=>HU g d λh=>cN h (Jo 9 c g λh=>Gd 9 h λh=>Kh zE λi=>GZ 9 h i λ_=>Gd 9 i λh=>oG X 105 [h,b] λh=>T2 .not h λh=>cN h (s1 bF Q) (Jw g (I 1) λg=>a b c d g)) (oj X Q)
def Xq:Nat->F4
 |0=>N4
 |m+1=>jT X Q (Xq m)
def dP:F2:=λa b=>G8 b λc=>e4 (Xq X Q) a b c (I 0)
def Sx:F4:=λa b c d=>cN d (Hr 2 b λb=>oD X [a,b] λb=>T2 .not b λb=>cN b (s1 bF Q) (dP X Q a c)) (dP X Q a c)
def AQE:F2:=λa b=>LK a λa=>Hr 7 a λc=>Gi c λc=>Hr 0 a λd=>Hy d (I 6) λg=>cN g (s1 bT Q) (Hy d (I 8) λg=>cN g (G8 c λg=>AWU (I 1) g λg=>AEL 9 false true c [g] λg=>Gi g λg=>dP X Q b g) (Hy d (I 2) λg=>cN g (Sx X Q b a c g) (Hy d (I 9) λg=>cN g (Sx X Q b a c g) (Hy d (I 10) λd=>Sx X Q b a c d))))
def AG3:D2 false 105 AQE:=d2 func105 41 λX Q=>(Fz (Fz (Fz (wA (J2 (dP X Q) 1 5) (Fz (wA (J0 (oj X Q)) Fx) (Fz (GU (wL (λm=>J4 (Xq X Q m) 1 30 31 32) λa=>Fx)) Fx))) (Fz (GU (Fz (I5 Fx (Fz (I5 Fx (Fz (wA (J4 (Sx X Q) 1 2 5 21) Fx) Fx)) Fx)) Fx)) Fx)) Fx) Fx)
def ACq(X:Mode)(Q:F1):F0:=s2 (I 0) (I 0) Q
def om(X:Mode)(Q:F1)(a:F3):F3:=λb c d=>Jw d (I 1) λd=>a b c d
def oq(a:F3)(b:F7):F7:=λc d g h i j k=>HU k j λl=>cN l (Gi k λl=>oQ (HF BZ 55 d l false) λo=>LD o (I 0) λo=>cN o (JV 0 c λo=>Jo 1 o l λl=>H4 l λl=>Gi l λl=>s2 l (I 29) Q) (Jw k (I 1) λk=>b c d g h i j k)) (om X Q a g h i)
def dR(a:F3):Nat->F7
 |0=>N7
 |m+1=>oq X Q a (dR a m)
def oo(a:F3):F3:=λb c d=>HU d c λg=>cN g (Jo 6 b d λg=>Gd 6 g λg=>Kh zS λh=>GZ 6 g h λ_=>Gd 6 h λg=>oG X 28 [g] λg=>Gi g λg=>oG X 29 [g] λh=>Gi h λh=>JV 0 g λi=>G8 i λi=>e7 (dR X Q a) g h b c d i (I 0)) (ACq X Q)
def Wj:Nat->F3
 |0=>N3
 |m+1=>oo X Q (Wj m)
def g14:F1:=λa=>LK a λa=>Hr 0 a λa=>G8 a λb=>e3 (Wj X Q) a b (I 0)
def ALk:D1 false 14 g14:=d1 func14 41 λX Q=>(Fz (Fz (wA (J0 (ACq X Q)) Fx) (Fz (GU (wL (λm=>J3 (Wj X Q m) 10 11 12) λa=>(Fz (Fz (Fz (wA (J3 (om X Q (Wj X Q a)) 10 11 12) Fx) (GU (Fz (Fz (Fz (Fz (GU (wL (λm=>J7 (dR X Q (Wj X Q a) m) 6 7 10 11 12 24 25) λa=>Fx)) Fx) Fx) Fx) Fx))) Fx) Fx))) Fx)) Fx)
end
end
section
open Go.Proofs Go.Proofs.Tryz
section
variable(X:Mode) (Q:F1)
def g30:F1:=λa=>LK a λa=>IX [.nil,.nil,.nil] [] λb=>LK b λb=>Gi b λb=>IX [.nil,.nil] [] λc=>Gd 6 a λd=>oG X 40 [d,.nil] λd=>oG X 48 [b,c,d] λc=>Kh [.nil,.nil] λd=>GZ 2 c d λ_=>Gd 2 d λc=>Hr 3 a λg=>oG X 49 [b,c,g] λc=>Hr 4 a λa=>Gd 2 d λc=>oG X 50 [b,a,c,.nil] λa=>Gi b λa=>s1 a Q
def ALo:D1 false 30 g30:=d1 func30 23 λX Q=>Fx
def u5(X:Mode)(Q:F1):F0:=s1 bF Q
def aq(a:F4):F4:=λb c d g=>G8 g λh=>Pa h (I 0) λh=>cN h (G8 g λh=>bg h (I 1) λh=>Jo 1 g h λh=>H4 h λh=>Gi h λh=>G8 g λi=>bg i (I 1) λi=>AEL 1 false true g [i] λg=>Gi g λg=>JR h c λi=>cN i (s1 bT Q) (Jo 1 d h λi=>H4 i λi=>T2 .not i λi=>cN i (Jo 1 d h λi=>GZ 1 bT i λ_=>JV 2 b λi=>Jo 1 i h λh=>H4 h λh=>sM 1 8 g h λh=>Gi h λh=>a b c d h) (a b c d g))) (u5 X Q)
def Wl:Nat->F4
 |0=>N4
 |m+1=>aq X Q (Wl m)
def g31:F2:=λa b=>JV 0 a λc=>G8 c λc=>ASD 1 1 [bF] c c λc=>Gi c λc=>JV 2 a λd=>Jo 1 d b λd=>H4 d λd=>sM 1 8 .nil d λd=>Gi d λd=>e4 (Wl X Q) a b c d
def ALp:D2 true 31 g31:=d2 func31 56 λX Q=>(Fz (Fz (Fz (Fz (wA (J0 (u5 X Q)) Fx) (GU (wL (λm=>J4 (Wl X Q m) 0 1 5 6) λa=>Fx))) Fx) Fx) Fx)
def ja(X:Mode)(Q:F1):F2:=λa b=>Gd 2 b λb=>GZ 2 b a λ_=>sF (λs=>[IJ (GM 2 a) s]) Q
def gF(a:F5):F5:=λb c d g h=>G8 c λi=>HU h i λi=>cN i (dS (K8 0 g λi=>dV (dV (MF 5 c h λj=>K8 0 j λj=>VY 1 [j] λj=>OS 1 16 i j λi=>ai 0 g λj=>KC 1 i j λ_=>dE [0,1,0,0,12,28,60,124,255,511,1023] (dS (K8 1 g λi=>dV (NF b λj=>K8 0 j λj=>AI8 j λj=>VY 1 [j] λj=>OS 1 8 i j λi=>ai 1 g λj=>KC 1 i j λ_=>dE [0,1,0,4,12,28,60,124,255,511,1023] (dS (dV (dV (NF b λi=>K8 0 i λi=>dV (dV (MF 5 c h λj=>K8 0 j λj=>VY 1 [j] λj=>OS 1 16 i j λi=>NF b λj=>ai 0 j λj=>KC 1 i j λ_=>dE [0,0,2,6,14,0,0,96,224,480,992,2046,4095,8191,16383] (dS (dV (dV (NF b λi=>K8 1 i λi=>dV (dV (MF 5 c h λj=>K8 4 j λj=>VY 1 [j] λj=>OS 1 8 i j λi=>NF b λj=>ai 1 j λj=>KC 1 i j λ_=>dE [0,0,2,6,14,0,0,96,224,480,992,2046,4095,8191,16383] (JV 2 b λi=>AEF 1 [.nil] λj=>sM 1 24 i j λi=>O2 b λj=>Mg 2 1 i j λ_=>HG h (I 1) λh=>a b c d g h)))))))))))))))))))) (ja X Q d g)
def dX:Nat->F5
 |0=>N5
 |m+1=>gF X Q (dX m)
def g48:F3:=λa b c=>LK b λb=>Kh [.nil,.nil] λd=>dS (K8 0 b λg=>OS 1 16 .nil g λg=>K8 1 b λb=>OS 1 8 .nil b λb=>dJ [.nil,.nil] [(some (0,1),g),(some (1,1),b)] λb=>dBx [.nil,.nil] λg=>KC 2 b g λ_=>dE [0,1,3,0,8,31,63,0,255] (e5 (dX X Q) a c d g (I 0)))
def ALu:D3 false 48 g48:=d3 func48 80 λX Q=>(Fz (Fz (Fz (wA (J2 (ja X Q) 6 7) Fx) (Fz (GU (wL (λm=>J5 (dX X Q m) 0 2 6 7 8) λa=>Fx)) Fx)) Fx) Fx)
def jb(X:Mode)(Q:F1)(a:F4):F4:=λb c d g=>HG g (I 1) λg=>a b c d g
def o8(a:F4)(b:F5):F5:=λc d g h i=>Jo 5 d h λj=>Hr 3 j λj=>G8 j λj=>HU i j λj=>cN j (dS (dV (I3 2 g λj=>dV (dV (MF 5 d h λk=>K8 0 k λk=>dG X 81 [j,k] λj=>I3 2 g λk=>dV (dV (MF 5 d h λl=>K8 3 l λl=>dV (MF 2 l i λl=>K8 0 l λl=>VY 1 [l] λl=>dG X 80 [c,j,k,l] λj=>dE [0,0,0,0,12,28,60,126,0,0,0,1536,3584,7680,0,32256,65024,130560,261632,524287] (HG i (I 1) λi=>b c d g h i))))))))) (jb X Q a c d g h)
def dY(a:F4):Nat->F5
 |0=>N5
 |m+1=>o8 X Q a (dY a m)
def u9(a:F4):F4:=λb c d g=>G8 c λh=>HU g h λh=>cN h (e5 (dY X Q a) b c d g (I 0)) (s0 Q)
def ej:Nat->F4
 |0=>N4
 |m+1=>u9 X Q (ej m)
def g49:F3:=λa b c=>LK b λb=>e4 (ej X Q) a c b (I 0)
def ALv:D3 false 49 g49:=d3 func49 44 λX Q=>(Fz (Fz (GU (wL (λm=>J4 (ej X Q m) 0 2 4 6) λa=>(Fz (Fz (wA (J4 (jb X Q (ej X Q a)) 0 2 4 6) Fx) (GU (Fz (GU (wL (λm=>J5 (dY X Q (ej X Q a) m) 0 2 4 6 7) λa=>Fx)) Fx))) Fx))) Fx) Fx)
def dZ(X:Mode)(Q:F1)(a:F5):F5:=λb c d g h=>HG h (I 1) λh=>a b c d g h
def gG(a:F5)(b:F8):F8:=λc d g h i j k l=>Hr 10 j λo=>G8 o λo=>HU l o λo=>cN o (Hr 10 j λo=>Jo 6 o l λo=>Gd 6 o λo=>Kh zS λp=>GZ 6 o p λ_=>Gd 2 h λo=>Hr 3 p λq=>oG X 48 [c,o,q] λo=>Kh [.nil,.nil] λq=>GZ 2 o q λ_=>Gd 2 q λo=>Hr 3 p λr=>oG X 49 [c,o,r] λo=>Hr 4 p λo=>Gd 2 q λp=>oG X 50 [c,o,p,k] λo=>HG l (I 1) λl=>b c d g h i j k l) (dZ X Q a c d g h i)
def dc(a:F5):Nat->F8
 |0=>N8
 |m+1=>gG X Q a (dc a m)
def db(a:F5):F7:=λb c d g h i j=>e8 (dc X Q a) b c d g h i j (I 0)
def bC(X:Mode)(Q:F1)(a:F5)(a:F8):F8:=λb c d g h i j k=>HG k (I 1) λk=>a b c d g h i j k
def bD(X:Mode)(Q:F1)(a:F5)(a:F8)(a:F9):F9:=λb c d g h i j k l=>HG l (I 1) λl=>a b c d g h i j k l
def je(a:F5)(b:F8)(c:F9)(d:wy):wy:=λg h i j k l o p q r t=>G8 r λu=>HU t u λu=>cN u (dS (dV (I3 2 j λu=>dV (dV (MF 1 r t λv=>IS v λv=>dG X 81 [u,v] λu=>VY 1 [u] λu=>OS 1 8 o u λu=>PN u λu=>dE [0,0,0,0,12,28,62,126,255,511] (HG t (I 1) λt=>d g h i j k l u p q r t)))))) (bD X Q a b c g h i j k l o p q)
def Xt(a:F5)(b:F8)(c:F9):Nat->wy
 |0=>N11
 |m+1=>je X Q a b c (Xt a b c m)
def jd(a:F5)(b:F8)(c:F9):F9:=λd g h i j k l o p=>Hr 10 k λq=>Jo 6 q o λq=>Hr 1 q λq=>G8 q λq=>HU p q λq=>cN q (Hr 10 k λq=>Jo 6 q o λq=>Hr 1 q λq=>Jo 12 q p λq=>bf 0 q λq=>Gd 9 q λq=>oG X 82 [q] λq=>Gi q λq=>e11 (Xt X Q a b c) d g h i j k l o p q (I 0)) (bC X Q a b d g h i j k l o)
def Sz(a:F5)(b:F8):Nat->F9
 |0=>N9
 |m+1=>jd X Q a b (Sz a b m)
def jc(a:F5)(b:F8):F8:=λc d g h i j k l=>Hr 10 j λo=>G8 o λo=>HU l o λo=>cN o (e9 (Sz X Q a b) c d g h i j k l (I 0)) (db X Q a c d g h i j k)
def Oe(a:F5):Nat->F8
 |0=>N8
 |m+1=>jc X Q a (Oe a m)
def da(a:F5):F6:=λb c d g h i=>PZ 1 8 .nil d λj=>Gi j λj=>e8 (Oe X Q a) b c d g h i j (I 0)
def Wn(a:F5)(b:F8):F8:=λc d g h i j k l=>Hr 0 j λo=>G8 o λo=>HU l o λo=>H7 o (Ho 10 j) λp=>H7 o (GJ p) λp=>H7 o (Gq p) λp=>H7 o (IN p (I 0)) λp=>G5 o p bF λo=>cN o (dS (I3 2 h λo=>K8 0 j λp=>dV (MF 1 p l λp=>IS p λp=>dG X 81 [o,p] λo=>PN o λo=>dE [0,0,2,0,14,30,63,127] (Gd 2 h λp=>oG X 80 [c,o,p,k] λp=>dS (dV (NF c λp=>K8 2 p λp=>dV (dV (NF c λq=>K8 2 q λq=>dV (MF 1 q o λq=>IS q λq=>dV (OS 1 8 q g λq=>MF 1 p o λo=>KC 1 q o λ_=>dE [0,1,3,7,0,0,32,96,224,0,992,2016,0,8160,16383,32767] (HG l (I 1) λl=>b c d g h i j k l))))))))))) (da X Q a c d g h i j)
def Uk(a:F5):Nat->F8
 |0=>N8
 |m+1=>Wn X Q a (Uk a m)
def vA(a:F5):F5:=λb c d g h=>G8 c λi=>HU h i λi=>cN i (Jo 12 c h λi=>Gd 12 i λi=>Kh zI λj=>GZ 12 i j λ_=>bf 1 j λi=>Gd 9 i λi=>oG X 82 [i] λi=>Gi i λi=>e8 (Uk X Q a) b c d g h j i (I 0)) (s0 Q)
def M3:Nat->F5
 |0=>N5
 |m+1=>vA X Q (M3 m)
def g50:F4:=λa b c d=>LK c λc=>e5 (M3 X Q) a b d c (I 0)
def ALw:D4 false 50 g50:=d4 func50 148 λX Q=>(Fz (Fz (GU (wL (λm=>J5 (M3 X Q m) 0 1 3 6 8) λa=>(Fz (Fz (wA (J5 (dZ X Q (M3 X Q a)) 0 1 3 6 8) Fx) (GU (Fz (Fz (Fz (wA (J6 (da X Q (M3 X Q a)) 0 1 3 6 8 9) (Fz (Fz (wA (J7 (db X Q (M3 X Q a)) 0 1 3 6 8 9 13) (Fz (GU (wL (λm=>J8 (dc X Q (M3 X Q a) m) 0 1 3 6 8 9 13 18) λb=>Fx)) Fx)) (Fz (GU (wL (λm=>J8 (Oe X Q (M3 X Q a) m) 0 1 3 6 8 9 13 14) λb=>(Fz (Fz (wA (J8 (bC X Q (M3 X Q a) (Oe X Q (M3 X Q a) b)) 0 1 3 6 8 9 13 14) Fx) (GU (Fz (GU (wL (λm=>J9 (Sz X Q (M3 X Q a) (Oe X Q (M3 X Q a) b) m) 0 1 3 6 8 9 13 14 15) λc=>(Fz (Fz (wA (J9 (bD X Q (M3 X Q a) (Oe X Q (M3 X Q a) b) (Sz X Q (M3 X Q a) (Oe X Q (M3 X Q a) b) c)) 0 1 3 6 8 9 13 14 15) Fx) (GU (Fz (Fz (GU (wL (λm=>J11 (Xt X Q (M3 X Q a) (Oe X Q (M3 X Q a) b) (Sz X Q (M3 X Q a) (Oe X Q (M3 X Q a) b) c) m) 0 1 3 6 8 9 13 14 15 16 17) λb=>Fx)) Fx) Fx))) Fx))) Fx))) Fx))) Fx)) Fx)) (Fz (GU (wL (λm=>J8 (Uk X Q (M3 X Q a) m) 0 1 3 6 8 9 10 11) λa=>Fx)) Fx)) Fx) Fx))) Fx))) Fx) Fx)
def vB(a:F5):F5:=λb c d g h=>G8 d λi=>HU h i λi=>cN i (dS (dV (NF b λi=>K8 2 i λi=>dV (dV (NF b λj=>K8 2 j λj=>dV (MF 1 j c λj=>IS j λj=>I3 2 g λk=>dV (dV (MF 1 d h λl=>IS l λl=>dG X 81 [k,l] λk=>VY 1 [k] λk=>OS 1 8 j k λj=>MF 1 i c λi=>KC 1 j i λ_=>dE [0,1,3,7,0,0,32,96,224,0,992,2016,0,0,0,24576,57344,126976,258048,524256,1048575,2097151] (HG h (I 1) λh=>a b c d g h))))))))) (s0 Q)
def mZ:Nat->F5
 |0=>N5
 |m+1=>vB X Q (mZ m)
def g80:F4:=λa b c d=>LK c λc=>e5 (mZ X Q) a b d c (I 0)
def AL1:D4 false 80 g80:=d4 func80 36 λX Q=>(Fz (Fz (GU (wL (λm=>J5 (mZ X Q m) 0 1 3 6 8) λa=>Fx)) Fx) Fx)
def ACr(X:Mode)(Q:F1):F0:=s2 (I 0) (I 0) Q
def ot(X:Mode)(Q:F1)(a:F2):F2:=λb c=>HG c (I 1) λc=>a b c
def ou(a:F2)(b:F4):F4:=λc d g h=>JV 0 g λi=>G8 i λi=>HU h i λi=>cN i (oG X 31 [g,h] λi=>Gi i λi=>cN i (JV 1 g λi=>Jo 1 i h λi=>H4 i λi=>Gi i λi=>s2 i (I 29) Q) (HG h (I 1) λh=>b c d g h)) (ot X Q a c d)
def dT(a:F2):Nat->F4
 |0=>N4
 |m+1=>ou X Q a (dT a m)
def u3(a:F2):F2:=λb c=>Hr 0 b λd=>G8 d λd=>HU c d λd=>cN d (Hr 0 b λd=>Jo 6 d c λd=>Gd 6 d λd=>oG X 30 [d] λd=>Gi d λd=>Hr 0 b λg=>Jo 6 g c λg=>Hr 1 g λg=>G8 g λg=>Gi g λg=>e4 (dT X Q a) b c d g) (ACr X Q)
def eh:Nat->F2
 |0=>N2
 |m+1=>u3 X Q (eh m)
def g15:F1:=λa=>LK a λa=>e2 (eh X Q) a (I 0)
def ALl:D1 false 15 g15:=d1 func15 48 λX Q=>(Fz (Fz (wA (J0 (ACr X Q)) Fx) (Fz (GU (wL (λm=>J2 (eh X Q m) 1 4) λa=>(Fz (Fz (wA (J2 (ot X Q (eh X Q a)) 1 4) Fx) (GU (Fz (Fz (GU (wL (λm=>J4 (dT X Q (eh X Q a) m) 1 4 5 6) λa=>Fx)) Fx) Fx))) Fx))) Fx)) Fx)
def g3:F1:=λa=>oG X 12 [] λb=>Gi b λb=>oG X 13 [a] λc=>TT 0 c λd=>TT 1 c λc=>Kh [.nil] λg=>GZ 1 d g λ_=>Gi c λc=>T2 .not b λd=>SN d c λc=>Iq d (JI .not c) λc=>G5 d bT c λc=>cN c (Gi b λb=>s1 b Q) (Gd 1 g λb=>oG X 14 [b] λb=>TT 0 b λc=>TT 1 b λb=>Gi c λc=>Gi b λb=>Gd 1 g λd=>oG X 15 [d] λd=>TT 0 d λh=>TT 1 d λd=>Gi h λh=>Gi d λd=>oG X 13 [a] λa=>TT 0 a λi=>TT 1 a λa=>Kh [.nil] λj=>GZ 1 i j λ_=>Gi a λa=>oG X 16 [b] λa=>JR a d λa=>Lh a c λb=>Lh a h λc=>H7 a (IN b c) λb=>G5 a b bF λa=>H7 a (GM 1 g) λb=>H7 a (GM 1 j) λc=>hGT a X 17 [b,c,bT] λb=>G5 a b bF λa=>Gi a λa=>s1 a Q)
def AQF:D1 false 3 g3:=d1 func3 54 λX Q=>Fx
end
end
end Go.Vi
