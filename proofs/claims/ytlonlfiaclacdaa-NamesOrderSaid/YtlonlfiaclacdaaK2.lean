/-
  Functions of the program, written out for the kernel by a program of this repo (Gen.lean), each proved to be what the evaluator computes.
-/
import Derived.Test.YtlonlfiaclacdaaK1
open Go.Ab
set_option linter.unusedVariables false
set_option maxRecDepth 100000
namespace Go.Proofs.YtlonlfiaclacdaaK

noncomputable def c86k34 (e : Ev) (v18 v4 v0 : AV) (s19 : St) : R AV :=
  kAlloc [(.int .i64 (.ofNat (nat_lit 0))), (.int .i64 (.ofNat (nat_lit 0))), (.str (nat_lit 0) (nat_lit 0)), (.int .i64 (.ofNat (nat_lit 0))), (.int .i64 (.ofNat (nat_lit 0))), (.int .i64 (.ofNat (nat_lit 0))), (.int .i64 (.ofNat (nat_lit 0))), .nilslice, (.int .i64 (.ofNat (nat_lit 0)))] (fun v20 s21 => kStore (nat_lit 9) v20 v18 (fun v22 s23 => kLoadN (nat_lit 9) v4 (fun v24 s25 => kLoadN (nat_lit 9) v20 (fun v26 s27 => kBind (e (.call (nat_lit 85) [(.int .i64 (.ofNat (nat_lit 4))), (.int .i64 (.ofNat (nat_lit 11))), v24, v26])) (fun v28 s29 => kStore (nat_lit 9) v0 v28 (fun v30 s31 => kLoadN (nat_lit 9) v0 (fun v32 s33 => .ok v32 s33) s31) s29) s27) s25) s23) s21) s19

noncomputable def c86k35 (e : Ev) (v2 a0 v0 : AV) (s3 : St) : R AV :=
  kAlloc [(.int .i64 (.ofNat (nat_lit 0))), (.int .i64 (.ofNat (nat_lit 0))), (.str (nat_lit 0) (nat_lit 0)), (.int .i64 (.ofNat (nat_lit 0))), (.int .i64 (.ofNat (nat_lit 0))), (.int .i64 (.ofNat (nat_lit 0))), (.int .i64 (.ofNat (nat_lit 0))), .nilslice, (.int .i64 (.ofNat (nat_lit 0)))] (fun v4 s5 => kStore (nat_lit 9) v4 v2 (fun v6 s7 => kBind (e (.call (nat_lit 54) [a0, (.str (nat_lit 2) (nat_lit 15933))])) (fun v8 s9 => kNot v8 (fun v10 s11 => kIf v10 (kLoadN (nat_lit 9) v4 (fun v12 s13 => kStore (nat_lit 9) v0 v12 (fun v14 s15 => kLoadN (nat_lit 9) v0 (fun v16 s17 => .ok v16 s17) s15) s13) s11) (kBind (e (.call (nat_lit 86) [a0])) (fun v18 s19 => c86k34 e v18 v4 v0 s19) s11)) s9) s7) s5) s3

noncomputable def c86 (e : Ev) (a0 : AV) (s9999 : St) : R AV :=
  kAlloc [(.int .i64 (.ofNat (nat_lit 0))), (.int .i64 (.ofNat (nat_lit 0))), (.str (nat_lit 0) (nat_lit 0)), (.int .i64 (.ofNat (nat_lit 0))), (.int .i64 (.ofNat (nat_lit 0))), (.int .i64 (.ofNat (nat_lit 0))), (.int .i64 (.ofNat (nat_lit 0))), .nilslice, (.int .i64 (.ofNat (nat_lit 0)))] (fun v0 s1 => kBind (e (.call (nat_lit 87) [a0, (.int .i64 (.ofNat (nat_lit 0)))])) (fun v2 s3 => c86k35 e v2 a0 v0 s3) s1) s9999

theorem c86_ok (ev : Task → M AV) (a0 : AV) (s : St) : (stepN Try.prog ev (.call 86 [a0])).run s = c86 (runs ev) a0 s :=
  (call_is Try.prog (nt := (nat_lit 18)) Try.func86 rfl (by kernel_rfl) [a0] (by kernel_rfl) w_any s).trans (by kernel_rfl)

noncomputable def c87j18 (e : Ev) (v19 v20 : AV) (s21 : St) : R AV :=
  kLoadN (nat_lit 9) v20 (fun v22 s23 => kStore (nat_lit 9) v19 v22 (fun v24 s25 => kLoadN (nat_lit 9) v19 (fun v26 s27 => .ok v26 s27) s25) s23) s21

noncomputable def c87k80 (e : Ev) (w29 : AV → AV → AV → AV → St → R AV) (v64 v34 v44 v32 v33 v31 : AV) (s65 : St) : R AV :=
  kAlloc [(.int .i64 (.ofNat (nat_lit 0))), (.int .i64 (.ofNat (nat_lit 0))), (.str (nat_lit 0) (nat_lit 0)), (.int .i64 (.ofNat (nat_lit 0))), (.int .i64 (.ofNat (nat_lit 0))), (.int .i64 (.ofNat (nat_lit 0))), (.int .i64 (.ofNat (nat_lit 0))), .nilslice, (.int .i64 (.ofNat (nat_lit 0)))] (fun v66 s67 => kStore (nat_lit 9) v66 v64 (fun v68 s69 => kLoadN (nat_lit 9) v34 (fun v70 s71 => kLoadN (nat_lit 9) v66 (fun v72 s73 => kBind (e (.call (nat_lit 85) [(.int .i64 (.ofNat (nat_lit 4))), v44, v70, v72])) (fun v74 s75 => kStore (nat_lit 9) v34 v74 (fun v76 s77 => kEql Try.prog (nat_lit 3) v32 (.int .i64 (.ofNat (nat_lit 2))) (fun v78 s79 => kIf v78 (c87j18 e v33 v34 s79) (w29 v31 v32 v33 v34 s79)) s77) s75) s73) s71) s69) s67) s65

noncomputable def c87k81 (e : Ev) (w29 : AV → AV → AV → AV → St → R AV) (v48 v31 v32 v34 v44 v33 : AV) (s49 : St) : R AV :=
  kFA (nat_lit 1) v48 (fun v50 s51 => kLoad1 v50 (fun v52 s53 => kAdd Try.prog (nat_lit 3) v52 (.int .i64 (.ofNat (nat_lit 1))) (fun v54 s55 => kNilCheck v31 (fun v56 s57 => kFA (nat_lit 1) v56 (fun v58 s59 => kStore (nat_lit 1) v58 v54 (fun v60 s61 => kAdd Try.prog (nat_lit 3) v32 (.int .i64 (.ofNat (nat_lit 1))) (fun v62 s63 => kBind (e (.call (nat_lit 87) [v31, v62])) (fun v64 s65 => c87k80 e w29 v64 v34 v44 v32 v33 v31 s65) s63) s61) s59) s57) s55) s53) s51) s49

noncomputable def c87l28b (e : Ev) (w29 : AV → AV → AV → AV → St → R AV) (v31 v32 v33 v34 : AV) (s35 : St) : R AV :=
  kNilCheck v31 (fun v36 s37 => kFA (nat_lit 2) v36 (fun v38 s39 => kLoad1 v38 (fun v40 s41 => kEql Try.prog (nat_lit 3) v40 (.int .i64 (.ofNat (nat_lit 0))) (fun v42 s43 => kIf v42 (kBind (e (.call (nat_lit 89) [v31, v32])) (fun v44 s45 => kEql Try.prog (nat_lit 3) v44 (.int .i64 (.ofNat (nat_lit 0))) (fun v46 s47 => kIf v46 (c87j18 e v33 v34 s47) (kNilCheck v31 (fun v48 s49 => c87k81 e w29 v48 v31 v32 v34 v44 v33 s49) s47)) s45) s43) (c87j18 e v33 v34 s43)) s41) s39) s37) s35

noncomputable def c87l28 (e : Ev) (n : Nat) : AV → AV → AV → AV → St → R AV :=
  @Nat.rec (fun _ => AV → AV → AV → AV → St → R AV) (fun _ _ _ _ _ => .fail) (fun _ w => c87l28b e w) n

noncomputable def c87k82 (e : Ev) (a0 v10 a1 v0 : AV) (s11 : St) : R AV :=
  kBind (e (.call (nat_lit 87) [a0, v10])) (fun v12 s13 => kAlloc [(.int .i64 (.ofNat (nat_lit 0))), (.int .i64 (.ofNat (nat_lit 0))), (.str (nat_lit 0) (nat_lit 0)), (.int .i64 (.ofNat (nat_lit 0))), (.int .i64 (.ofNat (nat_lit 0))), (.int .i64 (.ofNat (nat_lit 0))), (.int .i64 (.ofNat (nat_lit 0))), .nilslice, (.int .i64 (.ofNat (nat_lit 0)))] (fun v14 s15 => kStore (nat_lit 9) v14 v12 (fun v16 s17 => c87l28 e fuelN a0 a1 v0 v14 s17) s15) s13) s11

noncomputable def c87 (e : Ev) (a0 a1 : AV) (s9999 : St) : R AV :=
  kAlloc [(.int .i64 (.ofNat (nat_lit 0))), (.int .i64 (.ofNat (nat_lit 0))), (.str (nat_lit 0) (nat_lit 0)), (.int .i64 (.ofNat (nat_lit 0))), (.int .i64 (.ofNat (nat_lit 0))), (.int .i64 (.ofNat (nat_lit 0))), (.int .i64 (.ofNat (nat_lit 0))), .nilslice, (.int .i64 (.ofNat (nat_lit 0)))] (fun v0 s1 => kEql Try.prog (nat_lit 3) a1 (.int .i64 (.ofNat (nat_lit 8))) (fun v2 s3 => kIf v2 (kBind (e (.call (nat_lit 88) [a0])) (fun v4 s5 => kStore (nat_lit 9) v0 v4 (fun v6 s7 => kLoadN (nat_lit 9) v0 (fun v8 s9 => .ok v8 s9) s7) s5) s3) (kAdd Try.prog (nat_lit 3) a1 (.int .i64 (.ofNat (nat_lit 1))) (fun v10 s11 => c87k82 e a0 v10 a1 v0 s11) s3)) s1) s9999

theorem c87_ok (ev : Task → M AV) (a0 a1 : AV) (s : St) : (stepN Try.prog ev (.call 87 [a0, a1])).run s = c87 (runs ev) a0 a1 s :=
  (call_is Try.prog (nt := (nat_lit 44)) Try.func87 rfl (by kernel_rfl) [a0, a1] (by kernel_rfl) (w_seq (w_seq (w_seq (w_seq (w_as (fun f s => c87j18 (runs ev) (f 4) (f 5) s) w_any (fun _ _ => by kernel_rfl)) (w_block (w_loop (fun n f s => c87l28 (runs ev) n (f 0) (f 1) (f 4) (f 5) s) (fun _ _ => by kernel_rfl) (fun n30 => w_as _ w_any (fun _ _ => by kernel_rfl))))) w_any) w_any) w_any) s).trans (by kernel_rfl)

noncomputable def c88k64 (e : Ev) (a0 v40 v0 : AV) (s43 : St) : R AV :=
  kNilCheck a0 (fun v44 s45 => kFA (nat_lit 4) v44 (fun v46 s47 => kLoad1 v46 (fun v48 s49 => kSub Try.prog (nat_lit 3) v48 (.int .i64 (.ofNat (nat_lit 1))) (fun v50 s51 => kNilCheck a0 (fun v52 s53 => kFA (nat_lit 4) v52 (fun v54 s55 => kStore (nat_lit 1) v54 v50 (fun v56 s57 => kLoadN (nat_lit 9) v40 (fun v58 s59 => kStore (nat_lit 9) v0 v58 (fun v60 s61 => kLoadN (nat_lit 9) v0 (fun v62 s63 => .ok v62 s63) s61) s59) s57) s55) s53) s51) s49) s47) s45) s43

noncomputable def c88k65 (e : Ev) (v30 v0 a0 : AV) (s31 : St) : R AV :=
  kIf v30 (kBuild [(.int .i64 (.ofNat (nat_lit 0))), (.int .i64 (.ofNat (nat_lit 0))), (.str (nat_lit 0) (nat_lit 0)), (.int .i64 (.ofNat (nat_lit 0))), (.int .i64 (.ofNat (nat_lit 0))), (.int .i64 (.ofNat (nat_lit 0))), (.int .i64 (.ofNat (nat_lit 0))), .nilslice, (.int .i64 (.ofNat (nat_lit 0)))] [] (fun v32 s33 => kStore (nat_lit 9) v0 v32 (fun v34 s35 => kLoadN (nat_lit 9) v0 (fun v36 s37 => .ok v36 s37) s35) s33) s31) (kBind (e (.call (nat_lit 90) [a0])) (fun v38 s39 => kAlloc [(.int .i64 (.ofNat (nat_lit 0))), (.int .i64 (.ofNat (nat_lit 0))), (.str (nat_lit 0) (nat_lit 0)), (.int .i64 (.ofNat (nat_lit 0))), (.int .i64 (.ofNat (nat_lit 0))), (.int .i64 (.ofNat (nat_lit 0))), (.int .i64 (.ofNat (nat_lit 0))), .nilslice, (.int .i64 (.ofNat (nat_lit 0)))] (fun v40 s41 => kStore (nat_lit 9) v40 v38 (fun v42 s43 => c88k64 e a0 v40 v0 s43) s41) s39) s31)

noncomputable def c88k66 (e : Ev) (v8 v12 v6 a0 v0 : AV) (s13 : St) : R AV :=
  kPick v8 v12 (.bool false) (fun v14 s15 => kIf1 v14 (fun k s => kMv v6 k s) (fun v16 s17 => kIf1 v14 (fun k s => kNot v16 k s) (fun v18 s19 => kPick v14 v18 (.bool false) (fun v20 s21 => kIf v20 (kBind (e (.call (nat_lit 90) [a0])) (fun v22 s23 => kStore (nat_lit 9) v0 v22 (fun v24 s25 => kLoadN (nat_lit 9) v0 (fun v26 s27 => .ok v26 s27) s25) s23) s21) (kBind (e (.call (nat_lit 82) [a0])) (fun v28 s29 => kNot v28 (fun v30 s31 => c88k65 e v30 v0 a0 s31) s29) s21)) s19) s17) s15) s13

noncomputable def c88 (e : Ev) (a0 : AV) (s9999 : St) : R AV :=
  kAlloc [(.int .i64 (.ofNat (nat_lit 0))), (.int .i64 (.ofNat (nat_lit 0))), (.str (nat_lit 0) (nat_lit 0)), (.int .i64 (.ofNat (nat_lit 0))), (.int .i64 (.ofNat (nat_lit 0))), (.int .i64 (.ofNat (nat_lit 0))), (.int .i64 (.ofNat (nat_lit 0))), .nilslice, (.int .i64 (.ofNat (nat_lit 0)))] (fun v0 s1 => kBind (e (.call (nat_lit 38) [a0, (.str (nat_lit 3) (nat_lit 7630702))])) (fun v2 s3 => kBind (e (.call (nat_lit 38) [a0, (.str (nat_lit 1) (nat_lit 45))])) (fun v4 s5 => kBind (e (.call (nat_lit 38) [a0, (.str (nat_lit 3) (nat_lit 6648432))])) (fun v6 s7 => kNot v2 (fun v8 s9 => kIf1 v8 (fun k s => kMv v4 k s) (fun v10 s11 => kIf1 v8 (fun k s => kNot v10 k s) (fun v12 s13 => c88k66 e v8 v12 v6 a0 v0 s13) s11) s9) s7) s5) s3) s1) s9999

theorem c88_ok (ev : Task → M AV) (a0 : AV) (s : St) : (stepN Try.prog ev (.call 88 [a0])).run s = c88 (runs ev) a0 s :=
  (call_is Try.prog (nt := (nat_lit 41)) Try.func88 rfl (by kernel_rfl) [a0] (by kernel_rfl) w_any s).trans (by kernel_rfl)

noncomputable def c89j32 (e : Ev) (s33 : St) : R AV :=
  .ok (.int .i64 (.ofNat (nat_lit 0))) s33

noncomputable def c89k70 (e : Ev) (v62 v56 : AV) (s63 : St) : R AV :=
  kIf v62 (.ok (.int .i64 (.ofNat (nat_lit 16))) s63) (kEql Try.prog (nat_lit 9) v56 (.str (nat_lit 2) (nat_lit 15676)) (fun v64 s65 => kIf v64 (.ok (.int .i64 (.ofNat (nat_lit 17))) s65) (kEql Try.prog (nat_lit 9) v56 (.str (nat_lit 1) (nat_lit 62)) (fun v66 s67 => kIf v66 (.ok (.int .i64 (.ofNat (nat_lit 18))) s67) (kEql Try.prog (nat_lit 9) v56 (.str (nat_lit 2) (nat_lit 15678)) (fun v68 s69 => kIf v68 (.ok (.int .i64 (.ofNat (nat_lit 19))) s69) (c89j32 e s69)) s67)) s65)) s63)

noncomputable def c89k121 (e : Ev) (v111 : AV) (s112 : St) : R AV :=
  kLoad1 v111 (fun v113 s114 => kEql Try.prog (nat_lit 9) v113 (.str (nat_lit 1) (nat_lit 42)) (fun v115 s116 => kIf v115 (.ok (.int .i64 (.ofNat (nat_lit 5))) s116) (kEql Try.prog (nat_lit 9) v113 (.str (nat_lit 1) (nat_lit 47)) (fun v117 s118 => kIf v117 (.ok (.int .i64 (.ofNat (nat_lit 6))) s118) (kEql Try.prog (nat_lit 9) v113 (.str (nat_lit 3) (nat_lit 6582125)) (fun v119 s120 => kIf v119 (.ok (.int .i64 (.ofNat (nat_lit 7))) s120) (c89j32 e s120)) s118)) s116)) s114) s112

noncomputable def c89k122 (e : Ev) (v99 v2 a1 : AV) (s100 : St) : R AV :=
  kIf v99 (kFA (nat_lit 1) v2 (fun v101 s102 => kLoad1 v101 (fun v103 s104 => kEql Try.prog (nat_lit 9) v103 (.str (nat_lit 1) (nat_lit 43)) (fun v105 s106 => kIf v105 (.ok (.int .i64 (.ofNat (nat_lit 3))) s106) (kEql Try.prog (nat_lit 9) v103 (.str (nat_lit 1) (nat_lit 45)) (fun v107 s108 => kIf v107 (.ok (.int .i64 (.ofNat (nat_lit 4))) s108) (c89j32 e s108)) s106)) s104) s102) s100) (kEql Try.prog (nat_lit 3) a1 (.int .i64 (.ofNat (nat_lit 7))) (fun v109 s110 => kIf v109 (kFA (nat_lit 1) v2 (fun v111 s112 => c89k121 e v111 s112) s110) (c89j32 e s110)) s100)

noncomputable def c89k123 (e : Ev) (v89 v2 a1 : AV) (s90 : St) : R AV :=
  kIf v89 (kFA (nat_lit 1) v2 (fun v91 s92 => kLoad1 v91 (fun v93 s94 => kEql Try.prog (nat_lit 9) v93 (.str (nat_lit 2) (nat_lit 15420)) (fun v95 s96 => kIf v95 (.ok (.int .i64 (.ofNat (nat_lit 12))) s96) (kEql Try.prog (nat_lit 9) v93 (.str (nat_lit 2) (nat_lit 15934)) (fun v97 s98 => kIf v97 (.ok (.int .i64 (.ofNat (nat_lit 13))) s98) (c89j32 e s98)) s96)) s94) s92) s90) (kEql Try.prog (nat_lit 3) a1 (.int .i64 (.ofNat (nat_lit 6))) (fun v99 s100 => c89k122 e v99 v2 a1 s100) s90)

noncomputable def c89k124 (e : Ev) (v71 v2 a1 : AV) (s72 : St) : R AV :=
  kIf v71 (kFA (nat_lit 1) v2 (fun v73 s74 => kLoad1 v73 (fun v75 s76 => kEql Try.prog (nat_lit 9) v75 (.str (nat_lit 1) (nat_lit 124)) (fun v77 s78 => kIf v77 (.ok (.int .i64 (.ofNat (nat_lit 9))) s78) (kEql Try.prog (nat_lit 9) v75 (.str (nat_lit 1) (nat_lit 94)) (fun v79 s80 => kIf v79 (.ok (.int .i64 (.ofNat (nat_lit 10))) s80) (c89j32 e s80)) s78)) s76) s74) s72) (kEql Try.prog (nat_lit 3) a1 (.int .i64 (.ofNat (nat_lit 4))) (fun v81 s82 => kIf v81 (kFA (nat_lit 1) v2 (fun v83 s84 => kLoad1 v83 (fun v85 s86 => kEql Try.prog (nat_lit 9) v85 (.str (nat_lit 1) (nat_lit 38)) (fun v87 s88 => kIf v87 (.ok (.int .i64 (.ofNat (nat_lit 8))) s88) (c89j32 e s88)) s86) s84) s82) (kEql Try.prog (nat_lit 3) a1 (.int .i64 (.ofNat (nat_lit 5))) (fun v89 s90 => c89k123 e v89 v2 a1 s90) s82)) s72)

noncomputable def c89k125 (e : Ev) (v2 : AV) (s53 : St) : R AV :=
  kFA (nat_lit 1) v2 (fun v54 s55 => kLoad1 v54 (fun v56 s57 => kEql Try.prog (nat_lit 9) v56 (.str (nat_lit 1) (nat_lit 61)) (fun v58 s59 => kIf v58 (.ok (.int .i64 (.ofNat (nat_lit 14))) s59) (kEql Try.prog (nat_lit 9) v56 (.str (nat_lit 2) (nat_lit 15932)) (fun v60 s61 => kIf v60 (.ok (.int .i64 (.ofNat (nat_lit 15))) s61) (kEql Try.prog (nat_lit 9) v56 (.str (nat_lit 1) (nat_lit 60)) (fun v62 s63 => c89k70 e v62 v56 s63) s61)) s59)) s57) s55) s53

noncomputable def c89k126 (e : Ev) (v44 v2 a1 : AV) (s45 : St) : R AV :=
  kIf v44 (kFA (nat_lit 1) v2 (fun v46 s47 => kLoad1 v46 (fun v48 s49 => kEql Try.prog (nat_lit 9) v48 (.str (nat_lit 3) (nat_lit 6581857)) (fun v50 s51 => kIf v50 (.ok (.int .i64 (.ofNat (nat_lit 8))) s51) (c89j32 e s51)) s49) s47) s45) (kEql Try.prog (nat_lit 3) a1 (.int .i64 (.ofNat (nat_lit 2))) (fun v52 s53 => kIf v52 (c89k125 e v2 s53) (kEql Try.prog (nat_lit 3) a1 (.int .i64 (.ofNat (nat_lit 3))) (fun v71 s72 => c89k124 e v71 v2 a1 s72) s53)) s45)

noncomputable def c89k127 (e : Ev) (v34 v2 a1 : AV) (s35 : St) : R AV :=
  kIf v34 (kFA (nat_lit 1) v2 (fun v36 s37 => kLoad1 v36 (fun v38 s39 => kEql Try.prog (nat_lit 9) v38 (.str (nat_lit 2) (nat_lit 29295)) (fun v40 s41 => kIf v40 (.ok (.int .i64 (.ofNat (nat_lit 9))) s41) (kEql Try.prog (nat_lit 9) v38 (.str (nat_lit 3) (nat_lit 7499640)) (fun v42 s43 => kIf v42 (.ok (.int .i64 (.ofNat (nat_lit 10))) s43) (c89j32 e s43)) s41)) s39) s37) s35) (kEql Try.prog (nat_lit 3) a1 (.int .i64 (.ofNat (nat_lit 1))) (fun v44 s45 => c89k126 e v44 v2 a1 s45) s35)

noncomputable def c89k128 (e : Ev) (v20 v2 v12 a1 : AV) (s21 : St) : R AV :=
  kIf1 v20 (fun k s => kFA (nat_lit 0) v2 k s) (fun v22 s23 => kIf1 v20 (fun k s => kLoad1 v22 k s) (fun v24 s25 => kIf1 v20 (fun k s => kNeq Try.prog (nat_lit 3) v24 (.int .i64 (.ofNat (nat_lit 4))) k s) (fun v26 s27 => kIf0 v12 (fun k s => kPick v20 v26 (.bool false) k s) (fun v28 s29 => kPick v12 (.bool true) v28 (fun v30 s31 => kIf v30 (.ok (.int .i64 (.ofNat (nat_lit 0))) s31) (kEql Try.prog (nat_lit 3) a1 (.int .i64 (.ofNat (nat_lit 0))) (fun v34 s35 => c89k127 e v34 v2 a1 s35) s31)) s29) s27) s25) s23) s21

noncomputable def c89k129 (e : Ev) (v6 v2 a1 : AV) (s7 : St) : R AV :=
  kFA (nat_lit 2) v6 (fun v8 s9 => kLoad1 v8 (fun v10 s11 => kNeq Try.prog (nat_lit 3) v10 (.int .i64 (.ofNat (nat_lit 0))) (fun v12 s13 => kIf0 v12 (fun k s => kFA (nat_lit 0) v2 k s) (fun v14 s15 => kIf0 v12 (fun k s => kLoad1 v14 k s) (fun v16 s17 => kIf0 v12 (fun k s => kNeq Try.prog (nat_lit 3) v16 (.int .i64 (.ofNat (nat_lit 3))) k s) (fun v18 s19 => kIf0 v12 (fun k s => kMv v18 k s) (fun v20 s21 => c89k128 e v20 v2 v12 a1 s21) s19) s17) s15) s13) s11) s9) s7

noncomputable def c89 (e : Ev) (a0 a1 : AV) (s9999 : St) : R AV :=
  kBind (e (.call (nat_lit 37) [a0])) (fun v0 s1 => kAlloc [(.int .i64 (.ofNat (nat_lit 0))), (.str (nat_lit 0) (nat_lit 0)), (.int .i64 (.ofNat (nat_lit 0))), (.int .i64 (.ofNat (nat_lit 0))), (.int .i64 (.ofNat (nat_lit 0))), (.int .i64 (.ofNat (nat_lit 0)))] (fun v2 s3 => kStore (nat_lit 6) v2 v0 (fun v4 s5 => kNilCheck a0 (fun v6 s7 => c89k129 e v6 v2 a1 s7) s5) s3) s1) s9999

theorem c89_ok (ev : Task → M AV) (a0 a1 : AV) (s : St) : (stepN Try.prog ev (.call 89 [a0, a1])).run s = c89 (runs ev) a0 a1 s :=
  (call_is Try.prog (nt := (nat_lit 92)) Try.func89 rfl (by kernel_rfl) [a0, a1] (by kernel_rfl) (w_seq (w_seq (w_seq (w_seq (w_as (fun f s => c89j32 (runs ev) s) w_any (fun _ _ => by kernel_rfl)) w_any) w_any) w_any) w_any) s).trans (by kernel_rfl)

noncomputable def c90k18 (e : Ev) (v10 v4 v0 : AV) (s11 : St) : R AV :=
  kBuild [(.int .i64 (.ofNat (nat_lit 0))), (.int .i64 (.ofNat (nat_lit 0))), (.str (nat_lit 0) (nat_lit 0)), (.int .i64 (.ofNat (nat_lit 0))), (.int .i64 (.ofNat (nat_lit 0))), (.int .i64 (.ofNat (nat_lit 0))), (.int .i64 (.ofNat (nat_lit 0))), .nilslice, (.int .i64 (.ofNat (nat_lit 0)))] [(some ((nat_lit 0), (nat_lit 1)), (.int .i64 (.ofNat (nat_lit 3)))), (some ((nat_lit 1), (nat_lit 1)), (.int .i64 (.ofNat (nat_lit 1)))), (some ((nat_lit 7), (nat_lit 1)), v10), (some ((nat_lit 8), (nat_lit 1)), v4)] (fun v12 s13 => kStore (nat_lit 9) v0 v12 (fun v14 s15 => kLoadN (nat_lit 9) v0 (fun v16 s17 => .ok v16 s17) s15) s13) s11

noncomputable def c90k31 (e : Ev) (v23 v4 v0 : AV) (s24 : St) : R AV :=
  kBuild [(.int .i64 (.ofNat (nat_lit 0))), (.int .i64 (.ofNat (nat_lit 0))), (.str (nat_lit 0) (nat_lit 0)), (.int .i64 (.ofNat (nat_lit 0))), (.int .i64 (.ofNat (nat_lit 0))), (.int .i64 (.ofNat (nat_lit 0))), (.int .i64 (.ofNat (nat_lit 0))), .nilslice, (.int .i64 (.ofNat (nat_lit 0)))] [(some ((nat_lit 0), (nat_lit 1)), (.int .i64 (.ofNat (nat_lit 6)))), (some ((nat_lit 7), (nat_lit 1)), v23), (some ((nat_lit 8), (nat_lit 1)), v4)] (fun v25 s26 => kStore (nat_lit 9) v0 v25 (fun v27 s28 => kLoadN (nat_lit 9) v0 (fun v29 s30 => .ok v29 s30) s28) s26) s24

noncomputable def c90k124 (e : Ev) (v108 a0 v0 : AV) (r83 u84 r91 u92 r97 u98 r103 u104 r109 u110 : Nat) (s115 : St) : R AV :=
  ifb (kClash r83 u84 r91 u92 (kClash r83 u84 r97 u98 (kClash r91 u92 r97 u98 (kClash r83 u84 r103 u104 (kClash r83 u84 r109 u110 (kClash r91 u92 r109 u110 (kClash r97 u98 r109 u110 (kClash r103 u104 r109 u110 false)))))))) .fail (kLoadN (nat_lit 9) v108 (fun v116 s117 => kBind (e (.call (nat_lit 91) [a0, v116])) (fun v118 s119 => kStore (nat_lit 9) v0 v118 (fun v120 s121 => kLoadN (nat_lit 9) v0 (fun v122 s123 => .ok v122 s123) s121) s119) s117) s115)

noncomputable def c90k125 (e : Ev) (v106 a0 v0 : AV) (r83 u84 r91 u92 r97 u98 r103 u104 : Nat) (s107 : St) : R AV :=
  kLg (fun k s => kAlloc [(.int .i64 (.ofNat (nat_lit 0))), (.int .i64 (.ofNat (nat_lit 0))), (.str (nat_lit 0) (nat_lit 0)), (.int .i64 (.ofNat (nat_lit 0))), (.int .i64 (.ofNat (nat_lit 0))), (.int .i64 (.ofNat (nat_lit 0))), (.int .i64 (.ofNat (nat_lit 0))), .nilslice, (.int .i64 (.ofNat (nat_lit 0)))] k s) (fun v108 r109 u110 s111 => kLg (fun k s => kStore (nat_lit 9) v108 v106 k s) (fun v112 r113 u114 s115 => c90k124 e v108 a0 v0 r83 u84 r91 u92 r97 u98 r103 u104 r109 u110 s115) s111) s107

noncomputable def c90k126 (e : Ev) (v82 v102 v4 a0 v0 : AV) (r83 u84 r91 u92 r97 u98 r103 u104 : Nat) (s105 : St) : R AV :=
  kBuild [(.int .i64 (.ofNat (nat_lit 0))), (.int .i64 (.ofNat (nat_lit 0))), (.str (nat_lit 0) (nat_lit 0)), (.int .i64 (.ofNat (nat_lit 0))), (.int .i64 (.ofNat (nat_lit 0))), (.int .i64 (.ofNat (nat_lit 0))), (.int .i64 (.ofNat (nat_lit 0))), .nilslice, (.int .i64 (.ofNat (nat_lit 0)))] [(some ((nat_lit 0), (nat_lit 1)), (.int .i64 (.ofNat (nat_lit 1)))), (some ((nat_lit 3), (nat_lit 2)), v82), (some ((nat_lit 5), (nat_lit 1)), v102), (some ((nat_lit 8), (nat_lit 1)), v4)] (fun v106 s107 => c90k125 e v106 a0 v0 r83 u84 r91 u92 r97 u98 r103 u104 s107) s105

noncomputable def c90k127 (e : Ev) (v80 v36 v4 a0 v0 : AV) (s81 : St) : R AV :=
  kLg (fun k s => kLoadN (nat_lit 2) v80 k s) (fun v82 r83 u84 s85 => kFA (nat_lit 3) v36 (fun v86 s87 => kFA (nat_lit 0) v86 (fun v88 s89 => kLg (fun k s => kLoad1 v88 k s) (fun v90 r91 u92 s93 => kFA (nat_lit 2) v36 (fun v94 s95 => kLg (fun k s => kLoad1 v94 k s) (fun v96 r97 u98 s99 => kO (unA .neg v96) (fun v100 s101 => kLg (fun k s => kBind (e (.call (nat_lit 64) [v90, v100])) k s) (fun v102 r103 u104 s105 => c90k126 e v82 v102 v4 a0 v0 r83 u84 r91 u92 r97 u98 r103 u104 s105) s101) s99) s95) s93) s89) s87) s85) s81

noncomputable def c90k138 (e : Ev) (v130 v4 v0 : AV) (s131 : St) : R AV :=
  kBuild [(.int .i64 (.ofNat (nat_lit 0))), (.int .i64 (.ofNat (nat_lit 0))), (.str (nat_lit 0) (nat_lit 0)), (.int .i64 (.ofNat (nat_lit 0))), (.int .i64 (.ofNat (nat_lit 0))), (.int .i64 (.ofNat (nat_lit 0))), (.int .i64 (.ofNat (nat_lit 0))), .nilslice, (.int .i64 (.ofNat (nat_lit 0)))] [(some ((nat_lit 0), (nat_lit 1)), (.int .i64 (.ofNat (nat_lit 3)))), (some ((nat_lit 1), (nat_lit 1)), (.int .i64 (.ofNat (nat_lit 2)))), (some ((nat_lit 7), (nat_lit 1)), v130), (some ((nat_lit 8), (nat_lit 1)), v4)] (fun v132 s133 => kStore (nat_lit 9) v0 v132 (fun v134 s135 => kLoadN (nat_lit 9) v0 (fun v136 s137 => .ok v136 s137) s135) s133) s131

noncomputable def c90k139 (e : Ev) (a0 v4 v0 : AV) (s65 : St) : R AV :=
  kBind (e (.call (nat_lit 88) [a0])) (fun v128 s129 => kBuildSl [(.int .i64 (.ofNat (nat_lit 0))), (.int .i64 (.ofNat (nat_lit 0))), (.str (nat_lit 0) (nat_lit 0)), (.int .i64 (.ofNat (nat_lit 0))), (.int .i64 (.ofNat (nat_lit 0))), (.int .i64 (.ofNat (nat_lit 0))), (.int .i64 (.ofNat (nat_lit 0))), .nilslice, (.int .i64 (.ofNat (nat_lit 0)))] (nat_lit 1) [(some ((nat_lit 0), (nat_lit 9)), v128)] (fun v130 s131 => c90k138 e v130 v4 v0 s131) s129) s65

noncomputable def c90k140 (e : Ev) (v54 v62 a0 v36 v4 v0 : AV) (s63 : St) : R AV :=
  kPick v54 v62 (.bool false) (fun v64 s65 => kIf v64 (kNilCheck a0 (fun v66 s67 => kFA (nat_lit 1) v66 (fun v68 s69 => kLoad1 v68 (fun v70 s71 => kAdd Try.prog (nat_lit 3) v70 (.int .i64 (.ofNat (nat_lit 1))) (fun v72 s73 => kNilCheck a0 (fun v74 s75 => kFA (nat_lit 1) v74 (fun v76 s77 => kStore (nat_lit 1) v76 v72 (fun v78 s79 => kFA (nat_lit 3) v36 (fun v80 s81 => c90k127 e v80 v36 v4 a0 v0 s81) s79) s77) s75) s73) s71) s69) s67) s65) (c90k139 e a0 v4 v0 s65)) s63

noncomputable def c90k141 (e : Ev) (v46 v50 v36 a0 v4 v0 : AV) (s51 : St) : R AV :=
  kIf1 v46 (fun k s => kEql Try.prog (nat_lit 3) v50 (.int .i64 (.ofNat (nat_lit 2))) k s) (fun v52 s53 => kPick v46 v52 (.bool false) (fun v54 s55 => kIf1 v54 (fun k s => kFA (nat_lit 3) v36 k s) (fun v56 s57 => kIf1 v54 (fun k s => kFA (nat_lit 0) v56 k s) (fun v58 s59 => kIf1 v54 (fun k s => kLoad1 v58 k s) (fun v60 s61 => kIf1 v54 (fun k s => kGtr Try.prog (nat_lit 3) v60 (.int .i64 (.ofNat (nat_lit 0))) k s) (fun v62 s63 => c90k140 e v54 v62 a0 v36 v4 v0 s63) s61) s59) s57) s55) s53) s51

noncomputable def c90k142 (e : Ev) (v34 a0 v4 v0 : AV) (s35 : St) : R AV :=
  kAlloc [(.int .i64 (.ofNat (nat_lit 0))), (.str (nat_lit 0) (nat_lit 0)), (.int .i64 (.ofNat (nat_lit 0))), (.int .i64 (.ofNat (nat_lit 0))), (.int .i64 (.ofNat (nat_lit 0))), (.int .i64 (.ofNat (nat_lit 0)))] (fun v36 s37 => kStore (nat_lit 6) v36 v34 (fun v38 s39 => kNilCheck a0 (fun v40 s41 => kFA (nat_lit 2) v40 (fun v42 s43 => kLoad1 v42 (fun v44 s45 => kEql Try.prog (nat_lit 3) v44 (.int .i64 (.ofNat (nat_lit 0))) (fun v46 s47 => kIf1 v46 (fun k s => kFA (nat_lit 0) v36 k s) (fun v48 s49 => kIf1 v46 (fun k s => kLoad1 v48 k s) (fun v50 s51 => c90k141 e v46 v50 v36 a0 v4 v0 s51) s49) s47) s45) s43) s41) s39) s37) s35

noncomputable def c90k151 (e : Ev) (v19 a0 v4 v0 : AV) (s20 : St) : R AV :=
  kIf v19 (kBind (e (.call (nat_lit 88) [a0])) (fun v21 s22 => kBuildSl [(.int .i64 (.ofNat (nat_lit 0))), (.int .i64 (.ofNat (nat_lit 0))), (.str (nat_lit 0) (nat_lit 0)), (.int .i64 (.ofNat (nat_lit 0))), (.int .i64 (.ofNat (nat_lit 0))), (.int .i64 (.ofNat (nat_lit 0))), (.int .i64 (.ofNat (nat_lit 0))), .nilslice, (.int .i64 (.ofNat (nat_lit 0)))] (nat_lit 1) [(some ((nat_lit 0), (nat_lit 9)), v21)] (fun v23 s24 => c90k31 e v23 v4 v0 s24) s22) s20) (kBind (e (.call (nat_lit 54) [a0, (.str (nat_lit 1) (nat_lit 45))])) (fun v32 s33 => kIf v32 (kBind (e (.call (nat_lit 37) [a0])) (fun v34 s35 => c90k142 e v34 a0 v4 v0 s35) s33) (kBind (e (.call (nat_lit 92) [a0])) (fun v143 s144 => kBind (e (.call (nat_lit 91) [a0, v143])) (fun v145 s146 => kStore (nat_lit 9) v0 v145 (fun v147 s148 => kLoadN (nat_lit 9) v0 (fun v149 s150 => .ok v149 s150) s148) s146) s144) s33)) s20)

noncomputable def c90k152 (e : Ev) (v6 a0 v4 v0 : AV) (s7 : St) : R AV :=
  kIf v6 (kBind (e (.call (nat_lit 88) [a0])) (fun v8 s9 => kBuildSl [(.int .i64 (.ofNat (nat_lit 0))), (.int .i64 (.ofNat (nat_lit 0))), (.str (nat_lit 0) (nat_lit 0)), (.int .i64 (.ofNat (nat_lit 0))), (.int .i64 (.ofNat (nat_lit 0))), (.int .i64 (.ofNat (nat_lit 0))), (.int .i64 (.ofNat (nat_lit 0))), .nilslice, (.int .i64 (.ofNat (nat_lit 0)))] (nat_lit 1) [(some ((nat_lit 0), (nat_lit 9)), v8)] (fun v10 s11 => c90k18 e v10 v4 v0 s11) s9) s7) (kBind (e (.call (nat_lit 54) [a0, (.str (nat_lit 3) (nat_lit 6648432))])) (fun v19 s20 => c90k151 e v19 a0 v4 v0 s20) s7)

noncomputable def c90 (e : Ev) (a0 : AV) (s9999 : St) : R AV :=
  kAlloc [(.int .i64 (.ofNat (nat_lit 0))), (.int .i64 (.ofNat (nat_lit 0))), (.str (nat_lit 0) (nat_lit 0)), (.int .i64 (.ofNat (nat_lit 0))), (.int .i64 (.ofNat (nat_lit 0))), (.int .i64 (.ofNat (nat_lit 0))), (.int .i64 (.ofNat (nat_lit 0))), .nilslice, (.int .i64 (.ofNat (nat_lit 0)))] (fun v0 s1 => kBind (e (.call (nat_lit 37) [a0])) (fun v2 s3 => kPart1 (nat_lit 5) v2 (fun v4 s5 => kBind (e (.call (nat_lit 54) [a0, (.str (nat_lit 3) (nat_lit 7630702))])) (fun v6 s7 => c90k152 e v6 a0 v4 v0 s7) s5) s3) s1) s9999

theorem c90_ok (ev : Task → M AV) (a0 : AV) (s : St) : (stepN Try.prog ev (.call 90 [a0])).run s = c90 (runs ev) a0 s :=
  (call_is Try.prog (nt := (nat_lit 79)) Try.func90 rfl (by kernel_rfl) [a0] (by kernel_rfl) w_any s).trans (by kernel_rfl)

noncomputable def c91k37 (e : Ev) (w5 : AV → AV → AV → St → R AV) (v21 v27 v31 v8 v7 v9 : AV) (s32 : St) : R AV :=
  kBuild [(.int .i64 (.ofNat (nat_lit 0))), (.int .i64 (.ofNat (nat_lit 0))), (.str (nat_lit 0) (nat_lit 0)), (.int .i64 (.ofNat (nat_lit 0))), (.int .i64 (.ofNat (nat_lit 0))), (.int .i64 (.ofNat (nat_lit 0))), (.int .i64 (.ofNat (nat_lit 0))), .nilslice, (.int .i64 (.ofNat (nat_lit 0)))] [(some ((nat_lit 0), (nat_lit 1)), (.int .i64 (.ofNat (nat_lit 16)))), (some ((nat_lit 5), (nat_lit 1)), v21), (some ((nat_lit 7), (nat_lit 1)), v27), (some ((nat_lit 8), (nat_lit 1)), v31)] (fun v33 s34 => kStore (nat_lit 9) v8 v33 (fun v35 s36 => w5 v7 v8 v9 s36) s34) s32

noncomputable def c91k38 (e : Ev) (w5 : AV → AV → AV → St → R AV) (v25 v8 v21 v7 v9 : AV) (s26 : St) : R AV :=
  kBuildSl [(.int .i64 (.ofNat (nat_lit 0))), (.int .i64 (.ofNat (nat_lit 0))), (.str (nat_lit 0) (nat_lit 0)), (.int .i64 (.ofNat (nat_lit 0))), (.int .i64 (.ofNat (nat_lit 0))), (.int .i64 (.ofNat (nat_lit 0))), (.int .i64 (.ofNat (nat_lit 0))), .nilslice, (.int .i64 (.ofNat (nat_lit 0)))] (nat_lit 1) [(some ((nat_lit 0), (nat_lit 9)), v25)] (fun v27 s28 => kFA (nat_lit 8) v8 (fun v29 s30 => kLoad1 v29 (fun v31 s32 => c91k37 e w5 v21 v27 v31 v8 v7 v9 s32) s30) s28) s26

noncomputable def c91l4b (e : Ev) (w5 : AV → AV → AV → St → R AV) (v7 v8 v9 : AV) (s10 : St) : R AV :=
  kBind (e (.call (nat_lit 54) [v7, (.str (nat_lit 1) (nat_lit 91))])) (fun v11 s12 => kNot v11 (fun v13 s14 => kIf v13 (kLoadN (nat_lit 9) v8 (fun v15 s16 => kStore (nat_lit 9) v9 v15 (fun v17 s18 => kLoadN (nat_lit 9) v9 (fun v19 s20 => .ok v19 s20) s18) s16) s14) (kBind (e (.call (nat_lit 77) [v7])) (fun v21 s22 => kBind (e (.call (nat_lit 51) [v7, (.str (nat_lit 1) (nat_lit 93))])) (fun v23 s24 => kLoadN (nat_lit 9) v8 (fun v25 s26 => c91k38 e w5 v25 v8 v21 v7 v9 s26) s24) s22) s14)) s12) s10

noncomputable def c91l4 (e : Ev) (n : Nat) : AV → AV → AV → St → R AV :=
  @Nat.rec (fun _ => AV → AV → AV → St → R AV) (fun _ _ _ _ => .fail) (fun _ w => c91l4b e w) n

noncomputable def c91 (e : Ev) (a0 a1 : AV) (s9999 : St) : R AV :=
  kBox a1 (fun v0 s1 => kAlloc [(.int .i64 (.ofNat (nat_lit 0))), (.int .i64 (.ofNat (nat_lit 0))), (.str (nat_lit 0) (nat_lit 0)), (.int .i64 (.ofNat (nat_lit 0))), (.int .i64 (.ofNat (nat_lit 0))), (.int .i64 (.ofNat (nat_lit 0))), (.int .i64 (.ofNat (nat_lit 0))), .nilslice, (.int .i64 (.ofNat (nat_lit 0)))] (fun v2 s3 => c91l4 e fuelN a0 v0 v2 s3) s1) s9999

theorem c91_ok (ev : Task → M AV) (a0 a1 : AV) (s : St) : (stepN Try.prog ev (.call 91 [a0, a1])).run s = c91 (runs ev) a0 a1 s :=
  (call_is Try.prog (nt := (nat_lit 22)) Try.func91 rfl (by kernel_rfl) [a0, a1] (by kernel_rfl) (w_seq (w_block (w_loop (fun n f s => c91l4 (runs ev) n (f 0) (f 3) (f 4) s) (fun _ _ => by kernel_rfl) (fun n6 => w_as _ w_any (fun _ _ => by kernel_rfl)))) w_any) s).trans (by kernel_rfl)

noncomputable def c92j32 (e : Ev) (v33 v34 v35 : AV) (s36 : St) : R AV :=
  kBind (e (.call (nat_lit 39) [v33, (.int .i64 (.ofNat (nat_lit 12)))])) (fun v37 s38 => kLoadN (nat_lit 9) v35 (fun v39 s40 => kStore (nat_lit 9) v34 v39 (fun v41 s42 => kLoadN (nat_lit 9) v34 (fun v43 s44 => .ok v43 s44) s42) s40) s38) s36

noncomputable def c92j79 (e : Ev) (v80 v81 : AV) (s82 : St) : R AV :=
  kLoadN (nat_lit 9) v81 (fun v83 s84 => kStore (nat_lit 9) v80 v83 (fun v85 s86 => kLoadN (nat_lit 9) v80 (fun v87 s88 => .ok v87 s88) s86) s84) s82

noncomputable def c92k99 (e : Ev) (v73 a0 v14 v0 : AV) (s74 : St) : R AV :=
  kStore (nat_lit 1) v73 (.int .i64 (.ofNat (nat_lit 2))) (fun v75 s76 => kBind (e (.call (nat_lit 38) [a0, (.str (nat_lit 1) (nat_lit 40))])) (fun v77 s78 => kIf v77 (kFA (nat_lit 0) v14 (fun v89 s90 => kStore (nat_lit 1) v89 (.int .i64 (.ofNat (nat_lit 13))) (fun v91 s92 => kBind (e (.call (nat_lit 93) [a0])) (fun v93 s94 => kFA (nat_lit 7) v14 (fun v95 s96 => kStore (nat_lit 1) v95 v93 (fun v97 s98 => c92j79 e v0 v14 s98) s96) s94) s92) s90) s78) (c92j79 e v0 v14 s78)) s76) s74

noncomputable def c92k100 (e : Ev) (v53 a0 v4 v14 v0 : AV) (s54 : St) : R AV :=
  kLoad1 v53 (fun v55 s56 => kAdd Try.prog (nat_lit 3) v55 (.int .i64 (.ofNat (nat_lit 1))) (fun v57 s58 => kNilCheck a0 (fun v59 s60 => kFA (nat_lit 1) v59 (fun v61 s62 => kStore (nat_lit 1) v61 v57 (fun v63 s64 => kFA (nat_lit 1) v4 (fun v65 s66 => kLoad1 v65 (fun v67 s68 => kFA (nat_lit 2) v14 (fun v69 s70 => kStore (nat_lit 1) v69 v67 (fun v71 s72 => kFA (nat_lit 0) v14 (fun v73 s74 => c92k99 e v73 a0 v14 v0 s74) s72) s70) s68) s66) s64) s62) s60) s58) s56) s54

noncomputable def c92k179 (e : Ev) (v157 v14 v4 v0 : AV) (s158 : St) : R AV :=
  kLoadN (nat_lit 2) v157 (fun v159 s160 => kFA (nat_lit 3) v14 (fun v161 s162 => kStore (nat_lit 2) v161 v159 (fun v163 s164 => kFA (nat_lit 2) v4 (fun v165 s166 => kLoad1 v165 (fun v167 s168 => kFA (nat_lit 5) v14 (fun v169 s170 => kStore (nat_lit 1) v169 v167 (fun v171 s172 => kLoadN (nat_lit 9) v14 (fun v173 s174 => kStore (nat_lit 9) v0 v173 (fun v175 s176 => kLoadN (nat_lit 9) v0 (fun v177 s178 => .ok v177 s178) s176) s174) s172) s170) s168) s166) s164) s162) s160) s158

noncomputable def c92k180 (e : Ev) (v141 a0 v14 v4 v0 : AV) (s142 : St) : R AV :=
  kLoad1 v141 (fun v143 s144 => kAdd Try.prog (nat_lit 3) v143 (.int .i64 (.ofNat (nat_lit 1))) (fun v145 s146 => kNilCheck a0 (fun v147 s148 => kFA (nat_lit 1) v147 (fun v149 s150 => kStore (nat_lit 1) v149 v145 (fun v151 s152 => kFA (nat_lit 0) v14 (fun v153 s154 => kStore (nat_lit 1) v153 (.int .i64 (.ofNat (nat_lit 1))) (fun v155 s156 => kFA (nat_lit 3) v4 (fun v157 s158 => c92k179 e v157 v14 v4 v0 s158) s156) s154) s152) s150) s148) s146) s144) s142

noncomputable def c92k181 (e : Ev) (v125 v117 a0 v14 v0 v4 : AV) (s126 : St) : R AV :=
  kIf0 v125 (fun k s => kMv v117 k s) (fun v127 s128 => kPick v125 (.bool true) v127 (fun v129 s130 => kIf v129 (kBind (e (.call (nat_lit 39) [a0, (.int .i64 (.ofNat (nat_lit 12)))])) (fun v131 s132 => kLoadN (nat_lit 9) v14 (fun v133 s134 => kStore (nat_lit 9) v0 v133 (fun v135 s136 => kLoadN (nat_lit 9) v0 (fun v137 s138 => .ok v137 s138) s136) s134) s132) s130) (kNilCheck a0 (fun v139 s140 => kFA (nat_lit 1) v139 (fun v141 s142 => c92k180 e v141 a0 v14 v4 v0 s142) s140) s130)) s128) s126

noncomputable def c92k182 (e : Ev) (v109 v111 v4 a0 v14 v0 : AV) (s112 : St) : R AV :=
  kIf1 v109 (fun k s => kLoad1 v111 k s) (fun v113 s114 => kIf1 v109 (fun k s => kLss Try.prog (nat_lit 3) v113 (.int .i64 (.ofNat (nat_lit 0))) k s) (fun v115 s116 => kPick v109 v115 (.bool false) (fun v117 s118 => kFA (nat_lit 3) v4 (fun v119 s120 => kFA (nat_lit 0) v119 (fun v121 s122 => kLoad1 v121 (fun v123 s124 => kEql Try.prog (nat_lit 3) v123 (.int .i64 (.ofNat (nat_lit 0))) (fun v125 s126 => c92k181 e v125 v117 a0 v14 v0 v4 s126) s124) s122) s120) s118) s116) s114) s112

noncomputable def c92k219 (e : Ev) (v205 a0 v0 : AV) (s206 : St) : R AV :=
  kAlloc [(.int .i64 (.ofNat (nat_lit 0))), (.int .i64 (.ofNat (nat_lit 0))), (.str (nat_lit 0) (nat_lit 0)), (.int .i64 (.ofNat (nat_lit 0))), (.int .i64 (.ofNat (nat_lit 0))), (.int .i64 (.ofNat (nat_lit 0))), (.int .i64 (.ofNat (nat_lit 0))), .nilslice, (.int .i64 (.ofNat (nat_lit 0)))] (fun v207 s208 => kStore (nat_lit 9) v207 v205 (fun v209 s210 => kBind (e (.call (nat_lit 51) [a0, (.str (nat_lit 1) (nat_lit 41))])) (fun v211 s212 => kLoadN (nat_lit 9) v207 (fun v213 s214 => kStore (nat_lit 9) v0 v213 (fun v215 s216 => kLoadN (nat_lit 9) v0 (fun v217 s218 => .ok v217 s218) s216) s214) s212) s210) s208) s206

noncomputable def c92k258 (e : Ev) (v240 a0 v14 v0 : AV) (s241 : St) : R AV :=
  kStore (nat_lit 1) v240 (.int .i64 (.ofNat (nat_lit 15))) (fun v242 s243 => kBind (e (.call (nat_lit 94) [a0, (.int .i64 (.ofNat (nat_lit 0)))])) (fun v244 s245 => kFA (nat_lit 7) v14 (fun v246 s247 => kStore (nat_lit 1) v246 v244 (fun v248 s249 => kBind (e (.call (nat_lit 51) [a0, (.str (nat_lit 1) (nat_lit 93))])) (fun v250 s251 => kLoadN (nat_lit 9) v14 (fun v252 s253 => kStore (nat_lit 9) v0 v252 (fun v254 s255 => kLoadN (nat_lit 9) v0 (fun v256 s257 => .ok v256 s257) s255) s253) s251) s249) s247) s245) s243) s241

noncomputable def c92k259 (e : Ev) (v224 a0 v14 v0 : AV) (s225 : St) : R AV :=
  kIf v224 (kNilCheck a0 (fun v226 s227 => kFA (nat_lit 1) v226 (fun v228 s229 => kLoad1 v228 (fun v230 s231 => kAdd Try.prog (nat_lit 3) v230 (.int .i64 (.ofNat (nat_lit 1))) (fun v232 s233 => kNilCheck a0 (fun v234 s235 => kFA (nat_lit 1) v234 (fun v236 s237 => kStore (nat_lit 1) v236 v232 (fun v238 s239 => kFA (nat_lit 0) v14 (fun v240 s241 => c92k258 e v240 a0 v14 v0 s241) s239) s237) s235) s233) s231) s229) s227) s225) (c92j32 e a0 v0 v14 s225)

noncomputable def c92k260 (e : Ev) (v189 a0 v0 v4 v14 : AV) (s190 : St) : R AV :=
  kIf v189 (kNilCheck a0 (fun v191 s192 => kFA (nat_lit 1) v191 (fun v193 s194 => kLoad1 v193 (fun v195 s196 => kAdd Try.prog (nat_lit 3) v195 (.int .i64 (.ofNat (nat_lit 1))) (fun v197 s198 => kNilCheck a0 (fun v199 s200 => kFA (nat_lit 1) v199 (fun v201 s202 => kStore (nat_lit 1) v201 v197 (fun v203 s204 => kBind (e (.call (nat_lit 80) [a0])) (fun v205 s206 => c92k219 e v205 a0 v0 s206) s204) s202) s200) s198) s196) s194) s192) s190) (kFA (nat_lit 1) v4 (fun v220 s221 => kLoad1 v220 (fun v222 s223 => kEql Try.prog (nat_lit 9) v222 (.str (nat_lit 1) (nat_lit 91)) (fun v224 s225 => c92k259 e v224 a0 v14 v0 s225) s223) s221) s190)

noncomputable def c92k271 (e : Ev) (v183 v4 a0 v0 v14 v47 : AV) (s184 : St) : R AV :=
  kIf v183 (kFA (nat_lit 1) v4 (fun v185 s186 => kLoad1 v185 (fun v187 s188 => kEql Try.prog (nat_lit 9) v187 (.str (nat_lit 1) (nat_lit 40)) (fun v189 s190 => c92k260 e v189 a0 v0 v4 v14 s190) s188) s186) s184) (kEql Try.prog (nat_lit 3) v47 (.int .i64 (.ofNat (nat_lit 3))) (fun v261 s262 => kIf v261 (kLoadN (nat_lit 6) v4 (fun v263 s264 => kBind (e (.call (nat_lit 95) [a0, v263])) (fun v265 s266 => kStore (nat_lit 9) v0 v265 (fun v267 s268 => kLoadN (nat_lit 9) v0 (fun v269 s270 => .ok v269 s270) s268) s266) s264) s262) (c92j32 e a0 v0 v14 s262)) s184)

noncomputable def c92k272 (e : Ev) (v47 v4 a0 v14 v0 : AV) (s50 : St) : R AV :=
  kEql Try.prog (nat_lit 3) v47 (.int .i64 (.ofNat (nat_lit 2))) (fun v101 s102 => kIf v101 (kFA (nat_lit 3) v4 (fun v103 s104 => kFA (nat_lit 0) v103 (fun v105 s106 => kLoad1 v105 (fun v107 s108 => kBind (e (.call (nat_lit 63) [v107])) (fun v109 s110 => kIf1 v109 (fun k s => kFA (nat_lit 2) v4 k s) (fun v111 s112 => c92k182 e v109 v111 v4 a0 v14 v0 s112) s110) s108) s106) s104) s102) (kEql Try.prog (nat_lit 3) v47 (.int .i64 (.ofNat (nat_lit 4))) (fun v183 s184 => c92k271 e v183 v4 a0 v0 v14 v47 s184) s102)) s50

noncomputable def c92k273 (e : Ev) (v24 v14 v0 v4 a0 : AV) (s25 : St) : R AV :=
  kIf v24 (kLoadN (nat_lit 9) v14 (fun v26 s27 => kStore (nat_lit 9) v0 v26 (fun v28 s29 => kLoadN (nat_lit 9) v0 (fun v30 s31 => .ok v30 s31) s29) s27) s25) (kFA (nat_lit 0) v4 (fun v45 s46 => kLoad1 v45 (fun v47 s48 => kEql Try.prog (nat_lit 3) v47 (.int .i64 (.ofNat (nat_lit 1))) (fun v49 s50 => kIf v49 (kNilCheck a0 (fun v51 s52 => kFA (nat_lit 1) v51 (fun v53 s54 => c92k100 e v53 a0 v4 v14 v0 s54) s52) s50) (c92k272 e v47 v4 a0 v14 v0 s50)) s48) s46) s25)

noncomputable def c92k274 (e : Ev) (v12 a0 v0 v4 : AV) (s13 : St) : R AV :=
  kAlloc [(.int .i64 (.ofNat (nat_lit 0))), (.int .i64 (.ofNat (nat_lit 0))), (.str (nat_lit 0) (nat_lit 0)), (.int .i64 (.ofNat (nat_lit 0))), (.int .i64 (.ofNat (nat_lit 0))), (.int .i64 (.ofNat (nat_lit 0))), (.int .i64 (.ofNat (nat_lit 0))), .nilslice, (.int .i64 (.ofNat (nat_lit 0)))] (fun v14 s15 => kStore (nat_lit 9) v14 v12 (fun v16 s17 => kNilCheck a0 (fun v18 s19 => kFA (nat_lit 2) v18 (fun v20 s21 => kLoad1 v20 (fun v22 s23 => kNeq Try.prog (nat_lit 3) v22 (.int .i64 (.ofNat (nat_lit 0))) (fun v24 s25 => c92k273 e v24 v14 v0 v4 a0 s25) s23) s21) s19) s17) s15) s13

noncomputable def c92k275 (e : Ev) (v4 v2 a0 v0 : AV) (s5 : St) : R AV :=
  kStore (nat_lit 6) v4 v2 (fun v6 s7 => kFA (nat_lit 5) v4 (fun v8 s9 => kLoad1 v8 (fun v10 s11 => kBuild [(.int .i64 (.ofNat (nat_lit 0))), (.int .i64 (.ofNat (nat_lit 0))), (.str (nat_lit 0) (nat_lit 0)), (.int .i64 (.ofNat (nat_lit 0))), (.int .i64 (.ofNat (nat_lit 0))), (.int .i64 (.ofNat (nat_lit 0))), (.int .i64 (.ofNat (nat_lit 0))), .nilslice, (.int .i64 (.ofNat (nat_lit 0)))] [(some ((nat_lit 8), (nat_lit 1)), v10)] (fun v12 s13 => c92k274 e v12 a0 v0 v4 s13) s11) s9) s7) s5

noncomputable def c92 (e : Ev) (a0 : AV) (s9999 : St) : R AV :=
  kAlloc [(.int .i64 (.ofNat (nat_lit 0))), (.int .i64 (.ofNat (nat_lit 0))), (.str (nat_lit 0) (nat_lit 0)), (.int .i64 (.ofNat (nat_lit 0))), (.int .i64 (.ofNat (nat_lit 0))), (.int .i64 (.ofNat (nat_lit 0))), (.int .i64 (.ofNat (nat_lit 0))), .nilslice, (.int .i64 (.ofNat (nat_lit 0)))] (fun v0 s1 => kBind (e (.call (nat_lit 37) [a0])) (fun v2 s3 => kAlloc [(.int .i64 (.ofNat (nat_lit 0))), (.str (nat_lit 0) (nat_lit 0)), (.int .i64 (.ofNat (nat_lit 0))), (.int .i64 (.ofNat (nat_lit 0))), (.int .i64 (.ofNat (nat_lit 0))), (.int .i64 (.ofNat (nat_lit 0)))] (fun v4 s5 => c92k275 e v4 v2 a0 v0 s5) s3) s1) s9999

theorem c92_ok (ev : Task → M AV) (a0 : AV) (s : St) : (stepN Try.prog ev (.call 92 [a0])).run s = c92 (runs ev) a0 s :=
  (call_is Try.prog (nt := (nat_lit 120)) Try.func92 rfl (by kernel_rfl) [a0] (by kernel_rfl) (w_seq (w_seq (w_seq (w_seq (w_seq (w_as (fun f s => c92j32 (runs ev) (f 0) (f 2) (f 4) s) w_any (fun _ _ => by kernel_rfl)) (w_seq (w_block (w_seq (w_cond (w_seq (w_seq (w_seq (w_seq (w_seq (w_as (fun f s => c92j79 (runs ev) (f 2) (f 4) s) w_any (fun _ _ => by kernel_rfl)) w_any) w_any) w_any) w_any) w_any) w_any) w_any)) w_any)) w_any) w_any) w_any) w_any) s).trans (by kernel_rfl)

noncomputable def c93j4 (e : Ev) (v5 v6 : AV) (s7 : St) : R AV :=
  kBind (e (.call (nat_lit 51) [v5, (.str (nat_lit 1) (nat_lit 41))])) (fun v8 s9 => .ok v6 s9) s7

noncomputable def c93 (e : Ev) (a0 : AV) (s9999 : St) : R AV :=
  kBind (e (.call (nat_lit 51) [a0, (.str (nat_lit 1) (nat_lit 40))])) (fun v0 s1 => kBind (e (.call (nat_lit 38) [a0, (.str (nat_lit 1) (nat_lit 41))])) (fun v2 s3 => kNot v2 (fun v10 s11 => kIf v10 (kBind (e (.call (nat_lit 94) [a0, (.int .i64 (.ofNat (nat_lit 0)))])) (fun v12 s13 => c93j4 e a0 v12 s13) s11) (c93j4 e a0 .nilslice s11)) s3) s1) s9999

theorem c93_ok (ev : Task → M AV) (a0 : AV) (s : St) : (stepN Try.prog ev (.call 93 [a0])).run s = c93 (runs ev) a0 s :=
  (call_is Try.prog (nt := (nat_lit 16)) Try.func93 rfl (by kernel_rfl) [a0] (by kernel_rfl) (w_seq (w_seq (w_seq (w_seq (w_seq (w_as (fun f s => c93j4 (runs ev) (f 0) (f 3) s) w_any (fun _ _ => by kernel_rfl)) w_any) w_any) w_any) w_any) w_any) s).trans (by kernel_rfl)

noncomputable def c94j0 (e : Ev) (v1 : AV) (s2 : St) : R AV :=
  .ok v1 s2

noncomputable def c94k34 (e : Ev) (w4 : AV → AV → AV → St → R AV) (v24 v8 v6 v7 : AV) (s25 : St) : R AV :=
  kBuildSl [(.int .i64 (.ofNat (nat_lit 0))), (.int .i64 (.ofNat (nat_lit 0))), (.str (nat_lit 0) (nat_lit 0)), (.int .i64 (.ofNat (nat_lit 0))), (.int .i64 (.ofNat (nat_lit 0))), (.int .i64 (.ofNat (nat_lit 0))), (.int .i64 (.ofNat (nat_lit 0))), .nilslice, (.int .i64 (.ofNat (nat_lit 0)))] (nat_lit 1) [(some ((nat_lit 0), (nat_lit 9)), v24)] (fun v26 s27 => kApp (nat_lit 9) (nat_lit 96) v8 v26 (fun v28 s29 => kBind (e (.call (nat_lit 54) [v6, (.str (nat_lit 1) (nat_lit 44))])) (fun v30 s31 => kNot v30 (fun v32 s33 => kIf v32 (c94j0 e v28 s33) (w4 v6 v7 v28 s33)) s31) s29) s27) s25

noncomputable def c94k35 (e : Ev) (w4 : AV → AV → AV → St → R AV) (v10 v8 v7 v6 : AV) (s11 : St) : R AV :=
  kFA (nat_lit 2) v10 (fun v12 s13 => kLoad1 v12 (fun v14 s15 => kEql Try.prog (nat_lit 3) v14 (.int .i64 (.ofNat (nat_lit 0))) (fun v16 s17 => kIf v16 (kLenL v8 (fun v18 s19 => kAdd Try.prog (nat_lit 3) v7 v18 (fun v20 s21 => kBind (e (.call (nat_lit 40) [v6, v20, (.int .i64 (.ofNat (nat_lit 16)))])) (fun v22 s23 => kIf v22 (c94j0 e v8 s23) (kBind (e (.call (nat_lit 80) [v6])) (fun v24 s25 => c94k34 e w4 v24 v8 v6 v7 s25) s23)) s21) s19) s17) (c94j0 e v8 s17)) s15) s13) s11

noncomputable def c94l3b (e : Ev) (w4 : AV → AV → AV → St → R AV) (v6 v7 v8 : AV) (s9 : St) : R AV :=
  kNilCheck v6 (fun v10 s11 => c94k35 e w4 v10 v8 v7 v6 s11) s9

noncomputable def c94l3 (e : Ev) (n : Nat) : AV → AV → AV → St → R AV :=
  @Nat.rec (fun _ => AV → AV → AV → St → R AV) (fun _ _ _ _ => .fail) (fun _ w => c94l3b e w) n

noncomputable def c94 (e : Ev) (a0 a1 : AV) (s9999 : St) : R AV :=
  c94l3 e fuelN a0 a1 .nilslice s9999

theorem c94_ok (ev : Task → M AV) (a0 a1 : AV) (s : St) : (stepN Try.prog ev (.call 94 [a0, a1])).run s = c94 (runs ev) a0 a1 s :=
  (call_is Try.prog (nt := (nat_lit 30)) Try.func94 rfl (by kernel_rfl) [a0, a1] (by kernel_rfl) (w_seq (w_seq (w_seq (w_as (fun f s => c94j0 (runs ev) (f 5) s) w_any (fun _ _ => by kernel_rfl)) (w_block (w_loop (fun n f s => c94l3 (runs ev) n (f 0) (f 1) (f 5) s) (fun _ _ => by kernel_rfl) (fun n5 => w_as _ w_any (fun _ _ => by kernel_rfl))))) w_any) w_any) s).trans (by kernel_rfl)

noncomputable def c95j50 (e : Ev) (v51 v52 : AV) (s53 : St) : R AV :=
  kLoadN (nat_lit 9) v52 (fun v54 s55 => kStore (nat_lit 9) v51 v54 (fun v56 s57 => kLoadN (nat_lit 9) v51 (fun v58 s59 => .ok v58 s59) s57) s55) s53

noncomputable def c95k70 (e : Ev) (v22 v20 v21 : AV) (s43 : St) : R AV :=
  kBuild [(.int .i64 (.ofNat (nat_lit 0))), (.int .i64 (.ofNat (nat_lit 0)))] [(some ((nat_lit 0), (nat_lit 1)), (.int .i64 (.ofNat (nat_lit 1))))] (fun v44 s45 => kFA (nat_lit 3) v22 (fun v46 s47 => kStore (nat_lit 2) v46 v44 (fun v48 s49 => kFA (nat_lit 1) v20 (fun v60 s61 => kLoad1 v60 (fun v62 s63 => kEql Try.prog (nat_lit 9) v62 (.str (nat_lit 4) (nat_lit 1702195828)) (fun v64 s65 => kIf v64 (kFA (nat_lit 5) v22 (fun v66 s67 => kStore (nat_lit 1) v66 (.int .i64 (.ofNat (nat_lit 1))) (fun v68 s69 => c95j50 e v21 v22 s69) s67) s65) (c95j50 e v21 v22 s65)) s63) s61) s49) s47) s45) s43

noncomputable def c95k135 (e : Ev) (v107 v111 v115 v22 v21 : AV) (r108 u109 r112 u113 r116 u117 : Nat) (s118 : St) : R AV :=
  kLg (fun k s => kBuildSl [(.int .i64 (.ofNat (nat_lit 0))), (.int .i64 (.ofNat (nat_lit 0))), (.str (nat_lit 0) (nat_lit 0)), (.int .i64 (.ofNat (nat_lit 0))), (.int .i64 (.ofNat (nat_lit 0))), (.int .i64 (.ofNat (nat_lit 0))), (.int .i64 (.ofNat (nat_lit 0))), .nilslice, (.int .i64 (.ofNat (nat_lit 0))), (.int .i64 (.ofNat (nat_lit 0))), (.int .i64 (.ofNat (nat_lit 0))), (.str (nat_lit 0) (nat_lit 0)), (.int .i64 (.ofNat (nat_lit 0))), (.int .i64 (.ofNat (nat_lit 0))), (.int .i64 (.ofNat (nat_lit 0))), (.int .i64 (.ofNat (nat_lit 0))), .nilslice, (.int .i64 (.ofNat (nat_lit 0))), (.int .i64 (.ofNat (nat_lit 0))), (.int .i64 (.ofNat (nat_lit 0))), (.str (nat_lit 0) (nat_lit 0)), (.int .i64 (.ofNat (nat_lit 0))), (.int .i64 (.ofNat (nat_lit 0))), (.int .i64 (.ofNat (nat_lit 0))), (.int .i64 (.ofNat (nat_lit 0))), .nilslice, (.int .i64 (.ofNat (nat_lit 0)))] (nat_lit 3) [(some ((nat_lit 0), (nat_lit 9)), v107), (some ((nat_lit 9), (nat_lit 9)), v111), (some ((nat_lit 18), (nat_lit 9)), v115)] k s) (fun v119 r120 u121 s122 => kFA (nat_lit 7) v22 (fun v123 s124 => kLg (fun k s => kStore (nat_lit 1) v123 v119 k s) (fun v125 r126 u127 s128 => ifb (kClash r108 u109 r112 u113 (kClash r108 u109 r116 u117 (kClash r112 u113 r116 u117 false))) .fail (kLoadN (nat_lit 9) v22 (fun v129 s130 => kStore (nat_lit 9) v21 v129 (fun v131 s132 => kLoadN (nat_lit 9) v21 (fun v133 s134 => .ok v133 s134) s132) s130) s128)) s124) s122) s118

noncomputable def c95k136 (e : Ev) (v19 v22 v89 v97 v21 : AV) (s100 : St) : R AV :=
  kBind (e (.call (nat_lit 51) [v19, (.str (nat_lit 4) (nat_lit 1702063205))])) (fun v101 s102 => kFA (nat_lit 0) v22 (fun v103 s104 => kStore (nat_lit 1) v103 (.int .i64 (.ofNat (nat_lit 5))) (fun v105 s106 => kLg (fun k s => kLoadN (nat_lit 9) v89 k s) (fun v107 r108 u109 s110 => kLg (fun k s => kLoadN (nat_lit 9) v97 k s) (fun v111 r112 u113 s114 => kLg (fun k s => kBind (e (.call (nat_lit 80) [v19])) k s) (fun v115 r116 u117 s118 => c95k135 e v107 v111 v115 v22 v21 r108 u109 r112 u113 r116 u117 s118) s114) s110) s106) s104) s102) s100

noncomputable def c95k137 (e : Ev) (v19 v22 v89 v21 : AV) (s94 : St) : R AV :=
  kBind (e (.call (nat_lit 80) [v19])) (fun v95 s96 => kAlloc [(.int .i64 (.ofNat (nat_lit 0))), (.int .i64 (.ofNat (nat_lit 0))), (.str (nat_lit 0) (nat_lit 0)), (.int .i64 (.ofNat (nat_lit 0))), (.int .i64 (.ofNat (nat_lit 0))), (.int .i64 (.ofNat (nat_lit 0))), (.int .i64 (.ofNat (nat_lit 0))), .nilslice, (.int .i64 (.ofNat (nat_lit 0)))] (fun v97 s98 => kStore (nat_lit 9) v97 v95 (fun v99 s100 => c95k136 e v19 v22 v89 v97 v21 s100) s98) s96) s94

noncomputable def c95k138 (e : Ev) (v87 v19 v22 v21 : AV) (s88 : St) : R AV :=
  kAlloc [(.int .i64 (.ofNat (nat_lit 0))), (.int .i64 (.ofNat (nat_lit 0))), (.str (nat_lit 0) (nat_lit 0)), (.int .i64 (.ofNat (nat_lit 0))), (.int .i64 (.ofNat (nat_lit 0))), (.int .i64 (.ofNat (nat_lit 0))), (.int .i64 (.ofNat (nat_lit 0))), .nilslice, (.int .i64 (.ofNat (nat_lit 0)))] (fun v89 s90 => kStore (nat_lit 9) v89 v87 (fun v91 s92 => kBind (e (.call (nat_lit 51) [v19, (.str (nat_lit 4) (nat_lit 1852139636))])) (fun v93 s94 => c95k137 e v19 v22 v89 v21 s94) s92) s90) s88

noncomputable def c95j162 (e : Ev) (v163 v164 v165 : AV) (s166 : St) : R AV :=
  kBind (e (.call (nat_lit 51) [v163, (.str (nat_lit 1) (nat_lit 41))])) (fun v167 s168 => kLoadN (nat_lit 9) v165 (fun v169 s170 => kStore (nat_lit 9) v164 v169 (fun v171 s172 => kLoadN (nat_lit 9) v164 (fun v173 s174 => .ok v173 s174) s172) s170) s168) s166

noncomputable def c95k217 (e : Ev) (v197 v143 v140 v142 : AV) (s200 : St) : R AV :=
  kFA (nat_lit 0) v197 (fun v201 s202 => kLoad1 v201 (fun v203 s204 => kFA (nat_lit 2) v143 (fun v205 s206 => kStore (nat_lit 1) v205 v203 (fun v207 s208 => kFA (nat_lit 1) v197 (fun v209 s210 => kLoad1 v209 (fun v211 s212 => kIf v211 (kFA (nat_lit 5) v143 (fun v213 s214 => kStore (nat_lit 1) v213 (.int .i64 (.ofNat (nat_lit 1))) (fun v215 s216 => c95j162 e v140 v142 v143 s216) s214) s212) (c95j162 e v140 v142 v143 s212)) s210) s208) s206) s204) s202) s200

noncomputable def c95k218 (e : Ev) (v185 v143 v140 v142 : AV) (s186 : St) : R AV :=
  kBuildSl [(.int .i64 (.ofNat (nat_lit 0))), (.int .i64 (.ofNat (nat_lit 0))), (.str (nat_lit 0) (nat_lit 0)), (.int .i64 (.ofNat (nat_lit 0))), (.int .i64 (.ofNat (nat_lit 0))), (.int .i64 (.ofNat (nat_lit 0))), (.int .i64 (.ofNat (nat_lit 0))), .nilslice, (.int .i64 (.ofNat (nat_lit 0)))] (nat_lit 1) [(some ((nat_lit 0), (nat_lit 9)), v185)] (fun v187 s188 => kFA (nat_lit 7) v143 (fun v189 s190 => kStore (nat_lit 1) v189 v187 (fun v191 s192 => kBind (e (.call (nat_lit 51) [v140, (.str (nat_lit 1) (nat_lit 44))])) (fun v193 s194 => kBind (e (.call (nat_lit 78) [v140])) (fun v195 s196 => kAlloc [(.str (nat_lit 0) (nat_lit 0)), (.bool false)] (fun v197 s198 => kStore (nat_lit 2) v197 v195 (fun v199 s200 => c95k217 e v197 v143 v140 v142 s200) s198) s196) s194) s192) s190) s188) s186

noncomputable def c95k259 (e : Ev) (v241 v245 v143 v140 v142 : AV) (r242 u243 r246 u247 : Nat) (s248 : St) : R AV :=
  kLg (fun k s => kBuildSl [(.int .i64 (.ofNat (nat_lit 0))), (.int .i64 (.ofNat (nat_lit 0))), (.str (nat_lit 0) (nat_lit 0)), (.int .i64 (.ofNat (nat_lit 0))), (.int .i64 (.ofNat (nat_lit 0))), (.int .i64 (.ofNat (nat_lit 0))), (.int .i64 (.ofNat (nat_lit 0))), .nilslice, (.int .i64 (.ofNat (nat_lit 0))), (.int .i64 (.ofNat (nat_lit 0))), (.int .i64 (.ofNat (nat_lit 0))), (.str (nat_lit 0) (nat_lit 0)), (.int .i64 (.ofNat (nat_lit 0))), (.int .i64 (.ofNat (nat_lit 0))), (.int .i64 (.ofNat (nat_lit 0))), (.int .i64 (.ofNat (nat_lit 0))), .nilslice, (.int .i64 (.ofNat (nat_lit 0)))] (nat_lit 2) [(some ((nat_lit 0), (nat_lit 9)), v241), (some ((nat_lit 9), (nat_lit 9)), v245)] k s) (fun v249 r250 u251 s252 => kFA (nat_lit 7) v143 (fun v253 s254 => kLg (fun k s => kStore (nat_lit 1) v253 v249 k s) (fun v255 r256 u257 s258 => ifb (kClash r242 u243 r246 u247 false) .fail (c95j162 e v140 v142 v143 s258)) s254) s252) s248

noncomputable def c95k260 (e : Ev) (v233 v140 v143 v142 : AV) (s234 : St) : R AV :=
  kAlloc [(.int .i64 (.ofNat (nat_lit 0))), (.int .i64 (.ofNat (nat_lit 0))), (.str (nat_lit 0) (nat_lit 0)), (.int .i64 (.ofNat (nat_lit 0))), (.int .i64 (.ofNat (nat_lit 0))), (.int .i64 (.ofNat (nat_lit 0))), (.int .i64 (.ofNat (nat_lit 0))), .nilslice, (.int .i64 (.ofNat (nat_lit 0)))] (fun v235 s236 => kStore (nat_lit 9) v235 v233 (fun v237 s238 => kBind (e (.call (nat_lit 51) [v140, (.str (nat_lit 1) (nat_lit 44))])) (fun v239 s240 => kLg (fun k s => kLoadN (nat_lit 9) v235 k s) (fun v241 r242 u243 s244 => kLg (fun k s => kBind (e (.call (nat_lit 80) [v140])) k s) (fun v245 r246 u247 s248 => c95k259 e v241 v245 v143 v140 v142 r242 u243 r246 u247 s248) s244) s240) s238) s236) s234

noncomputable def c95k285 (e : Ev) (v277 v143 v140 v142 : AV) (s278 : St) : R AV :=
  kBuildSl [(.int .i64 (.ofNat (nat_lit 0))), (.int .i64 (.ofNat (nat_lit 0))), (.str (nat_lit 0) (nat_lit 0)), (.int .i64 (.ofNat (nat_lit 0))), (.int .i64 (.ofNat (nat_lit 0))), (.int .i64 (.ofNat (nat_lit 0))), (.int .i64 (.ofNat (nat_lit 0))), .nilslice, (.int .i64 (.ofNat (nat_lit 0)))] (nat_lit 1) [(some ((nat_lit 0), (nat_lit 9)), v277)] (fun v279 s280 => kFA (nat_lit 7) v143 (fun v281 s282 => kStore (nat_lit 1) v281 v279 (fun v283 s284 => c95j162 e v140 v142 v143 s284) s282) s280) s278

noncomputable def c95k286 (e : Ev) (v140 v143 v142 : AV) (s266 : St) : R AV :=
  kBind (e (.call (nat_lit 76) [v140])) (fun v267 s268 => kBuild [(.int .i64 (.ofNat (nat_lit 0))), (.int .i64 (.ofNat (nat_lit 0)))] [(some ((nat_lit 0), (nat_lit 1)), v267)] (fun v269 s270 => kFA (nat_lit 3) v143 (fun v271 s272 => kStore (nat_lit 2) v271 v269 (fun v273 s274 => kBind (e (.call (nat_lit 51) [v140, (.str (nat_lit 1) (nat_lit 44))])) (fun v275 s276 => kBind (e (.call (nat_lit 80) [v140])) (fun v277 s278 => c95k285 e v277 v143 v140 v142 s278) s276) s274) s272) s270) s268) s266

noncomputable def c95k307 (e : Ev) (v289 v140 v143 v142 : AV) (s290 : St) : R AV :=
  kStore (nat_lit 1) v289 (.int .i64 (.ofNat (nat_lit 12))) (fun v291 s292 => kBind (e (.call (nat_lit 77) [v140])) (fun v293 s294 => kFA (nat_lit 5) v143 (fun v295 s296 => kStore (nat_lit 1) v295 v293 (fun v297 s298 => kBind (e (.call (nat_lit 51) [v140, (.str (nat_lit 1) (nat_lit 44))])) (fun v299 s300 => kBind (e (.call (nat_lit 77) [v140])) (fun v301 s302 => kFA (nat_lit 6) v143 (fun v303 s304 => kStore (nat_lit 1) v303 v301 (fun v305 s306 => c95j162 e v140 v142 v143 s306) s304) s302) s300) s298) s296) s294) s292) s290

noncomputable def c95k352 (e : Ev) (v334 v330 v143 v140 v142 : AV) (r331 u332 r335 u336 : Nat) (s337 : St) : R AV :=
  kLg (fun k s => kBuildSl [(.int .i64 (.ofNat (nat_lit 0))), (.int .i64 (.ofNat (nat_lit 0))), (.str (nat_lit 0) (nat_lit 0)), (.int .i64 (.ofNat (nat_lit 0))), (.int .i64 (.ofNat (nat_lit 0))), (.int .i64 (.ofNat (nat_lit 0))), (.int .i64 (.ofNat (nat_lit 0))), .nilslice, (.int .i64 (.ofNat (nat_lit 0)))] (nat_lit 1) [(some ((nat_lit 0), (nat_lit 9)), v334)] k s) (fun v338 r339 u340 s341 => kLg (fun k s => kApp (nat_lit 9) (nat_lit 96) v330 v338 k s) (fun v342 r343 u344 s345 => kFA (nat_lit 7) v143 (fun v346 s347 => kLg (fun k s => kStore (nat_lit 1) v346 v342 k s) (fun v348 r349 u350 s351 => ifb (kClash r331 u332 r335 u336 (kClash r331 u332 r339 u340 false)) .fail (c95j162 e v140 v142 v143 s351)) s347) s345) s341) s337

noncomputable def c95k353 (e : Ev) (v143 v320 v140 v142 : AV) (s321 : St) : R AV :=
  kFA (nat_lit 7) v143 (fun v322 s323 => kStore (nat_lit 1) v322 v320 (fun v324 s325 => kBind (e (.call (nat_lit 51) [v140, (.str (nat_lit 1) (nat_lit 44))])) (fun v326 s327 => kFA (nat_lit 7) v143 (fun v328 s329 => kLg (fun k s => kLoad1 v328 k s) (fun v330 r331 u332 s333 => kLg (fun k s => kBind (e (.call (nat_lit 80) [v140])) k s) (fun v334 r335 u336 s337 => c95k352 e v334 v330 v143 v140 v142 r331 u332 r335 u336 s337) s333) s329) s327) s325) s323) s321

noncomputable def c95k376 (e : Ev) (v360 v143 v140 v142 : AV) (s361 : St) : R AV :=
  kBuildSl [(.int .i64 (.ofNat (nat_lit 0))), (.int .i64 (.ofNat (nat_lit 0))), (.str (nat_lit 0) (nat_lit 0)), (.int .i64 (.ofNat (nat_lit 0))), (.int .i64 (.ofNat (nat_lit 0))), (.int .i64 (.ofNat (nat_lit 0))), (.int .i64 (.ofNat (nat_lit 0))), .nilslice, (.int .i64 (.ofNat (nat_lit 0)))] (nat_lit 1) [(some ((nat_lit 0), (nat_lit 9)), v360)] (fun v362 s363 => kFA (nat_lit 7) v143 (fun v364 s365 => kStore (nat_lit 1) v364 v362 (fun v366 s367 => kBind (e (.call (nat_lit 51) [v140, (.str (nat_lit 1) (nat_lit 44))])) (fun v368 s369 => kBind (e (.call (nat_lit 77) [v140])) (fun v370 s371 => kFA (nat_lit 5) v143 (fun v372 s373 => kStore (nat_lit 1) v372 v370 (fun v374 s375 => c95j162 e v140 v142 v143 s375) s373) s371) s369) s367) s365) s363) s361

noncomputable def c95k397 (e : Ev) (v140 v143 v142 : AV) (s382 : St) : R AV :=
  kBind (e (.call (nat_lit 52) [v140])) (fun v383 s384 => kFA (nat_lit 2) v143 (fun v385 s386 => kStore (nat_lit 1) v385 v383 (fun v387 s388 => kBind (e (.call (nat_lit 51) [v140, (.str (nat_lit 1) (nat_lit 44))])) (fun v389 s390 => kBind (e (.call (nat_lit 94) [v140, (.int .i64 (.ofNat (nat_lit 0)))])) (fun v391 s392 => kFA (nat_lit 7) v143 (fun v393 s394 => kStore (nat_lit 1) v393 v391 (fun v395 s396 => c95j162 e v140 v142 v143 s396) s394) s392) s390) s388) s386) s384) s382

noncomputable def c95k438 (e : Ev) (v420 v424 v143 v140 v142 : AV) (r421 u422 r425 u426 : Nat) (s427 : St) : R AV :=
  kLg (fun k s => kBuildSl [(.int .i64 (.ofNat (nat_lit 0))), (.int .i64 (.ofNat (nat_lit 0))), (.str (nat_lit 0) (nat_lit 0)), (.int .i64 (.ofNat (nat_lit 0))), (.int .i64 (.ofNat (nat_lit 0))), (.int .i64 (.ofNat (nat_lit 0))), (.int .i64 (.ofNat (nat_lit 0))), .nilslice, (.int .i64 (.ofNat (nat_lit 0))), (.int .i64 (.ofNat (nat_lit 0))), (.int .i64 (.ofNat (nat_lit 0))), (.str (nat_lit 0) (nat_lit 0)), (.int .i64 (.ofNat (nat_lit 0))), (.int .i64 (.ofNat (nat_lit 0))), (.int .i64 (.ofNat (nat_lit 0))), (.int .i64 (.ofNat (nat_lit 0))), .nilslice, (.int .i64 (.ofNat (nat_lit 0)))] (nat_lit 2) [(some ((nat_lit 0), (nat_lit 9)), v420), (some ((nat_lit 9), (nat_lit 9)), v424)] k s) (fun v428 r429 u430 s431 => kFA (nat_lit 7) v143 (fun v432 s433 => kLg (fun k s => kStore (nat_lit 1) v432 v428 k s) (fun v434 r435 u436 s437 => ifb (kClash r421 u422 r425 u426 false) .fail (c95j162 e v140 v142 v143 s437)) s433) s431) s427

noncomputable def c95k439 (e : Ev) (v412 v140 v143 v142 : AV) (s413 : St) : R AV :=
  kAlloc [(.int .i64 (.ofNat (nat_lit 0))), (.int .i64 (.ofNat (nat_lit 0))), (.str (nat_lit 0) (nat_lit 0)), (.int .i64 (.ofNat (nat_lit 0))), (.int .i64 (.ofNat (nat_lit 0))), (.int .i64 (.ofNat (nat_lit 0))), (.int .i64 (.ofNat (nat_lit 0))), .nilslice, (.int .i64 (.ofNat (nat_lit 0)))] (fun v414 s415 => kStore (nat_lit 9) v414 v412 (fun v416 s417 => kBind (e (.call (nat_lit 51) [v140, (.str (nat_lit 1) (nat_lit 44))])) (fun v418 s419 => kLg (fun k s => kLoadN (nat_lit 9) v414 k s) (fun v420 r421 u422 s423 => kLg (fun k s => kBind (e (.call (nat_lit 80) [v140])) k s) (fun v424 r425 u426 s427 => c95k438 e v420 v424 v143 v140 v142 r421 u422 r425 u426 s427) s423) s419) s417) s415) s413

noncomputable def c95k440 (e : Ev) (v143 v140 v142 : AV) (s399 : St) : R AV :=
  kFA (nat_lit 0) v143 (fun v400 s401 => kStore (nat_lit 1) v400 (.int .i64 (.ofNat (nat_lit 19))) (fun v402 s403 => kBind (e (.call (nat_lit 52) [v140])) (fun v404 s405 => kFA (nat_lit 2) v143 (fun v406 s407 => kStore (nat_lit 1) v406 v404 (fun v408 s409 => kBind (e (.call (nat_lit 51) [v140, (.str (nat_lit 1) (nat_lit 44))])) (fun v410 s411 => kBind (e (.call (nat_lit 80) [v140])) (fun v412 s413 => c95k439 e v412 v140 v143 v142 s413) s411) s409) s407) s405) s403) s401) s399

noncomputable def c95k441 (e : Ev) (v354 v143 v140 v142 v177 : AV) (s355 : St) : R AV :=
  kIf v354 (kFA (nat_lit 0) v143 (fun v356 s357 => kStore (nat_lit 1) v356 (.int .i64 (.ofNat (nat_lit 17))) (fun v358 s359 => kBind (e (.call (nat_lit 80) [v140])) (fun v360 s361 => c95k376 e v360 v143 v140 v142 s361) s359) s357) s355) (kEql Try.prog (nat_lit 9) v177 (.str (nat_lit 3) (nat_lit 7364973)) (fun v377 s378 => kIf v377 (kFA (nat_lit 0) v143 (fun v379 s380 => kStore (nat_lit 1) v379 (.int .i64 (.ofNat (nat_lit 18))) (fun v381 s382 => c95k397 e v140 v143 v142 s382) s380) s378) (kEql Try.prog (nat_lit 9) v177 (.str (nat_lit 4) (nat_lit 1684828006)) (fun v398 s399 => kIf v398 (c95k440 e v143 v140 v142 s399) (c95j162 e v140 v142 v143 s399)) s378)) s355)

noncomputable def c95k442 (e : Ev) (v308 v143 v140 v142 v177 : AV) (s309 : St) : R AV :=
  kIf v308 (kFA (nat_lit 0) v143 (fun v310 s311 => kStore (nat_lit 1) v310 (.int .i64 (.ofNat (nat_lit 14))) (fun v312 s313 => kBind (e (.call (nat_lit 52) [v140])) (fun v314 s315 => kFA (nat_lit 2) v143 (fun v316 s317 => kStore (nat_lit 1) v316 v314 (fun v318 s319 => kBind (e (.call (nat_lit 93) [v140])) (fun v320 s321 => c95k353 e v143 v320 v140 v142 s321) s319) s317) s315) s313) s311) s309) (kEql Try.prog (nat_lit 9) v177 (.str (nat_lit 3) (nat_lit 7366002)) (fun v354 s355 => c95k441 e v354 v143 v140 v142 v177 s355) s309)

noncomputable def c95k443 (e : Ev) (v261 v143 v140 v142 v177 : AV) (s262 : St) : R AV :=
  kIf v261 (kFA (nat_lit 0) v143 (fun v263 s264 => kStore (nat_lit 1) v263 (.int .i64 (.ofNat (nat_lit 11))) (fun v265 s266 => c95k286 e v140 v143 v142 s266) s264) s262) (kEql Try.prog (nat_lit 9) v177 (.str (nat_lit 4) (nat_lit 1801677172)) (fun v287 s288 => kIf v287 (kFA (nat_lit 0) v143 (fun v289 s290 => c95k307 e v289 v140 v143 v142 s290) s288) (kEql Try.prog (nat_lit 9) v177 (.str (nat_lit 5) (nat_lit 499918267762)) (fun v308 s309 => c95k442 e v308 v143 v140 v142 v177 s309) s288)) s262)

noncomputable def c95k444 (e : Ev) (v143 v140 v142 : AV) (s220 : St) : R AV :=
  kFA (nat_lit 0) v143 (fun v221 s222 => kStore (nat_lit 1) v221 (.int .i64 (.ofNat (nat_lit 10))) (fun v223 s224 => kBind (e (.call (nat_lit 52) [v140])) (fun v225 s226 => kFA (nat_lit 2) v143 (fun v227 s228 => kStore (nat_lit 1) v227 v225 (fun v229 s230 => kBind (e (.call (nat_lit 51) [v140, (.str (nat_lit 1) (nat_lit 44))])) (fun v231 s232 => kBind (e (.call (nat_lit 80) [v140])) (fun v233 s234 => c95k260 e v233 v140 v143 v142 s234) s232) s230) s228) s226) s224) s222) s220

noncomputable def c95k445 (e : Ev) (v179 v143 v140 v142 v177 : AV) (s180 : St) : R AV :=
  kIf v179 (kFA (nat_lit 0) v143 (fun v181 s182 => kStore (nat_lit 1) v181 (.int .i64 (.ofNat (nat_lit 9))) (fun v183 s184 => kBind (e (.call (nat_lit 80) [v140])) (fun v185 s186 => c95k218 e v185 v143 v140 v142 s186) s184) s182) s180) (kEql Try.prog (nat_lit 9) v177 (.str (nat_lit 5) (nat_lit 435527247213)) (fun v219 s220 => kIf v219 (c95k444 e v143 v140 v142 s220) (kEql Try.prog (nat_lit 9) v177 (.str (nat_lit 4) (nat_lit 1953718627)) (fun v261 s262 => c95k443 e v261 v143 v140 v142 v177 s262) s220)) s180)

noncomputable def c95k446 (e : Ev) (v150 v140 v141 v143 v142 : AV) (s151 : St) : R AV :=
  kAdd Try.prog (nat_lit 3) v150 (.int .i64 (.ofNat (nat_lit 1))) (fun v152 s153 => kNilCheck v140 (fun v154 s155 => kFA (nat_lit 1) v154 (fun v156 s157 => kStore (nat_lit 1) v156 v152 (fun v158 s159 => kBind (e (.call (nat_lit 51) [v140, (.str (nat_lit 1) (nat_lit 40))])) (fun v160 s161 => kFA (nat_lit 1) v141 (fun v175 s176 => kLoad1 v175 (fun v177 s178 => kEql Try.prog (nat_lit 9) v177 (.str (nat_lit 4) (nat_lit 1852139639)) (fun v179 s180 => c95k445 e v179 v143 v140 v142 v177 s180) s178) s176) s161) s159) s157) s155) s153) s151

noncomputable def c95j139 (e : Ev) (v140 v141 v142 v143 v144 : AV) (s145 : St) : R AV :=
  kIf v144 (kNilCheck v140 (fun v146 s147 => kFA (nat_lit 1) v146 (fun v148 s149 => kLoad1 v148 (fun v150 s151 => c95k446 e v150 v140 v141 v143 v142 s151) s149) s147) s145) (kBind (e (.call (nat_lit 39) [v140, (.int .i64 (.ofNat (nat_lit 12)))])) (fun v447 s448 => kLoadN (nat_lit 9) v143 (fun v449 s450 => kStore (nat_lit 9) v142 v449 (fun v451 s452 => kLoadN (nat_lit 9) v142 (fun v453 s454 => .ok v453 s454) s452) s450) s448) s145)

noncomputable def c95k471 (e : Ev) (v463 v19 v20 v21 v22 v23 : AV) (s464 : St) : R AV :=
  kIf v463 (c95j139 e v19 v20 v21 v22 v463 s464) (kEql Try.prog (nat_lit 9) v23 (.str (nat_lit 3) (nat_lit 7366002)) (fun v465 s466 => kIf v465 (c95j139 e v19 v20 v21 v22 v465 s466) (kEql Try.prog (nat_lit 9) v23 (.str (nat_lit 3) (nat_lit 7364973)) (fun v467 s468 => kIf v467 (c95j139 e v19 v20 v21 v22 v467 s468) (kEql Try.prog (nat_lit 9) v23 (.str (nat_lit 4) (nat_lit 1684828006)) (fun v469 s470 => c95j139 e v19 v20 v21 v22 v469 s470) s468)) s466)) s464)

noncomputable def c95k472 (e : Ev) (v457 v19 v20 v21 v22 v23 : AV) (s458 : St) : R AV :=
  kIf v457 (c95j139 e v19 v20 v21 v22 v457 s458) (kEql Try.prog (nat_lit 9) v23 (.str (nat_lit 4) (nat_lit 1953718627)) (fun v459 s460 => kIf v459 (c95j139 e v19 v20 v21 v22 v459 s460) (kEql Try.prog (nat_lit 9) v23 (.str (nat_lit 4) (nat_lit 1801677172)) (fun v461 s462 => kIf v461 (c95j139 e v19 v20 v21 v22 v461 s462) (kEql Try.prog (nat_lit 9) v23 (.str (nat_lit 5) (nat_lit 499918267762)) (fun v463 s464 => c95k471 e v463 v19 v20 v21 v22 v23 s464) s462)) s460)) s458)

noncomputable def c95k473 (e : Ev) (v71 v19 v22 v21 v23 v20 : AV) (s72 : St) : R AV :=
  kIf v71 (kNilCheck v19 (fun v73 s74 => kFA (nat_lit 1) v73 (fun v75 s76 => kLoad1 v75 (fun v77 s78 => kAdd Try.prog (nat_lit 3) v77 (.int .i64 (.ofNat (nat_lit 1))) (fun v79 s80 => kNilCheck v19 (fun v81 s82 => kFA (nat_lit 1) v81 (fun v83 s84 => kStore (nat_lit 1) v83 v79 (fun v85 s86 => kBind (e (.call (nat_lit 80) [v19])) (fun v87 s88 => c95k138 e v87 v19 v22 v21 s88) s86) s84) s82) s80) s78) s76) s74) s72) (kEql Try.prog (nat_lit 9) v23 (.str (nat_lit 4) (nat_lit 1852139639)) (fun v455 s456 => kIf v455 (c95j139 e v19 v20 v21 v22 v455 s456) (kEql Try.prog (nat_lit 9) v23 (.str (nat_lit 5) (nat_lit 435527247213)) (fun v457 s458 => c95k472 e v457 v19 v20 v21 v22 v23 s458) s456)) s72)

noncomputable def c95k474 (e : Ev) (v19 v22 v20 v21 : AV) (s25 : St) : R AV :=
  kNilCheck v19 (fun v26 s27 => kFA (nat_lit 1) v26 (fun v28 s29 => kLoad1 v28 (fun v30 s31 => kAdd Try.prog (nat_lit 3) v30 (.int .i64 (.ofNat (nat_lit 1))) (fun v32 s33 => kNilCheck v19 (fun v34 s35 => kFA (nat_lit 1) v34 (fun v36 s37 => kStore (nat_lit 1) v36 v32 (fun v38 s39 => kFA (nat_lit 0) v22 (fun v40 s41 => kStore (nat_lit 1) v40 (.int .i64 (.ofNat (nat_lit 1))) (fun v42 s43 => c95k70 e v22 v20 v21 s43) s41) s39) s37) s35) s33) s31) s29) s27) s25

noncomputable def c95j18 (e : Ev) (v19 v20 v21 v22 v23 v24 : AV) (s25 : St) : R AV :=
  kIf v24 (c95k474 e v19 v22 v20 v21 s25) (kEql Try.prog (nat_lit 9) v23 (.str (nat_lit 2) (nat_lit 26217)) (fun v71 s72 => c95k473 e v71 v19 v22 v21 v23 v20 s72) s25)

noncomputable def c95k479 (e : Ev) (v8 v0 a0 v2 : AV) (s9 : St) : R AV :=
  kAlloc [(.int .i64 (.ofNat (nat_lit 0))), (.int .i64 (.ofNat (nat_lit 0))), (.str (nat_lit 0) (nat_lit 0)), (.int .i64 (.ofNat (nat_lit 0))), (.int .i64 (.ofNat (nat_lit 0))), (.int .i64 (.ofNat (nat_lit 0))), (.int .i64 (.ofNat (nat_lit 0))), .nilslice, (.int .i64 (.ofNat (nat_lit 0)))] (fun v10 s11 => kStore (nat_lit 9) v10 v8 (fun v12 s13 => kFA (nat_lit 1) v0 (fun v14 s15 => kLoad1 v14 (fun v16 s17 => kEql Try.prog (nat_lit 9) v16 (.str (nat_lit 4) (nat_lit 1702195828)) (fun v475 s476 => kIf v475 (c95j18 e a0 v0 v2 v10 v16 v475 s476) (kEql Try.prog (nat_lit 9) v16 (.str (nat_lit 5) (nat_lit 435728179558)) (fun v477 s478 => c95j18 e a0 v0 v2 v10 v16 v477 s478) s476)) s17) s15) s13) s11) s9

noncomputable def c95k480 (e : Ev) (v0 a0 : AV) (s1 : St) : R AV :=
  kAlloc [(.int .i64 (.ofNat (nat_lit 0))), (.int .i64 (.ofNat (nat_lit 0))), (.str (nat_lit 0) (nat_lit 0)), (.int .i64 (.ofNat (nat_lit 0))), (.int .i64 (.ofNat (nat_lit 0))), (.int .i64 (.ofNat (nat_lit 0))), (.int .i64 (.ofNat (nat_lit 0))), .nilslice, (.int .i64 (.ofNat (nat_lit 0)))] (fun v2 s3 => kFA (nat_lit 5) v0 (fun v4 s5 => kLoad1 v4 (fun v6 s7 => kBuild [(.int .i64 (.ofNat (nat_lit 0))), (.int .i64 (.ofNat (nat_lit 0))), (.str (nat_lit 0) (nat_lit 0)), (.int .i64 (.ofNat (nat_lit 0))), (.int .i64 (.ofNat (nat_lit 0))), (.int .i64 (.ofNat (nat_lit 0))), (.int .i64 (.ofNat (nat_lit 0))), .nilslice, (.int .i64 (.ofNat (nat_lit 0)))] [(some ((nat_lit 8), (nat_lit 1)), v6)] (fun v8 s9 => c95k479 e v8 v0 a0 v2 s9) s7) s5) s3) s1

noncomputable def c95 (e : Ev) (a0 a1 : AV) (s9999 : St) : R AV :=
  kBox a1 (fun v0 s1 => c95k480 e v0 a0 s1) s9999

theorem c95_ok (ev : Task → M AV) (a0 a1 : AV) (s : St) : (stepN Try.prog ev (.call 95 [a0, a1])).run s = c95 (runs ev) a0 a1 s :=
  (call_is Try.prog (nt := (nat_lit 201)) Try.func95 rfl (by kernel_rfl) [a0, a1] (by kernel_rfl) (w_seq (w_seq (w_seq (w_seq (w_seq (w_seq (w_as (fun f s => c95j162 (runs ev) (f 0) (f 4) (f 5) s) w_any (fun _ _ => by kernel_rfl)) w_any) w_any) w_any) (w_seq (w_block (w_seq (w_as (fun f s => c95j18 (runs ev) (f 0) (f 3) (f 4) (f 5) (f 15) (f 19) s) (w_cond (w_seq (w_seq (w_seq (w_seq (w_as (fun f s => c95j50 (runs ev) (f 4) (f 5) s) w_any (fun _ _ => by kernel_rfl)) w_any) w_any) w_any) w_any) (w_seq (w_cond w_any (w_seq (w_as (fun f s => c95j139 (runs ev) (f 0) (f 3) (f 4) (f 5) (f 62) s) w_any (fun _ _ => by kernel_rfl)) w_any)) w_any)) (fun _ _ => by kernel_rfl)) w_any)) w_any)) w_any) w_any) s).trans (by kernel_rfl)

noncomputable def table : Tbl Try.prog :=
  Tbl.add Try.prog (Tbl.add Try.prog (Tbl.add Try.prog (Tbl.add Try.prog (Tbl.add Try.prog (Tbl.add Try.prog (Tbl.add Try.prog (Tbl.add Try.prog (Tbl.add Try.prog (Tbl.add Try.prog (Tbl.add Try.prog (Tbl.add Try.prog (Tbl.add Try.prog (Tbl.add Try.prog (Tbl.add Try.prog (Tbl.add Try.prog (Tbl.add Try.prog (Tbl.add Try.prog (Tbl.add Try.prog (Tbl.add Try.prog (Tbl.add Try.prog (Tbl.add Try.prog (Tbl.add Try.prog (Tbl.add Try.prog (Tbl.add Try.prog (Tbl.add Try.prog (Tbl.add Try.prog (Tbl.add Try.prog (Tbl.add Try.prog (Tbl.add Try.prog (Tbl.add Try.prog (Tbl.add Try.prog (Tbl.add Try.prog (Tbl.add Try.prog (Tbl.add Try.prog (Tbl.add Try.prog (Tbl.add Try.prog (Tbl.add Try.prog (Tbl.add Try.prog (Tbl.add Try.prog (Tbl.add Try.prog (Tbl.add Try.prog (Tbl.add Try.prog (Tbl.add Try.prog (Tbl.add Try.prog (Tbl.add Try.prog (Tbl.add Try.prog (Tbl.add Try.prog (Tbl.add Try.prog (Tbl.add Try.prog (Tbl.add Try.prog (Tbl.add Try.prog (Tbl.add Try.prog (Tbl.add Try.prog (Tbl.add Try.prog (Tbl.add Try.prog (Tbl.add Try.prog (Tbl.add Try.prog (Tbl.add Try.prog (Tbl.add Try.prog (Tbl.add Try.prog (Tbl.add Try.prog (Tbl.add Try.prog (Tbl.add Try.prog (Tbl.add Try.prog (Tbl.add Try.prog (Tbl.add Try.prog (Tbl.add Try.prog (Tbl.add Try.prog (Tbl.add Try.prog (Tbl.add Try.prog (Tbl.add Try.prog (Tbl.add Try.prog (Tbl.add Try.prog (Tbl.add Try.prog (Tbl.add Try.prog (Tbl.add Try.prog (Tbl.add Try.prog (Tbl.add Try.prog (Tbl.add Try.prog (Tbl.add Try.prog (Tbl.add Try.prog (Tbl.add Try.prog (Tbl.add Try.prog (Tbl.add Try.prog (Tbl.add Try.prog (Tbl.add Try.prog (Tbl.add Try.prog (Tbl.add Try.prog (Tbl.add Try.prog (Tbl.nil Try.prog)
    (nat_lit 95) (ar2 Try.prog (nat_lit 95) c95) (ar2_ok Try.prog c95_ok))
    (nat_lit 94) (ar2 Try.prog (nat_lit 94) c94) (ar2_ok Try.prog c94_ok))
    (nat_lit 93) (ar1 Try.prog (nat_lit 93) c93) (ar1_ok Try.prog c93_ok))
    (nat_lit 92) (ar1 Try.prog (nat_lit 92) c92) (ar1_ok Try.prog c92_ok))
    (nat_lit 91) (ar2 Try.prog (nat_lit 91) c91) (ar2_ok Try.prog c91_ok))
    (nat_lit 90) (ar1 Try.prog (nat_lit 90) c90) (ar1_ok Try.prog c90_ok))
    (nat_lit 89) (ar2 Try.prog (nat_lit 89) c89) (ar2_ok Try.prog c89_ok))
    (nat_lit 88) (ar1 Try.prog (nat_lit 88) c88) (ar1_ok Try.prog c88_ok))
    (nat_lit 87) (ar2 Try.prog (nat_lit 87) c87) (ar2_ok Try.prog c87_ok))
    (nat_lit 86) (ar1 Try.prog (nat_lit 86) c86) (ar1_ok Try.prog c86_ok))
    (nat_lit 85) (ar4 Try.prog (nat_lit 85) c85) (ar4_ok Try.prog c85_ok))
    (nat_lit 84) (ar1 Try.prog (nat_lit 84) c84) (ar1_ok Try.prog c84_ok))
    (nat_lit 83) (ar1 Try.prog (nat_lit 83) c83) (ar1_ok Try.prog c83_ok))
    (nat_lit 82) (ar1 Try.prog (nat_lit 82) c82) (ar1_ok Try.prog c82_ok))
    (nat_lit 81) (ar2 Try.prog (nat_lit 81) c81) (ar2_ok Try.prog c81_ok))
    (nat_lit 80) (ar1 Try.prog (nat_lit 80) c80) (ar1_ok Try.prog c80_ok))
    (nat_lit 79) (ar1 Try.prog (nat_lit 79) c79) (ar1_ok Try.prog c79_ok))
    (nat_lit 78) (ar1 Try.prog (nat_lit 78) c78) (ar1_ok Try.prog c78_ok))
    (nat_lit 77) (ar1 Try.prog (nat_lit 77) c77) (ar1_ok Try.prog c77_ok))
    (nat_lit 76) (ar1 Try.prog (nat_lit 76) c76) (ar1_ok Try.prog c76_ok))
    (nat_lit 75) (ar1 Try.prog (nat_lit 75) c75) (ar1_ok Try.prog c75_ok))
    (nat_lit 74) (ar3 Try.prog (nat_lit 74) c74) (ar3_ok Try.prog c74_ok))
    (nat_lit 73) (ar3 Try.prog (nat_lit 73) c73) (ar3_ok Try.prog c73_ok))
    (nat_lit 72) (ar3 Try.prog (nat_lit 72) c72) (ar3_ok Try.prog c72_ok))
    (nat_lit 71) (ar3 Try.prog (nat_lit 71) c71) (ar3_ok Try.prog c71_ok))
    (nat_lit 70) (ar4 Try.prog (nat_lit 70) c70) (ar4_ok Try.prog c70_ok))
    (nat_lit 69) (ar2 Try.prog (nat_lit 69) c69) (ar2_ok Try.prog c69_ok))
    (nat_lit 68) (ar1 Try.prog (nat_lit 68) c68) (ar1_ok Try.prog c68_ok))
    (nat_lit 67) (ar1 Try.prog (nat_lit 67) c67) (ar1_ok Try.prog c67_ok))
    (nat_lit 66) (ar1 Try.prog (nat_lit 66) c66) (ar1_ok Try.prog c66_ok))
    (nat_lit 65) (ar2 Try.prog (nat_lit 65) c65) (ar2_ok Try.prog c65_ok))
    (nat_lit 64) (ar2 Try.prog (nat_lit 64) c64) (ar2_ok Try.prog c64_ok))
    (nat_lit 63) (ar1 Try.prog (nat_lit 63) c63) (ar1_ok Try.prog c63_ok))
    (nat_lit 62) (ar1 Try.prog (nat_lit 62) c62) (ar1_ok Try.prog c62_ok))
    (nat_lit 60) (ar2 Try.prog (nat_lit 60) c60) (ar2_ok Try.prog c60_ok))
    (nat_lit 59) (ar2 Try.prog (nat_lit 59) c59) (ar2_ok Try.prog c59_ok))
    (nat_lit 58) (ar3 Try.prog (nat_lit 58) c58) (ar3_ok Try.prog c58_ok))
    (nat_lit 56) (ar1 Try.prog (nat_lit 56) c56) (ar1_ok Try.prog c56_ok))
    (nat_lit 55) (ar1 Try.prog (nat_lit 55) c55) (ar1_ok Try.prog c55_ok))
    (nat_lit 54) (ar2 Try.prog (nat_lit 54) c54) (ar2_ok Try.prog c54_ok))
    (nat_lit 53) (ar1 Try.prog (nat_lit 53) c53) (ar1_ok Try.prog c53_ok))
    (nat_lit 52) (ar1 Try.prog (nat_lit 52) c52) (ar1_ok Try.prog c52_ok))
    (nat_lit 51) (ar2 Try.prog (nat_lit 51) c51) (ar2_ok Try.prog c51_ok))
    (nat_lit 50) (ar2 Try.prog (nat_lit 50) c50) (ar2_ok Try.prog c50_ok))
    (nat_lit 49) (ar2 Try.prog (nat_lit 49) c49) (ar2_ok Try.prog c49_ok))
    (nat_lit 48) (ar1 Try.prog (nat_lit 48) c48) (ar1_ok Try.prog c48_ok))
    (nat_lit 47) (ar1 Try.prog (nat_lit 47) c47) (ar1_ok Try.prog c47_ok))
    (nat_lit 46) (ar1 Try.prog (nat_lit 46) c46) (ar1_ok Try.prog c46_ok))
    (nat_lit 45) (ar1 Try.prog (nat_lit 45) c45) (ar1_ok Try.prog c45_ok))
    (nat_lit 44) (ar1 Try.prog (nat_lit 44) c44) (ar1_ok Try.prog c44_ok))
    (nat_lit 43) (ar3 Try.prog (nat_lit 43) c43) (ar3_ok Try.prog c43_ok))
    (nat_lit 42) (ar3 Try.prog (nat_lit 42) c42) (ar3_ok Try.prog c42_ok))
    (nat_lit 41) (ar1 Try.prog (nat_lit 41) c41) (ar1_ok Try.prog c41_ok))
    (nat_lit 40) (ar3 Try.prog (nat_lit 40) c40) (ar3_ok Try.prog c40_ok))
    (nat_lit 39) (ar2 Try.prog (nat_lit 39) c39) (ar2_ok Try.prog c39_ok))
    (nat_lit 38) (ar2 Try.prog (nat_lit 38) c38) (ar2_ok Try.prog c38_ok))
    (nat_lit 37) (ar1 Try.prog (nat_lit 37) c37) (ar1_ok Try.prog c37_ok))
    (nat_lit 36) (ar2 Try.prog (nat_lit 36) c36) (ar2_ok Try.prog c36_ok))
    (nat_lit 35) (ar2 Try.prog (nat_lit 35) c35) (ar2_ok Try.prog c35_ok))
    (nat_lit 34) (ar2 Try.prog (nat_lit 34) c34) (ar2_ok Try.prog c34_ok))
    (nat_lit 33) (ar3 Try.prog (nat_lit 33) c33) (ar3_ok Try.prog c33_ok))
    (nat_lit 32) (ar3 Try.prog (nat_lit 32) c32) (ar3_ok Try.prog c32_ok))
    (nat_lit 31) (ar3 Try.prog (nat_lit 31) c31) (ar3_ok Try.prog c31_ok))
    (nat_lit 30) (ar3 Try.prog (nat_lit 30) c30) (ar3_ok Try.prog c30_ok))
    (nat_lit 29) (ar3 Try.prog (nat_lit 29) c29) (ar3_ok Try.prog c29_ok))
    (nat_lit 28) (ar1 Try.prog (nat_lit 28) c28) (ar1_ok Try.prog c28_ok))
    (nat_lit 27) (ar1 Try.prog (nat_lit 27) c27) (ar1_ok Try.prog c27_ok))
    (nat_lit 26) (ar1 Try.prog (nat_lit 26) c26) (ar1_ok Try.prog c26_ok))
    (nat_lit 25) (ar1 Try.prog (nat_lit 25) c25) (ar1_ok Try.prog c25_ok))
    (nat_lit 24) (ar1 Try.prog (nat_lit 24) c24) (ar1_ok Try.prog c24_ok))
    (nat_lit 23) (ar1 Try.prog (nat_lit 23) c23) (ar1_ok Try.prog c23_ok))
    (nat_lit 21) (ar2 Try.prog (nat_lit 21) c21) (ar2_ok Try.prog c21_ok))
    (nat_lit 20) (ar1 Try.prog (nat_lit 20) c20) (ar1_ok Try.prog c20_ok))
    (nat_lit 19) (ar1 Try.prog (nat_lit 19) c19) (ar1_ok Try.prog c19_ok))
    (nat_lit 17) (ar1 Try.prog (nat_lit 17) c17) (ar1_ok Try.prog c17_ok))
    (nat_lit 16) (ar1 Try.prog (nat_lit 16) c16) (ar1_ok Try.prog c16_ok))
    (nat_lit 15) (ar2 Try.prog (nat_lit 15) c15) (ar2_ok Try.prog c15_ok))
    (nat_lit 14) (ar1 Try.prog (nat_lit 14) c14) (ar1_ok Try.prog c14_ok))
    (nat_lit 13) (ar1 Try.prog (nat_lit 13) c13) (ar1_ok Try.prog c13_ok))
    (nat_lit 12) (ar1 Try.prog (nat_lit 12) c12) (ar1_ok Try.prog c12_ok))
    (nat_lit 11) (ar1 Try.prog (nat_lit 11) c11) (ar1_ok Try.prog c11_ok))
    (nat_lit 10) (ar1 Try.prog (nat_lit 10) c10) (ar1_ok Try.prog c10_ok))
    (nat_lit 9) (ar1 Try.prog (nat_lit 9) c9) (ar1_ok Try.prog c9_ok))
    (nat_lit 8) (ar0 Try.prog (nat_lit 8) c8) (ar0_ok Try.prog c8_ok))
    (nat_lit 7) (ar2 Try.prog (nat_lit 7) c7) (ar2_ok Try.prog c7_ok))
    (nat_lit 6) (ar1 Try.prog (nat_lit 6) c6) (ar1_ok Try.prog c6_ok))
    (nat_lit 5) (ar1 Try.prog (nat_lit 5) c5) (ar1_ok Try.prog c5_ok))
    (nat_lit 4) (ar3 Try.prog (nat_lit 4) c4) (ar3_ok Try.prog c4_ok))
    (nat_lit 3) (ar1 Try.prog (nat_lit 3) c3) (ar1_ok Try.prog c3_ok))
    (nat_lit 2) (ar0 Try.prog (nat_lit 2) c2) (ar0_ok Try.prog c2_ok)

end Go.Proofs.YtlonlfiaclacdaaK
