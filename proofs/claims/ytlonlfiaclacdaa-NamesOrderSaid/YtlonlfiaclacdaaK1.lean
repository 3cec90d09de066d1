/-
  Functions of the program, written out for the kernel by a program of this repo (Gen.lean), each proved to be what the evaluator computes.
-/
import Derived.Test.YtlonlfiaclacdaaAb24
import Derived.Test.YtlonlfiaclacdaaProg
import Derived.KernelRfl
open Go.Ab
set_option linter.unusedVariables false
set_option maxRecDepth 100000
namespace Go.Proofs.YtlonlfiaclacdaaK

noncomputable def c2 (e : Ev) (s9999 : St) : R AV :=
  kBind (callValR Try.prog e (.func (.func (nat_lit 1)) [] []) []) (fun v0 s1 => .ok (.tuple []) s1) s9999

theorem c2_ok (ev : Task → M AV) (s : St) : (stepN Try.prog ev (.call 2 [])).run s = c2 (runs ev)  s :=
  (call_is Try.prog (nt := (nat_lit 1)) Try.func2 rfl (by kernel_rfl) [] (by kernel_rfl) w_any s).trans (by kernel_rfl)

noncomputable def c3k66 (e : Ev) (v48 v44 v4 a0 : AV) (s49 : St) : R AV :=
  kEql Try.prog (nat_lit 3) v48 (.int .i64 (.ofNat (nat_lit 20))) (fun v50 s51 => kIf1 v50 (fun k s => kMv v44 k s) (fun v52 s53 => kIf1 v50 (fun k s => kMv v4 k s) (fun v54 s55 => kIf1 v50 (fun k s => kMv a0 k s) (fun v56 s57 => kIf1 v50 (fun k s => kIA (nat_lit 1) v54 v56 k s) (fun v58 s59 => kIf1 v50 (fun k s => kLoad1 v58 k s) (fun v60 s61 => kIf1 v50 (fun k s => kEql Try.prog (nat_lit 3) v52 v60 k s) (fun v62 s63 => kPick v50 v62 (.bool false) (fun v64 s65 => .ok v64 s65) s63) s61) s59) s57) s55) s53) s51) s49

noncomputable def c3k67 (e : Ev) (v28 v30 v4 a0 : AV) (s31 : St) : R AV :=
  kExt (nat_lit 1) v28 (fun v32 s33 => kAlloc [.nilslice] (fun v34 s35 => kStore (nat_lit 1) v34 v30 (fun v36 s37 => kNot v32 (fun v38 s39 => kIf v38 (.ok (.bool false) s39) (kLoadN (nat_lit 1) v34 (fun v40 s41 => kBind (e (.call (nat_lit 10) [v40])) (fun v42 s43 => kExt (nat_lit 0) v42 (fun v44 s45 => kExt (nat_lit 1) v42 (fun v46 s47 => kBind (e (.call (nat_lit 11) [v46])) (fun v48 s49 => c3k66 e v48 v44 v4 a0 s49) s47) s45) s43) s41) s39)) s37) s35) s33) s31

noncomputable def c3k68 (e : Ev) (v12 v2 v14 v0 a0 v4 : AV) (s15 : St) : R AV :=
  kIf0 v12 (fun k s => kMv v2 k s) (fun v16 s17 => kIf0 v12 (fun k s => kLenL v16 k s) (fun v18 s19 => kIf0 v12 (fun k s => kGeq Try.prog (nat_lit 3) v14 v18 k s) (fun v20 s21 => kPick v12 (.bool true) v20 (fun v22 s23 => kIf v22 (.ok v0 s23) (kIA (nat_lit 1) v2 a0 (fun v24 s25 => kLoad1 v24 (fun v26 s27 => kBind (e (.call (nat_lit 9) [v26])) (fun v28 s29 => kExt (nat_lit 0) v28 (fun v30 s31 => c3k67 e v28 v30 v4 a0 s31) s29) s27) s25) s23)) s21) s19) s17) s15

noncomputable def c3k69 (e : Ev) (v0 a0 v2 : AV) (s3 : St) : R AV :=
  kBuildSl [(.int .i64 (.ofNat (nat_lit 0))), (.int .i64 (.ofNat (nat_lit 0))), (.int .i64 (.ofNat (nat_lit 0))), (.int .i64 (.ofNat (nat_lit 0))), (.int .i64 (.ofNat (nat_lit 0))), (.int .i64 (.ofNat (nat_lit 0))), (.int .i64 (.ofNat (nat_lit 0))), (.int .i64 (.ofNat (nat_lit 0)))] (nat_lit 8) [(some ((nat_lit 0), (nat_lit 1)), (.int .i64 (.ofNat (nat_lit 14)))), (some ((nat_lit 1), (nat_lit 1)), (.int .i64 (.ofNat (nat_lit 23)))), (some ((nat_lit 2), (nat_lit 1)), (.int .i64 (.ofNat (nat_lit 38)))), (some ((nat_lit 3), (nat_lit 1)), (.int .i64 (.ofNat (nat_lit 42)))), (some ((nat_lit 4), (nat_lit 1)), (.int .i64 (.ofNat (nat_lit 59)))), (some ((nat_lit 5), (nat_lit 1)), (.int .i64 (.ofNat (nat_lit 51)))), (some ((nat_lit 6), (nat_lit 1)), (.int .i64 (.ofNat (nat_lit 38)))), (some ((nat_lit 7), (nat_lit 1)), (.int .i64 (.ofNat (nat_lit 37))))] (fun v4 s5 => kNot v0 (fun v6 s7 => kIf0 v6 (fun k s => kMv a0 k s) (fun v8 s9 => kIf0 v6 (fun k s => kLss Try.prog (nat_lit 3) v8 (.int .i64 (.ofNat (nat_lit 0))) k s) (fun v10 s11 => kPick v6 (.bool true) v10 (fun v12 s13 => kIf0 v12 (fun k s => kMv a0 k s) (fun v14 s15 => c3k68 e v12 v2 v14 v0 a0 v4 s15) s13) s11) s9) s7) s5) s3

noncomputable def c3k70 (e : Ev) (v0 a0 : AV) (s1 : St) : R AV :=
  kBuildSl [(.str (nat_lit 0) (nat_lit 0)), (.str (nat_lit 0) (nat_lit 0)), (.str (nat_lit 0) (nat_lit 0)), (.str (nat_lit 0) (nat_lit 0)), (.str (nat_lit 0) (nat_lit 0)), (.str (nat_lit 0) (nat_lit 0)), (.str (nat_lit 0) (nat_lit 0)), (.str (nat_lit 0) (nat_lit 0))] (nat_lit 8) [(some ((nat_lit 0), (nat_lit 1)), (.str (nat_lit 51) (nat_lit 279906340699324167684758758638306258955594636169247214608575288784190656574228996034456109109070395443701875301384234233710))), (some ((nat_lit 1), (nat_lit 1)), (.str (nat_lit 44) (nat_lit 3884480802287040397468540095871417972031768615133305149691572312580003372895198025434147494386083127652206))), (some ((nat_lit 2), (nat_lit 1)), (.str (nat_lit 50) (nat_lit 1093384143356150508714817590597874811195359896126260845640517525266049428929070312925477926593969447975550018686642581358))), (some ((nat_lit 3), (nat_lit 1)), (.str (nat_lit 83) (nat_lit 32410939980329447276552795148312715603786395648116183343567147460395060446868908604163864488504263772996080570688556236456505638863550352584226391298989633990598342380754202508564272062718947973427054))), (some ((nat_lit 4), (nat_lit 1)), (.str (nat_lit 86) (nat_lit 543765340861156564240577826869323160140834779663888779393364870069888612880731318851006176181838697810360581407789626624027444921045275195718548190036886835687193786271700171026071129117388615052566655692654))), (some ((nat_lit 5), (nat_lit 1)), (.str (nat_lit 77) (nat_lit 115146789821091168247921381941246227919235868502503248100219270461839493421264177576415294852362676537579993186831877984205685900135824985206224567687458372984815466590433301645668675438))), (some ((nat_lit 6), (nat_lit 1)), (.str (nat_lit 75) (nat_lit 1757000577104052249876730071124972960193418403664105221403428826433526497404362911481484854623947540506764782827744958621110346127467376893307085634497228602799167614040921101070190))), (some ((nat_lit 7), (nat_lit 1)), (.str (nat_lit 65) (nat_lit 1453356813497080042999909565785515799315569011835074184996213310202386395793498373701813993943424138468308190163080153207579532677024297547917132880249384814)))] (fun v2 s3 => c3k69 e v0 a0 v2 s3) s1

noncomputable def c3 (e : Ev) (a0 : AV) (s9999 : St) : R AV :=
  kBind (e (.call (nat_lit 8) [])) (fun v0 s1 => c3k70 e v0 a0 s1) s9999

theorem c3_ok (ev : Task → M AV) (a0 : AV) (s : St) : (stepN Try.prog ev (.call 3 [a0])).run s = c3 (runs ev) a0 s :=
  (call_is Try.prog (nt := (nat_lit 52)) Try.func3 rfl (by kernel_rfl) [a0] (by kernel_rfl) w_any s).trans (by kernel_rfl)

noncomputable def c4k94 (e : Ev) (v70 v68 v66 v48 : AV) (s71 : St) : R AV :=
  kIf v70 (kBind (e (.call (nat_lit 11) [v68])) (fun v72 s73 => kEql Try.prog (nat_lit 3) v72 (.int .i64 (.ofNat (nat_lit 0))) (fun v74 s75 => kIf1 v74 (fun k s => kMv v66 k s) (fun v76 s77 => kIf1 v74 (fun k s => kEql Try.prog (nat_lit 3) v76 (.int .i64 (.ofNat (nat_lit 0))) k s) (fun v78 s79 => kPick v74 v78 (.bool false) (fun v80 s81 => .ok v80 s81) s79) s77) s75) s73) s71) (kBind (e (.call (nat_lit 11) [v68])) (fun v82 s83 => kEql Try.prog (nat_lit 3) v82 (.int .i64 (.ofNat (nat_lit 21))) (fun v84 s85 => kIf1 v84 (fun k s => kMv v66 k s) (fun v86 s87 => kIf1 v84 (fun k s => kMv v48 k s) (fun v88 s89 => kIf1 v84 (fun k s => kEql Try.prog (nat_lit 3) v86 v88 k s) (fun v90 s91 => kPick v84 v90 (.bool false) (fun v92 s93 => .ok v92 s93) s91) s89) s87) s85) s83) s71)

noncomputable def c4k95 (e : Ev) (v50 v52 v46 v45 v48 : AV) (s53 : St) : R AV :=
  kExt (nat_lit 1) v50 (fun v54 s55 => kAlloc [.nilslice] (fun v56 s57 => kStore (nat_lit 1) v56 v52 (fun v58 s59 => kNot v54 (fun v60 s61 => kIf v60 (.ok (.bool false) s61) (kLoadN (nat_lit 1) v56 (fun v62 s63 => kBind (e (.call (nat_lit 10) [v62])) (fun v64 s65 => kExt (nat_lit 0) v64 (fun v66 s67 => kExt (nat_lit 1) v64 (fun v68 s69 => kLss Try.prog (nat_lit 3) v46 v45 (fun v70 s71 => c4k94 e v70 v68 v66 v48 s71) s69) s67) s65) s63) s61)) s59) s57) s55) s53

noncomputable def c4j44 (e : Ev) (v45 v46 v47 v48 : AV) (s49 : St) : R AV :=
  kBind (e (.call (nat_lit 9) [v47])) (fun v50 s51 => kExt (nat_lit 0) v50 (fun v52 s53 => c4k95 e v50 v52 v46 v45 v48 s53) s51) s49

noncomputable def c4j108 (e : Ev) (w97 : AV → AV → AV → AV → AV → AV → St → R AV) (v109 v110 v111 v112 v113 v114 : AV) (s115 : St) : R AV :=
  kAdd Try.prog (nat_lit 3) v114 (.int .i64 (.ofNat (nat_lit 1))) (fun v116 s117 => w97 v109 v110 v111 v112 v113 v116 s117) s115

noncomputable def c4k146 (e : Ev) (w97 : AV → AV → AV → AV → AV → AV → St → R AV) (v134 v101 v99 v100 v132 v104 : AV) (s135 : St) : R AV :=
  kAddS Try.prog (nat_lit 9) v134 (.str (nat_lit 1) (nat_lit 110)) (fun v136 s137 => kAdd Try.prog (nat_lit 3) v101 (.int .i64 (.ofNat (nat_lit 1))) (fun v138 s139 => kSliceS (.str (nat_lit 10) (nat_lit 270211885617516653982000)) (some v101) (some v138) (fun v140 s141 => kAddS Try.prog (nat_lit 9) v136 v140 (fun v142 s143 => kAddS Try.prog (nat_lit 9) v142 (.str (nat_lit 9) (nat_lit 192278217547619858472)) (fun v144 s145 => c4j108 e w97 v99 v100 v101 v144 v132 v104 s145) s143) s141) s139) s137) s135

noncomputable def c4k151 (e : Ev) (w97 : AV → AV → AV → AV → AV → AV → St → R AV) (v126 v102 v124 v101 v99 v100 v104 v103 : AV) (s127 : St) : R AV :=
  kIf v126 (kLenS v102 (fun v128 s129 => kLenS v124 (fun v130 s131 => kAdd Try.prog (nat_lit 3) v128 v130 (fun v132 s133 => kAddS Try.prog (nat_lit 9) v102 v124 (fun v134 s135 => c4k146 e w97 v134 v101 v99 v100 v132 v104 s135) s133) s131) s129) s127) (kAddS Try.prog (nat_lit 9) v102 v124 (fun v147 s148 => kAddS Try.prog (nat_lit 9) v147 (.str (nat_lit 7) (nat_lit 2933932762872696)) (fun v149 s150 => c4j108 e w97 v99 v100 v101 v149 v103 v104 s150) s148) s127)

noncomputable def c4k152 (e : Ev) (w97 : AV → AV → AV → AV → AV → AV → St → R AV) (v104 v118 v100 v102 v101 v99 v103 : AV) (s119 : St) : R AV :=
  kSliceS (.str (nat_lit 10) (nat_lit 270211885617516653982000)) (some v104) (some v118) (fun v120 s121 => kAddS Try.prog (nat_lit 9) (.str (nat_lit 6) (nat_lit 121085419089774)) v120 (fun v122 s123 => kAddS Try.prog (nat_lit 9) v122 (.str (nat_lit 32) (nat_lit 14582012947070525840333755712338888463299179141649056798577951883612810541096)) (fun v124 s125 => kEql Try.prog (nat_lit 3) v104 v100 (fun v126 s127 => c4k151 e w97 v126 v102 v124 v101 v99 v100 v104 v103 s127) s125) s123) s121) s119

noncomputable def c4l96b (e : Ev) (w97 : AV → AV → AV → AV → AV → AV → St → R AV) (v99 v100 v101 v102 v103 v104 : AV) (s105 : St) : R AV :=
  kLss Try.prog (nat_lit 3) v104 v99 (fun v106 s107 => kIf v106 (kAdd Try.prog (nat_lit 3) v104 (.int .i64 (.ofNat (nat_lit 1))) (fun v118 s119 => c4k152 e w97 v104 v118 v100 v102 v101 v99 v103 s119) s107) (c4j44 e v100 v101 v102 v103 s107)) s105

noncomputable def c4l96 (e : Ev) (n : Nat) : AV → AV → AV → AV → AV → AV → St → R AV :=
  @Nat.rec (fun _ => AV → AV → AV → AV → AV → AV → St → R AV) (fun _ _ _ _ _ _ _ => .fail) (fun _ w => c4l96b e w) n

noncomputable def c4k153 (e : Ev) (v28 v30 a2 a0 v0 a1 : AV) (s31 : St) : R AV :=
  kIf0 v28 (fun k s => kLss Try.prog (nat_lit 3) v30 (.int .i64 (.ofNat (nat_lit 0))) k s) (fun v32 s33 => kPick v28 (.bool true) v32 (fun v34 s35 => kIf0 v34 (fun k s => kMv a2 k s) (fun v36 s37 => kIf0 v34 (fun k s => kMv a0 k s) (fun v38 s39 => kIf0 v34 (fun k s => kGtr Try.prog (nat_lit 3) v36 v38 k s) (fun v40 s41 => kPick v34 (.bool true) v40 (fun v42 s43 => kIf v42 (.ok v0 s43) (c4l96 e fuelN a0 a1 a2 (.str (nat_lit 0) (nat_lit 0)) (.int .i64 (.ofNat (nat_lit 0))) (.int .i64 (.ofNat (nat_lit 0))) s43)) s41) s39) s37) s35) s33) s31

noncomputable def c4k154 (e : Ev) (v14 v16 a1 a0 a2 v0 : AV) (s17 : St) : R AV :=
  kIf0 v14 (fun k s => kLss Try.prog (nat_lit 3) v16 (.int .i64 (.ofNat (nat_lit 0))) k s) (fun v18 s19 => kPick v14 (.bool true) v18 (fun v20 s21 => kIf0 v20 (fun k s => kMv a1 k s) (fun v22 s23 => kIf0 v20 (fun k s => kMv a0 k s) (fun v24 s25 => kIf0 v20 (fun k s => kGeq Try.prog (nat_lit 3) v22 v24 k s) (fun v26 s27 => kPick v20 (.bool true) v26 (fun v28 s29 => kIf0 v28 (fun k s => kMv a2 k s) (fun v30 s31 => c4k153 e v28 v30 a2 a0 v0 a1 s31) s29) s27) s25) s23) s21) s19) s17

noncomputable def c4k155 (e : Ev) (v2 a0 a1 a2 v0 : AV) (s3 : St) : R AV :=
  kIf0 v2 (fun k s => kMv a0 k s) (fun v4 s5 => kIf0 v2 (fun k s => kLss Try.prog (nat_lit 3) v4 (.int .i64 (.ofNat (nat_lit 1))) k s) (fun v6 s7 => kPick v2 (.bool true) v6 (fun v8 s9 => kIf0 v8 (fun k s => kMv a0 k s) (fun v10 s11 => kIf0 v8 (fun k s => kGtr Try.prog (nat_lit 3) v10 (.int .i64 (.ofNat (nat_lit 9))) k s) (fun v12 s13 => kPick v8 (.bool true) v12 (fun v14 s15 => kIf0 v14 (fun k s => kMv a1 k s) (fun v16 s17 => c4k154 e v14 v16 a1 a0 a2 v0 s17) s15) s13) s11) s9) s7) s5) s3

noncomputable def c4 (e : Ev) (a0 a1 a2 : AV) (s9999 : St) : R AV :=
  kBind (e (.call (nat_lit 8) [])) (fun v0 s1 => kNot v0 (fun v2 s3 => c4k155 e v2 a0 a1 a2 v0 s3) s1) s9999

theorem c4_ok (ev : Task → M AV) (a0 a1 a2 : AV) (s : St) : (stepN Try.prog ev (.call 4 [a0, a1, a2])).run s = c4 (runs ev) a0 a1 a2 s :=
  (call_is Try.prog (nt := (nat_lit 111)) Try.func4 rfl (by kernel_rfl) [a0, a1, a2] (by kernel_rfl) (w_seq (w_seq (w_seq (w_seq (w_seq (w_seq (w_as (fun f s => c4j44 (runs ev) (f 1) (f 2) (f 8) (f 9) s) w_any (fun _ _ => by kernel_rfl)) (w_seq (w_block (w_loop (fun n f s => c4l96 (runs ev) n (f 0) (f 1) (f 2) (f 8) (f 9) (f 10) s) (fun _ _ => by kernel_rfl) (fun n98 => w_as _ (w_seq (w_seq (w_as (fun f s => c4j108 (runs ev) (c4l96 (runs ev) n98) (f 0) (f 1) (f 2) (f 8) (f 9) (f 10) s) w_any (fun _ _ => by kernel_rfl)) w_any) w_any) (fun _ _ => by kernel_rfl)))) w_any)) w_any) w_any) w_any) w_any) w_any) s).trans (by kernel_rfl)

noncomputable def c5k78 (e : Ev) (v60 v46 v6 a0 : AV) (r51 u52 r57 u58 : Nat) (s61 : St) : R AV :=
  kIf1 v60 (fun k s => kMv v46 k s) (fun v62 s63 => kIf1 v60 (fun k s => kMv v6 k s) (fun v64 s65 => kIf1 v60 (fun k s => kMv a0 k s) (fun v66 s67 => kIf1 v60 (fun k s => kIA (nat_lit 1) v64 v66 k s) (fun v68 s69 => kLg (fun k s => kIf1 v60 (fun k s => kLoad1 v68 k s) k s) (fun v70 r71 u72 s73 => kIf1 v60 (fun k s => kEql Try.prog (nat_lit 3) v62 v70 k s) (fun v74 s75 => kPick v60 v74 (.bool false) (fun v76 s77 => ifb (kClash r51 u52 r57 u58 false) .fail (.ok v76 s77)) s75) s73) s69) s67) s65) s63) s61

noncomputable def c5k79 (e : Ev) (v36 v4 a0 v6 : AV) (s41 : St) : R AV :=
  kLoadN (nat_lit 1) v36 (fun v42 s43 => kBind (e (.call (nat_lit 10) [v42])) (fun v44 s45 => kExt (nat_lit 0) v44 (fun v46 s47 => kExt (nat_lit 1) v44 (fun v48 s49 => kLg (fun k s => kBind (e (.call (nat_lit 11) [v48])) k s) (fun v50 r51 u52 s53 => kIA (nat_lit 1) v4 a0 (fun v54 s55 => kLg (fun k s => kLoad1 v54 k s) (fun v56 r57 u58 s59 => kEql Try.prog (nat_lit 3) v50 v56 (fun v60 s61 => c5k78 e v60 v46 v6 a0 r51 u52 r57 u58 s61) s59) s55) s53) s49) s47) s45) s43) s41

noncomputable def c5k80 (e : Ev) (v14 v22 v0 v2 a0 v4 v6 : AV) (s23 : St) : R AV :=
  kPick v14 (.bool true) v22 (fun v24 s25 => kIf v24 (.ok v0 s25) (kIA (nat_lit 1) v2 a0 (fun v26 s27 => kLoad1 v26 (fun v28 s29 => kBind (e (.call (nat_lit 9) [v28])) (fun v30 s31 => kExt (nat_lit 0) v30 (fun v32 s33 => kExt (nat_lit 1) v30 (fun v34 s35 => kAlloc [.nilslice] (fun v36 s37 => kStore (nat_lit 1) v36 v32 (fun v38 s39 => kNot v34 (fun v40 s41 => kIf v40 (.ok (.bool false) s41) (c5k79 e v36 v4 a0 v6 s41)) s39) s37) s35) s33) s31) s29) s27) s25)) s23

noncomputable def c5k81 (e : Ev) (v8 a0 v2 v0 v4 v6 : AV) (s9 : St) : R AV :=
  kIf0 v8 (fun k s => kMv a0 k s) (fun v10 s11 => kIf0 v8 (fun k s => kLss Try.prog (nat_lit 3) v10 (.int .i64 (.ofNat (nat_lit 0))) k s) (fun v12 s13 => kPick v8 (.bool true) v12 (fun v14 s15 => kIf0 v14 (fun k s => kMv a0 k s) (fun v16 s17 => kIf0 v14 (fun k s => kMv v2 k s) (fun v18 s19 => kIf0 v14 (fun k s => kLenL v18 k s) (fun v20 s21 => kIf0 v14 (fun k s => kGeq Try.prog (nat_lit 3) v16 v20 k s) (fun v22 s23 => c5k80 e v14 v22 v0 v2 a0 v4 v6 s23) s21) s19) s17) s15) s13) s11) s9

noncomputable def c5k82 (e : Ev) (v0 a0 v2 v4 : AV) (s5 : St) : R AV :=
  kBuildSl [(.int .i64 (.ofNat (nat_lit 0))), (.int .i64 (.ofNat (nat_lit 0))), (.int .i64 (.ofNat (nat_lit 0))), (.int .i64 (.ofNat (nat_lit 0))), (.int .i64 (.ofNat (nat_lit 0))), (.int .i64 (.ofNat (nat_lit 0))), (.int .i64 (.ofNat (nat_lit 0))), (.int .i64 (.ofNat (nat_lit 0))), (.int .i64 (.ofNat (nat_lit 0))), (.int .i64 (.ofNat (nat_lit 0))), (.int .i64 (.ofNat (nat_lit 0))), (.int .i64 (.ofNat (nat_lit 0))), (.int .i64 (.ofNat (nat_lit 0)))] (nat_lit 13) [(some ((nat_lit 0), (nat_lit 1)), (.int .i64 (.ofNat (nat_lit 38)))), (some ((nat_lit 1), (nat_lit 1)), (.int .i64 (.ofNat (nat_lit 38)))), (some ((nat_lit 2), (nat_lit 1)), (.int .i64 (.ofNat (nat_lit 63)))), (some ((nat_lit 3), (nat_lit 1)), (.int .i64 (.ofNat (nat_lit 63)))), (some ((nat_lit 4), (nat_lit 1)), (.int .i64 (.ofNat (nat_lit 76)))), (some ((nat_lit 5), (nat_lit 1)), (.int .i64 (.ofNat (nat_lit 60)))), (some ((nat_lit 6), (nat_lit 1)), (.int .i64 (.ofNat (nat_lit 38)))), (some ((nat_lit 7), (nat_lit 1)), (.int .i64 (.ofNat (nat_lit 38)))), (some ((nat_lit 8), (nat_lit 1)), (.int .i64 (.ofNat (nat_lit 92)))), (some ((nat_lit 9), (nat_lit 1)), (.int .i64 (.ofNat (nat_lit 42)))), (some ((nat_lit 10), (nat_lit 1)), (.int .i64 (.ofNat (nat_lit 42)))), (some ((nat_lit 11), (nat_lit 1)), (.int .i64 (.ofNat (nat_lit 63)))), (some ((nat_lit 12), (nat_lit 1)), (.int .i64 (.ofNat (nat_lit 101))))] (fun v6 s7 => kNot v0 (fun v8 s9 => c5k81 e v8 a0 v2 v0 v4 v6 s9) s7) s5

noncomputable def c5k83 (e : Ev) (v0 a0 v2 : AV) (s3 : St) : R AV :=
  kBuildSl [(.int .i64 (.ofNat (nat_lit 0))), (.int .i64 (.ofNat (nat_lit 0))), (.int .i64 (.ofNat (nat_lit 0))), (.int .i64 (.ofNat (nat_lit 0))), (.int .i64 (.ofNat (nat_lit 0))), (.int .i64 (.ofNat (nat_lit 0))), (.int .i64 (.ofNat (nat_lit 0))), (.int .i64 (.ofNat (nat_lit 0))), (.int .i64 (.ofNat (nat_lit 0))), (.int .i64 (.ofNat (nat_lit 0))), (.int .i64 (.ofNat (nat_lit 0))), (.int .i64 (.ofNat (nat_lit 0))), (.int .i64 (.ofNat (nat_lit 0)))] (nat_lit 13) [(some ((nat_lit 0), (nat_lit 1)), (.int .i64 (.ofNat (nat_lit 24)))), (some ((nat_lit 1), (nat_lit 1)), (.int .i64 (.ofNat (nat_lit 21)))), (some ((nat_lit 2), (nat_lit 1)), (.int .i64 (.ofNat (nat_lit 26)))), (some ((nat_lit 3), (nat_lit 1)), (.int .i64 (.ofNat (nat_lit 21)))), (some ((nat_lit 4), (nat_lit 1)), (.int .i64 (.ofNat (nat_lit 25)))), (some ((nat_lit 5), (nat_lit 1)), (.int .i64 (.ofNat (nat_lit 24)))), (some ((nat_lit 6), (nat_lit 1)), (.int .i64 (.ofNat (nat_lit 21)))), (some ((nat_lit 7), (nat_lit 1)), (.int .i64 (.ofNat (nat_lit 21)))), (some ((nat_lit 8), (nat_lit 1)), (.int .i64 (.ofNat (nat_lit 21)))), (some ((nat_lit 9), (nat_lit 1)), (.int .i64 (.ofNat (nat_lit 21)))), (some ((nat_lit 10), (nat_lit 1)), (.int .i64 (.ofNat (nat_lit 21)))), (some ((nat_lit 11), (nat_lit 1)), (.int .i64 (.ofNat (nat_lit 21)))), (some ((nat_lit 12), (nat_lit 1)), (.int .i64 (.ofNat (nat_lit 21))))] (fun v4 s5 => c5k82 e v0 a0 v2 v4 s5) s3

noncomputable def c5k84 (e : Ev) (v0 a0 : AV) (s1 : St) : R AV :=
  kBuildSl [(.str (nat_lit 0) (nat_lit 0)), (.str (nat_lit 0) (nat_lit 0)), (.str (nat_lit 0) (nat_lit 0)), (.str (nat_lit 0) (nat_lit 0)), (.str (nat_lit 0) (nat_lit 0)), (.str (nat_lit 0) (nat_lit 0)), (.str (nat_lit 0) (nat_lit 0)), (.str (nat_lit 0) (nat_lit 0)), (.str (nat_lit 0) (nat_lit 0)), (.str (nat_lit 0) (nat_lit 0)), (.str (nat_lit 0) (nat_lit 0)), (.str (nat_lit 0) (nat_lit 0)), (.str (nat_lit 0) (nat_lit 0))] (nat_lit 13) [(some ((nat_lit 0), (nat_lit 1)), (.str (nat_lit 61) (nat_lit 338386002345262105343841651696244430573549112301958410225428047057446913167244473276472463099791259056526468100851935012016283718000771587117444974))), (some ((nat_lit 1), (nat_lit 1)), (.str (nat_lit 55) (nat_lit 1202188579246631069508458903961193855214787436784691988673764785127770552370672076647660586760653548872335947552446492383961011220334))), (some ((nat_lit 2), (nat_lit 1)), (.str (nat_lit 94) (nat_lit 10030700079019194143663995775908896174684750361480156130408700942492136857483397055910641717560342563348403190730943097790013189185750305420741205793799905642972247203663559475843174250368207279277761126332964733795030238785390))), (some ((nat_lit 3), (nat_lit 1)), (.str (nat_lit 90) (nat_lit 2335454355696959920149295538642652373454708224510859040450221468051051259304349628819287095793735211875510833461890253895464008616927277649494713806750792591957123308623694411281516215253186672748602703398080581234542))), (some ((nat_lit 4), (nat_lit 1)), (.str (nat_lit 101) (nat_lit 722788114210176760443552818290621058836529787068534488913214252814373643195081111481784672925978008310344367989209741975100866148690630456051070078518229074927191281349731228328102204489531813025069053018244546466417187654076487620783807688558))), (some ((nat_lit 5), (nat_lit 1)), (.str (nat_lit 86) (nat_lit 543765340861156564240645509828499605286565661558360639671624466448738130867979433058052267712700295854557804144856790280471709124613619936394888103504733350183921601935361581293952359351538475658271862845294))), (some ((nat_lit 6), (nat_lit 1)), (.str (nat_lit 75) (nat_lit 1757000576949463243925528948112221960963968281509168104241456295440483639493537379586179261584220086200402244018610616028485745620987484352374895437565939101020293972363981512535918))), (some ((nat_lit 7), (nat_lit 1)), (.str (nat_lit 75) (nat_lit 1757000576949463243925528948112221960963968281509168104247405799159595876884104617358474200942675728347080774992172455185955397742114286464801598331523376664648614880589191737274222))), (some ((nat_lit 8), (nat_lit 1)), (.str (nat_lit 112) (nat_lit 223692086625088035936866267684347506225601306111100140103879085965552295181423827992265611106751010070522642177214051838077522571439920216276199252982020126860261506908034219554103497501058857904276043650629907865216957717003906234038096717850320643269501603675050897262))), (some ((nat_lit 9), (nat_lit 1)), (.str (nat_lit 51) (nat_lit 279906340699139439389428499108529846684461989535601742802709109341305994334177532417954211144136838164050052210227224538990))), (some ((nat_lit 10), (nat_lit 1)), (.str (nat_lit 57) (nat_lit 78786630729455199219964239217926766386016380364816766530298039469759639578048055268504392751362446575547909404106109832619059588918177646))), (some ((nat_lit 11), (nat_lit 1)), (.str (nat_lit 110) (nat_lit 3413270364762695860853215305186131912390782688856763584732920832807982067958481695020898152275080858483875963746732144997530224037644359640053180641953331035374064228694281027827117882455781862896858893974672324873672995658709512811433908182772184380581592500039534))), (some ((nat_lit 12), (nat_lit 1)), (.str (nat_lit 111) (nat_lit 873797213379250140378421411115954952644227663856564562394432384672109643834223961833690987274565559427336904382567008777673521044106773367055136714605969918946456233873523981294668654591277671676317778535013533222269035402582084880151553257646820067320238925131575150)))] (fun v2 s3 => c5k83 e v0 a0 v2 s3) s1

noncomputable def c5 (e : Ev) (a0 : AV) (s9999 : St) : R AV :=
  kBind (e (.call (nat_lit 8) [])) (fun v0 s1 => c5k84 e v0 a0 s1) s9999

theorem c5_ok (ev : Task → M AV) (a0 : AV) (s : St) : (stepN Try.prog ev (.call 5 [a0])).run s = c5 (runs ev) a0 s :=
  (call_is Try.prog (nt := (nat_lit 58)) Try.func5 rfl (by kernel_rfl) [a0] (by kernel_rfl) w_any s).trans (by kernel_rfl)

noncomputable def c6j25 (e : Ev) (v26 v27 v28 v29 : AV) (s30 : St) : R AV :=
  kIf1 v26 (fun k s => kMv v27 k s) (fun v31 s32 => kPick v26 v31 (.bool false) (fun v33 s34 => kIf1 v33 (fun k s => kMv v28 k s) (fun v35 s36 => kIf1 v33 (fun k s => kBind (e (.call (nat_lit 11) [v35])) k s) (fun v37 s38 => kIf1 v33 (fun k s => kMv v29 k s) (fun v39 s40 => kIf1 v33 (fun k s => kEql Try.prog (nat_lit 3) v37 v39 k s) (fun v41 s42 => kPick v33 v41 (.bool false) (fun v43 s44 => .ok v43 s44) s42) s40) s38) s36) s34) s32) s30

noncomputable def c6k45 (e : Ev) (v7 v3 v4 : AV) (s8 : St) : R AV :=
  kExt (nat_lit 0) v7 (fun v9 s10 => kExt (nat_lit 1) v7 (fun v11 s12 => kAlloc [.nilslice] (fun v13 s14 => kStore (nat_lit 1) v13 v9 (fun v15 s16 => kLoadN (nat_lit 1) v13 (fun v17 s18 => kBind (e (.call (nat_lit 10) [v17])) (fun v19 s20 => kExt (nat_lit 0) v19 (fun v21 s22 => kExt (nat_lit 1) v19 (fun v23 s24 => kIf v3 (c6j25 e v4 v11 v23 (.int .i64 (.ofNat (nat_lit 20))) s24) (c6j25 e v4 v11 v23 (.int .i64 (.ofNat (nat_lit 0))) s24)) s22) s20) s18) s16) s14) s12) s10) s8

noncomputable def c6j2 (e : Ev) (v3 v4 v5 : AV) (s6 : St) : R AV :=
  kBind (e (.call (nat_lit 9) [v5])) (fun v7 s8 => c6k45 e v7 v3 v4 s8) s6

noncomputable def c6k46 (e : Ev) (a0 v0 : AV) (s1 : St) : R AV :=
  kIf a0 (c6j2 e a0 v0 (.str (nat_lit 138) (nat_lit 92021586994568090868520307331428366657024575857352955514929683645484649962595683675331244440074069551268005954849803186573240201919227174312009331333677726009612400707223960119879479898026009658453359043781634306552919873208665547339731708505318216868955876806748394459815377581462164615498611604226146623163582104792028913248530286)) s1) (c6j2 e a0 v0 (.str (nat_lit 131) (nat_lit 1277056058048954429820984443160054252514727262501603658552072565914181165949533679126175937672257964972674554353232107276012708672258547137494325934851408351974529464882889887205065687217910176447808674704925940311741391044214898148449599630935696676863644888922327195802813325303772037174414568821931121212882448238)) s1)

noncomputable def c6 (e : Ev) (a0 : AV) (s9999 : St) : R AV :=
  kBind (e (.call (nat_lit 8) [])) (fun v0 s1 => c6k46 e a0 v0 s1) s9999

theorem c6_ok (ev : Task → M AV) (a0 : AV) (s : St) : (stepN Try.prog ev (.call 6 [a0])).run s = c6 (runs ev) a0 s :=
  (call_is Try.prog (nt := (nat_lit 33)) Try.func6 rfl (by kernel_rfl) [a0] (by kernel_rfl) (w_seq (w_seq (w_seq (w_seq (w_as (fun f s => c6j2 (runs ev) (f 0) (f 3) (f 4) s) (w_seq (w_seq (w_seq (w_seq (w_as (fun f s => c6j25 (runs ev) (f 3) (f 6) (f 8) (f 9) s) w_any (fun _ _ => by kernel_rfl)) w_any) w_any) w_any) w_any) (fun _ _ => by kernel_rfl)) w_any) w_any) w_any) w_any) s).trans (by kernel_rfl)

noncomputable def c7j30 (e : Ev) (s31 : St) : R AV :=
  .ok (.bool true) s31

noncomputable def c7j48 (e : Ev) (w33 : AV → AV → AV → AV → St → R AV) (v49 v50 v51 v52 : AV) (s53 : St) : R AV :=
  kAdd Try.prog (nat_lit 3) v52 (.int .i64 (.ofNat (nat_lit 1))) (fun v54 s55 => w33 v49 v50 v51 v54 s55) s53

noncomputable def c7k171 (e : Ev) (w33 : AV → AV → AV → AV → St → R AV) (w57 : AV → AV → AV → AV → AV → St → R AV) (v147 v157 v153 v112 v108 v109 v110 v111 : AV) (r150 u151 r158 u159 r154 u155 : Nat) (s160 : St) : R AV :=
  kLg (fun k s => kIf0 v147 (fun k s => kBind (e (.call (nat_lit 19) [v157])) k s) k s) (fun v161 r162 u163 s164 => kIf0 v147 (fun k s => kNeq Try.prog (nat_lit 4) v153 v161 k s) (fun v165 s166 => kPick v147 (.bool true) v165 (fun v167 s168 => ifb (kClash r150 u151 r158 u159 (kClash r154 u155 r158 u159 false)) .fail (kIf v167 (.ok (.bool false) s168) (kAdd Try.prog (nat_lit 3) v112 (.int .i64 (.ofNat (nat_lit 1))) (fun v169 s170 => w57 v108 v109 v110 v111 v169 s170) s168))) s166) s164) s160

noncomputable def c7k172 (e : Ev) (w33 : AV → AV → AV → AV → St → R AV) (w57 : AV → AV → AV → AV → AV → St → R AV) (v129 v145 v113 v112 v108 v109 v110 v111 : AV) (s146 : St) : R AV :=
  kPick v129 (.bool true) v145 (fun v147 s148 => kLg (fun k s => kIf0 v147 (fun k s => kLoadN (nat_lit 9) v113 k s) k s) (fun v149 r150 u151 s152 => kLg (fun k s => kIf0 v147 (fun k s => kBind (e (.call (nat_lit 18) [v149])) k s) k s) (fun v153 r154 u155 s156 => kLg (fun k s => kIf0 v147 (fun k s => kLoadN (nat_lit 9) v113 k s) k s) (fun v157 r158 u159 s160 => c7k171 e w33 w57 v147 v157 v153 v112 v108 v109 v110 v111 r150 u151 r158 u159 r154 u155 s160) s156) s152) s148) s146

noncomputable def c7k173 (e : Ev) (w33 : AV → AV → AV → AV → St → R AV) (w57 : AV → AV → AV → AV → AV → St → R AV) (v129 v113 v131 v112 v108 v109 v110 v111 : AV) (s132 : St) : R AV :=
  kLg (fun k s => kIf0 v129 (fun k s => kLoadN (nat_lit 9) v113 k s) k s) (fun v133 r134 u135 s136 => kLg (fun k s => kIf0 v129 (fun k s => kBind (e (.call (nat_lit 17) [v133])) k s) k s) (fun v137 r138 u139 s140 => kLg (fun k s => kIf0 v129 (fun k s => kBind (e (.call (nat_lit 15) [v131, v137])) k s) k s) (fun v141 r142 u143 s144 => kIf0 v129 (fun k s => kNot v141 k s) (fun v145 s146 => c7k172 e w33 w57 v129 v145 v113 v112 v108 v109 v110 v111 s146) s144) s140) s136) s132

noncomputable def c7j107 (e : Ev) (w33 : AV → AV → AV → AV → St → R AV) (w57 : AV → AV → AV → AV → AV → St → R AV) (v108 v109 v110 v111 v112 v113 v114 v115 : AV) (s116 : St) : R AV :=
  kLg (fun k s => kLoadN (nat_lit 9) v113 k s) (fun v117 r118 u119 s120 => kLg (fun k s => kBind (e (.call (nat_lit 16) [v117])) k s) (fun v121 r122 u123 s124 => kLg (fun k s => kBind (e (.call (nat_lit 15) [v114, v121])) k s) (fun v125 r126 u127 s128 => kNot v125 (fun v129 s130 => kIf0 v129 (fun k s => kMv v115 k s) (fun v131 s132 => c7k173 e w33 w57 v129 v113 v131 v112 v108 v109 v110 v111 s132) s130) s128) s124) s120) s116

noncomputable def c7k240 (e : Ev) (w33 : AV → AV → AV → AV → St → R AV) (w57 : AV → AV → AV → AV → AV → St → R AV) (v222 v59 v60 v61 v62 v63 v95 v101 v105 : AV) (s223 : St) : R AV :=
  kIA (nat_lit 6) v222 (.int .i64 (.ofNat (nat_lit 0))) (fun v224 s225 => kFA (nat_lit 4) v224 (fun v226 s227 => kLoad1 v226 (fun v228 s229 => kIA (nat_lit 12) v228 (.int .i64 (.ofNat (nat_lit 0))) (fun v230 s231 => kFA (nat_lit 1) v230 (fun v232 s233 => kLoadN (nat_lit 9) v232 (fun v234 s235 => kBind (e (.call (nat_lit 13) [v234])) (fun v236 s237 => kBind (e (.call (nat_lit 14) [v236])) (fun v238 s239 => c7j107 e w33 w57 v59 v60 v61 v62 v63 v95 v101 v105 s239) s237) s235) s233) s231) s229) s227) s225) s223

noncomputable def c7k241 (e : Ev) (w33 : AV → AV → AV → AV → St → R AV) (w57 : AV → AV → AV → AV → AV → St → R AV) (v206 v60 v59 v61 v62 v63 v95 v101 v105 : AV) (s207 : St) : R AV :=
  kLoad1 v206 (fun v208 s209 => kIA (nat_lit 12) v208 (.int .i64 (.ofNat (nat_lit 0))) (fun v210 s211 => kFA (nat_lit 1) v210 (fun v212 s213 => kLoadN (nat_lit 9) v212 (fun v214 s215 => kBind (e (.call (nat_lit 12) [v214])) (fun v216 s217 => kBind (e (.call (nat_lit 14) [v216])) (fun v218 s219 => kFA (nat_lit 0) v60 (fun v220 s221 => kLoad1 v220 (fun v222 s223 => c7k240 e w33 w57 v222 v59 v60 v61 v62 v63 v95 v101 v105 s223) s221) s219) s217) s215) s213) s211) s209) s207

noncomputable def c7k242 (e : Ev) (w33 : AV → AV → AV → AV → St → R AV) (w57 : AV → AV → AV → AV → AV → St → R AV) (v182 v194 v60 v59 v61 v62 v63 v95 v101 v105 : AV) (s195 : St) : R AV :=
  kIf1 v182 (fun k s => kGtr Try.prog (nat_lit 3) v194 (.int .i64 (.ofNat (nat_lit 0))) k s) (fun v196 s197 => kPick v182 v196 (.bool false) (fun v198 s199 => kIf v198 (kFA (nat_lit 0) v60 (fun v200 s201 => kLoad1 v200 (fun v202 s203 => kIA (nat_lit 6) v202 (.int .i64 (.ofNat (nat_lit 0))) (fun v204 s205 => kFA (nat_lit 4) v204 (fun v206 s207 => c7k241 e w33 w57 v206 v60 v59 v61 v62 v63 v95 v101 v105 s207) s205) s203) s201) s199) (c7j107 e w33 w57 v59 v60 v61 v62 v63 v95 v101 v105 s199)) s197) s195

noncomputable def c7k243 (e : Ev) (w33 : AV → AV → AV → AV → St → R AV) (w57 : AV → AV → AV → AV → AV → St → R AV) (v182 v60 v59 v61 v62 v63 v95 v101 v105 : AV) (s183 : St) : R AV :=
  kIf1 v182 (fun k s => kFA (nat_lit 0) v60 k s) (fun v184 s185 => kIf1 v182 (fun k s => kLoad1 v184 k s) (fun v186 s187 => kIf1 v182 (fun k s => kIA (nat_lit 6) v186 (.int .i64 (.ofNat (nat_lit 0))) k s) (fun v188 s189 => kIf1 v182 (fun k s => kFA (nat_lit 4) v188 k s) (fun v190 s191 => kIf1 v182 (fun k s => kLoad1 v190 k s) (fun v192 s193 => kIf1 v182 (fun k s => kLenL v192 k s) (fun v194 s195 => c7k242 e w33 w57 v182 v194 v60 v59 v61 v62 v63 v95 v101 v105 s195) s193) s191) s189) s187) s185) s183

noncomputable def c7k244 (e : Ev) (w33 : AV → AV → AV → AV → St → R AV) (w57 : AV → AV → AV → AV → AV → St → R AV) (v103 v61 v60 v59 v62 v63 v95 v101 : AV) (s104 : St) : R AV :=
  kBind (e (.call (nat_lit 13) [v103])) (fun v105 s106 => kIf1 v61 (fun k s => kFA (nat_lit 0) v60 k s) (fun v174 s175 => kIf1 v61 (fun k s => kLoad1 v174 k s) (fun v176 s177 => kIf1 v61 (fun k s => kLenL v176 k s) (fun v178 s179 => kIf1 v61 (fun k s => kGtr Try.prog (nat_lit 3) v178 (.int .i64 (.ofNat (nat_lit 0))) k s) (fun v180 s181 => kPick v61 v180 (.bool false) (fun v182 s183 => c7k243 e w33 w57 v182 v60 v59 v61 v62 v63 v95 v101 v105 s183) s181) s179) s177) s175) s106) s104

noncomputable def c7k245 (e : Ev) (w33 : AV → AV → AV → AV → St → R AV) (w57 : AV → AV → AV → AV → AV → St → R AV) (v93 v61 v60 v59 v62 v63 : AV) (s94 : St) : R AV :=
  kAlloc [(.int .i64 (.ofNat (nat_lit 0))), (.int .i64 (.ofNat (nat_lit 0))), (.str (nat_lit 0) (nat_lit 0)), (.int .i64 (.ofNat (nat_lit 0))), (.int .i64 (.ofNat (nat_lit 0))), (.int .i64 (.ofNat (nat_lit 0))), (.int .i64 (.ofNat (nat_lit 0))), .nilslice, (.int .i64 (.ofNat (nat_lit 0)))] (fun v95 s96 => kStore (nat_lit 9) v95 v93 (fun v97 s98 => kLoadN (nat_lit 9) v95 (fun v99 s100 => kBind (e (.call (nat_lit 12) [v99])) (fun v101 s102 => kLoadN (nat_lit 9) v95 (fun v103 s104 => c7k244 e w33 w57 v103 v61 v60 v59 v62 v63 v95 v101 s104) s102) s100) s98) s96) s94

noncomputable def c7k246 (e : Ev) (w33 : AV → AV → AV → AV → St → R AV) (w57 : AV → AV → AV → AV → AV → St → R AV) (v63 v75 v59 v62 v61 v60 : AV) (s76 : St) : R AV :=
  kLss Try.prog (nat_lit 3) v63 v75 (fun v77 s78 => kIf v77 (kFA (nat_lit 0) v59 (fun v79 s80 => kLoad1 v79 (fun v81 s82 => kIA (nat_lit 6) v81 v62 (fun v83 s84 => kFA (nat_lit 4) v83 (fun v85 s86 => kLoad1 v85 (fun v87 s88 => kIA (nat_lit 12) v87 v63 (fun v89 s90 => kFA (nat_lit 1) v89 (fun v91 s92 => kLoadN (nat_lit 9) v91 (fun v93 s94 => c7k245 e w33 w57 v93 v61 v60 v59 v62 v63 s94) s92) s90) s88) s86) s84) s82) s80) s78) (c7j48 e w33 v59 v60 v61 v62 s78)) s76

noncomputable def c7l56b (e : Ev) (w33 : AV → AV → AV → AV → St → R AV) (w57 : AV → AV → AV → AV → AV → St → R AV) (v59 v60 v61 v62 v63 : AV) (s64 : St) : R AV :=
  kFA (nat_lit 0) v59 (fun v65 s66 => kLoad1 v65 (fun v67 s68 => kIA (nat_lit 6) v67 v62 (fun v69 s70 => kFA (nat_lit 4) v69 (fun v71 s72 => kLoad1 v71 (fun v73 s74 => kLenL v73 (fun v75 s76 => c7k246 e w33 w57 v63 v75 v59 v62 v61 v60 s76) s74) s72) s70) s68) s66) s64

noncomputable def c7l56 (e : Ev) (w33 : AV → AV → AV → AV → St → R AV) (n : Nat) : AV → AV → AV → AV → AV → St → R AV :=
  @Nat.rec (fun _ => AV → AV → AV → AV → AV → St → R AV) (fun _ _ _ _ _ _ => .fail) (fun _ w => c7l56b e w33 w) n

noncomputable def c7l32b (e : Ev) (w33 : AV → AV → AV → AV → St → R AV) (v35 v36 v37 v38 : AV) (s39 : St) : R AV :=
  kFA (nat_lit 0) v35 (fun v40 s41 => kLoad1 v40 (fun v42 s43 => kLenL v42 (fun v44 s45 => kLss Try.prog (nat_lit 3) v38 v44 (fun v46 s47 => kIf v46 (c7l56 e w33 fuelN v35 v36 v37 v38 (.int .i64 (.ofNat (nat_lit 0))) s47) (c7j30 e s47)) s45) s43) s41) s39

noncomputable def c7l32 (e : Ev) (n : Nat) : AV → AV → AV → AV → St → R AV :=
  @Nat.rec (fun _ => AV → AV → AV → AV → St → R AV) (fun _ _ _ _ _ => .fail) (fun _ w => c7l32b e w) n

noncomputable def c7k247 (e : Ev) (a1 v0 v6 v8 : AV) (s11 : St) : R AV :=
  kBind (e (.call (nat_lit 9) [a1])) (fun v12 s13 => kExt (nat_lit 0) v12 (fun v14 s15 => kExt (nat_lit 1) v12 (fun v16 s17 => kAlloc [.nilslice] (fun v18 s19 => kStore (nat_lit 1) v18 v14 (fun v20 s21 => kNot v0 (fun v22 s23 => kIf0 v22 (fun k s => kMv v6 k s) (fun v24 s25 => kIf0 v22 (fun k s => kNot v24 k s) (fun v26 s27 => kPick v22 (.bool true) v26 (fun v28 s29 => kIf v28 (.ok v0 s29) (c7l32 e fuelN v8 v18 v16 (.int .i64 (.ofNat (nat_lit 0))) s29)) s27) s25) s23) s21) s19) s17) s15) s13) s11

noncomputable def c7 (e : Ev) (a0 a1 : AV) (s9999 : St) : R AV :=
  kBind (e (.call (nat_lit 8) [])) (fun v0 s1 => kBind (e (.call (nat_lit 9) [a0])) (fun v2 s3 => kExt (nat_lit 0) v2 (fun v4 s5 => kExt (nat_lit 1) v2 (fun v6 s7 => kAlloc [.nilslice] (fun v8 s9 => kStore (nat_lit 1) v8 v4 (fun v10 s11 => c7k247 e a1 v0 v6 v8 s11) s9) s7) s5) s3) s1) s9999

theorem c7_ok (ev : Task → M AV) (a0 a1 : AV) (s : St) : (stepN Try.prog ev (.call 7 [a0, a1])).run s = c7 (runs ev) a0 a1 s :=
  (call_is Try.prog (nt := (nat_lit 120)) Try.func7 rfl (by kernel_rfl) [a0, a1] (by kernel_rfl) (w_seq (w_seq (w_seq (w_seq (w_seq (w_seq (w_as (fun f s => c7j30 (runs ev) s) w_any (fun _ _ => by kernel_rfl)) (w_seq (w_block (w_loop (fun n f s => c7l32 (runs ev) n (f 6) (f 8) (f 9) (f 10) s) (fun _ _ => by kernel_rfl) (fun n34 => w_as _ (w_seq (w_seq (w_as (fun f s => c7j48 (runs ev) (c7l32 (runs ev) n34) (f 6) (f 8) (f 9) (f 10) s) w_any (fun _ _ => by kernel_rfl)) (w_block (w_seq (w_block (w_loop (fun n f s => c7l56 (runs ev) (c7l32 (runs ev) n34) n (f 6) (f 8) (f 9) (f 10) (f 11) s) (fun _ _ => by kernel_rfl) (fun n58 => w_as _ (w_seq (w_seq w_any (w_block (w_seq (w_seq (w_seq (w_seq (w_as (fun f s => c7j107 (runs ev) (c7l32 (runs ev) n34) (c7l56 (runs ev) (c7l32 (runs ev) n34) n58) (f 6) (f 8) (f 9) (f 10) (f 11) (f 12) (f 13) (f 14) s) w_any (fun _ _ => by kernel_rfl)) w_any) w_any) w_any) w_any))) w_any) (fun _ _ => by kernel_rfl)))) w_any))) w_any) (fun _ _ => by kernel_rfl)))) w_any)) w_any) w_any) w_any) w_any) w_any) s).trans (by kernel_rfl)

noncomputable def c8k62 (e : Ev) (v46 v48 v34 : AV) (s49 : St) : R AV :=
  kIf1 v46 (fun k s => kEql Try.prog (nat_lit 3) v48 (.int .i64 (.ofNat (nat_lit 35))) k s) (fun v50 s51 => kPick v46 v50 (.bool false) (fun v52 s53 => kIf1 v52 (fun k s => kMv v34 k s) (fun v54 s55 => kIf1 v52 (fun k s => kBind (e (.call (nat_lit 11) [v54])) k s) (fun v56 s57 => kIf1 v52 (fun k s => kEql Try.prog (nat_lit 3) v56 (.int .i64 (.ofNat (nat_lit 0))) k s) (fun v58 s59 => kPick v52 v58 (.bool false) (fun v60 s61 => .ok v60 s61) s59) s57) s55) s53) s51) s49

noncomputable def c8k63 (e : Ev) (v4 v14 v26 v24 v34 : AV) (s35 : St) : R AV :=
  kIf1 v4 (fun k s => kMv v14 k s) (fun v36 s37 => kPick v4 v36 (.bool false) (fun v38 s39 => kIf1 v38 (fun k s => kMv v26 k s) (fun v40 s41 => kIf1 v38 (fun k s => kBind (e (.call (nat_lit 11) [v40])) k s) (fun v42 s43 => kIf1 v38 (fun k s => kEql Try.prog (nat_lit 3) v42 (.int .i64 (.ofNat (nat_lit 21))) k s) (fun v44 s45 => kPick v38 v44 (.bool false) (fun v46 s47 => kIf1 v46 (fun k s => kMv v24 k s) (fun v48 s49 => c8k62 e v46 v48 v34 s49) s47) s45) s43) s41) s39) s37) s35

noncomputable def c8k64 (e : Ev) (v12 v6 v4 v14 : AV) (s15 : St) : R AV :=
  kAlloc [.nilslice] (fun v16 s17 => kStore (nat_lit 1) v16 v12 (fun v18 s19 => kLoadN (nat_lit 1) v6 (fun v20 s21 => kBind (e (.call (nat_lit 10) [v20])) (fun v22 s23 => kExt (nat_lit 0) v22 (fun v24 s25 => kExt (nat_lit 1) v22 (fun v26 s27 => kLoadN (nat_lit 1) v16 (fun v28 s29 => kBind (e (.call (nat_lit 10) [v28])) (fun v30 s31 => kExt (nat_lit 0) v30 (fun v32 s33 => kExt (nat_lit 1) v30 (fun v34 s35 => c8k63 e v4 v14 v26 v24 v34 s35) s33) s31) s29) s27) s25) s23) s21) s19) s17) s15

noncomputable def c8k65 (e : Ev) (v0 : AV) (s1 : St) : R AV :=
  kExt (nat_lit 0) v0 (fun v2 s3 => kExt (nat_lit 1) v0 (fun v4 s5 => kAlloc [.nilslice] (fun v6 s7 => kStore (nat_lit 1) v6 v2 (fun v8 s9 => kBind (e (.call (nat_lit 9) [(.str (nat_lit 44) (nat_lit 3884480802286431986806007463215323907349929959408557759107500460122879207353452067919822679098168665468782))])) (fun v10 s11 => kExt (nat_lit 0) v10 (fun v12 s13 => kExt (nat_lit 1) v10 (fun v14 s15 => c8k64 e v12 v6 v4 v14 s15) s13) s11) s9) s7) s5) s3) s1

noncomputable def c8 (e : Ev) (s9999 : St) : R AV :=
  kBind (e (.call (nat_lit 9) [(.str (nat_lit 41) (nat_lit 231533098357147311128365420578511882963982810318658760247748635284516064491217693539754809718239086))])) (fun v0 s1 => c8k65 e v0 s1) s9999

theorem c8_ok (ev : Task → M AV) (s : St) : (stepN Try.prog ev (.call 8 [])).run s = c8 (runs ev)  s :=
  (call_is Try.prog (nt := (nat_lit 45)) Try.func8 rfl (by kernel_rfl) [] (by kernel_rfl) w_any s).trans (by kernel_rfl)

noncomputable def c9k32 (e : Ev) (v12 v0 : AV) (s13 : St) : R AV :=
  kExt (nat_lit 0) v12 (fun v14 s15 => kExt (nat_lit 1) v12 (fun v16 s17 => kExt (nat_lit 2) v12 (fun v18 s19 => kAlloc [.nilslice] (fun v20 s21 => kStore (nat_lit 1) v20 v14 (fun v22 s23 => kLoadN (nat_lit 1) v20 (fun v24 s25 => kEql Try.prog (nat_lit 3) v18 (.int .i64 (.ofNat (nat_lit 0))) (fun v26 s27 => kStore (nat_lit 1) v0 v24 (fun v28 s29 => kLoadN (nat_lit 1) v0 (fun v30 s31 => .ok (.tuple [v30, v26]) s31) s29) s27) s25) s23) s21) s19) s17) s15) s13

noncomputable def c9 (e : Ev) (a0 : AV) (s9999 : St) : R AV :=
  kAlloc [.nilslice] (fun v0 s1 => kLenS a0 (fun v2 s3 => kGtr Try.prog (nat_lit 3) v2 (.int .i64 (.ofNat (nat_lit 8000))) (fun v4 s5 => kIf v4 (kBuild [.nilslice] [] (fun v6 s7 => kStore (nat_lit 1) v0 v6 (fun v8 s9 => kLoadN (nat_lit 1) v0 (fun v10 s11 => .ok (.tuple [v10, (.bool false)]) s11) s9) s7) s5) (kBind (e (.call (nat_lit 20) [a0])) (fun v12 s13 => c9k32 e v12 v0 s13) s5)) s3) s1) s9999

theorem c9_ok (ev : Task → M AV) (a0 : AV) (s : St) : (stepN Try.prog ev (.call 9 [a0])).run s = c9 (runs ev) a0 s :=
  (call_is Try.prog (nt := (nat_lit 20)) Try.func9 rfl (by kernel_rfl) [a0] (by kernel_rfl) w_any s).trans (by kernel_rfl)

noncomputable def c10j8 (e : Ev) (s9 : St) : R AV :=
  .ok (.tuple [(.int .i64 (.ofNat (nat_lit 0))), (.int .i64 (.ofNat (nat_lit 0)))]) s9

noncomputable def c10k62 (e : Ev) (w17 : AV → AV → AV → AV → St → R AV) (v38 v19 v22 v20 v21 : AV) (s39 : St) : R AV :=
  kIf v38 (kNilCheck v19 (fun v40 s41 => kFA (nat_lit 2) v40 (fun v42 s43 => kFA (nat_lit 0) v42 (fun v44 s45 => kLg (fun k s => kLoad1 v44 k s) (fun v46 r47 u48 s49 => kNilCheck v19 (fun v50 s51 => kFA (nat_lit 2) v50 (fun v52 s53 => kFA (nat_lit 1) v52 (fun v54 s55 => kLg (fun k s => kLoad1 v54 k s) (fun v56 r57 u58 s59 => ifb (kClash r47 u48 r57 u58 false) .fail (.ok (.tuple [v46, v56]) s59)) s55) s53) s51) s49) s45) s43) s41) s39) (kAdd Try.prog (nat_lit 3) v22 (.int .i64 (.ofNat (nat_lit 1))) (fun v60 s61 => w17 v19 v20 v21 v60 s61) s39)

noncomputable def c10k63 (e : Ev) (w17 : AV → AV → AV → AV → St → R AV) (v24 v20 v22 v19 v21 : AV) (s25 : St) : R AV :=
  kIf v24 (kIA (nat_lit 6) v20 v22 (fun v26 s27 => kLoadN (nat_lit 6) v26 (fun v28 s29 => kAlloc [(.str (nat_lit 0) (nat_lit 0)), .nilslice, .nilslice, .nilslice, .nilslice, (.int .i64 (.ofNat (nat_lit 0)))] (fun v30 s31 => kStore (nat_lit 6) v30 v28 (fun v32 s33 => kLoadN (nat_lit 6) v30 (fun v34 s35 => kBind (e (.call (nat_lit 21) [v19, v34])) (fun v36 s37 => kNot v36 (fun v38 s39 => c10k62 e w17 v38 v19 v22 v20 v21 s39) s37) s35) s33) s31) s29) s27) s25) (c10j8 e s25)

noncomputable def c10l16b (e : Ev) (w17 : AV → AV → AV → AV → St → R AV) (v19 v20 v21 v22 : AV) (s23 : St) : R AV :=
  kLss Try.prog (nat_lit 3) v22 v21 (fun v24 s25 => c10k63 e w17 v24 v20 v22 v19 v21 s25) s23

noncomputable def c10l16 (e : Ev) (n : Nat) : AV → AV → AV → AV → St → R AV :=
  @Nat.rec (fun _ => AV → AV → AV → AV → St → R AV) (fun _ _ _ _ _ => .fail) (fun _ w => c10l16b e w) n

noncomputable def c10 (e : Ev) (a0 : AV) (s9999 : St) : R AV :=
  kBox a0 (fun v0 s1 => kNewMap (fun v2 s3 => kBuild [.nilmap, .nilmap, (.int .i64 (.ofNat (nat_lit 0))), (.int .i64 (.ofNat (nat_lit 0)))] [(some ((nat_lit 0), (nat_lit 1)), v2)] (fun v4 s5 => kBox v4 (fun v6 s7 => kFA (nat_lit 0) v0 (fun v10 s11 => kLoad1 v10 (fun v12 s13 => kLenL v12 (fun v14 s15 => c10l16 e fuelN v6 v12 v14 (.int .i64 (.ofNat (nat_lit 0))) s15) s13) s11) s7) s5) s3) s1) s9999

theorem c10_ok (ev : Task → M AV) (a0 : AV) (s : St) : (stepN Try.prog ev (.call 10 [a0])).run s = c10 (runs ev) a0 s :=
  (call_is Try.prog (nt := (nat_lit 32)) Try.func10 rfl (by kernel_rfl) [a0] (by kernel_rfl) (w_seq (w_seq (w_seq (w_as (fun f s => c10j8 (runs ev) s) w_any (fun _ _ => by kernel_rfl)) (w_seq (w_block (w_loop (fun n f s => c10l16 (runs ev) n (f 4) (f 11) (f 12) (f 13) s) (fun _ _ => by kernel_rfl) (fun n18 => w_as _ w_any (fun _ _ => by kernel_rfl)))) w_any)) w_any) w_any) s).trans (by kernel_rfl)

noncomputable def c11 (e : Ev) (a0 : AV) (s9999 : St) : R AV :=
  .ok a0 s9999

theorem c11_ok (ev : Task → M AV) (a0 : AV) (s : St) : (stepN Try.prog ev (.call 11 [a0])).run s = c11 (runs ev) a0 s :=
  (call_is Try.prog (nt := (nat_lit 4)) Try.func11 rfl (by kernel_rfl) [a0] (by kernel_rfl) w_any s).trans (by kernel_rfl)

noncomputable def c12 (e : Ev) (a0 : AV) (s9999 : St) : R AV :=
  kBox a0 (fun v0 s1 => kLoadN (nat_lit 9) v0 (fun v2 s3 => kBind (e (.call (nat_lit 22) [v2, (.func (.func (nat_lit 23)) [] [])])) (fun v4 s5 => .ok v4 s5) s3) s1) s9999

theorem c12_ok (ev : Task → M AV) (a0 : AV) (s : St) : (stepN Try.prog ev (.call 12 [a0])).run s = c12 (runs ev) a0 s :=
  (call_is Try.prog (nt := (nat_lit 5)) Try.func12 rfl (by kernel_rfl) [a0] (by kernel_rfl) w_any s).trans (by kernel_rfl)

noncomputable def c13 (e : Ev) (a0 : AV) (s9999 : St) : R AV :=
  kBox a0 (fun v0 s1 => kLoadN (nat_lit 9) v0 (fun v2 s3 => kBind (e (.call (nat_lit 22) [v2, (.func (.func (nat_lit 24)) [] [])])) (fun v4 s5 => .ok v4 s5) s3) s1) s9999

theorem c13_ok (ev : Task → M AV) (a0 : AV) (s : St) : (stepN Try.prog ev (.call 13 [a0])).run s = c13 (runs ev) a0 s :=
  (call_is Try.prog (nt := (nat_lit 5)) Try.func13 rfl (by kernel_rfl) [a0] (by kernel_rfl) w_any s).trans (by kernel_rfl)

noncomputable def c14l0b (e : Ev) (w1 : AV → AV → St → R AV) (v3 v4 : AV) (s5 : St) : R AV :=
  kLenL v3 (fun v6 s7 => kLss Try.prog (nat_lit 3) v4 v6 (fun v8 s9 => kIf v8 (kIA (nat_lit 1) v3 v4 (fun v10 s11 => kStore (nat_lit 1) v10 (.str (nat_lit 1) (nat_lit 63)) (fun v12 s13 => kAdd Try.prog (nat_lit 3) v4 (.int .i64 (.ofNat (nat_lit 1))) (fun v14 s15 => w1 v3 v14 s15) s13) s11) s9) (.ok (.tuple []) s9)) s7) s5

noncomputable def c14l0 (e : Ev) (n : Nat) : AV → AV → St → R AV :=
  @Nat.rec (fun _ => AV → AV → St → R AV) (fun _ _ _ => .fail) (fun _ w => c14l0b e w) n

noncomputable def c14 (e : Ev) (a0 : AV) (s9999 : St) : R AV :=
  c14l0 e fuelN a0 (.int .i64 (.ofNat (nat_lit 0))) s9999

theorem c14_ok (ev : Task → M AV) (a0 : AV) (s : St) : (stepN Try.prog ev (.call 14 [a0])).run s = c14 (runs ev) a0 s :=
  (call_is Try.prog (nt := (nat_lit 12)) Try.func14 rfl (by kernel_rfl) [a0] (by kernel_rfl) (w_seq (w_block (w_loop (fun n f s => c14l0 (runs ev) n (f 0) (f 2) s) (fun _ _ => by kernel_rfl) (fun n2 => w_as _ w_any (fun _ _ => by kernel_rfl)))) w_any) s).trans (by kernel_rfl)

noncomputable def c15j6 (e : Ev) (s7 : St) : R AV :=
  .ok (.bool true) s7

noncomputable def c15k35 (e : Ev) (w9 : AV → AV → AV → St → R AV) (v17 v11 v13 v12 : AV) (s18 : St) : R AV :=
  kIf v17 (kIA (nat_lit 1) v11 v13 (fun v19 s20 => kLg (fun k s => kLoad1 v19 k s) (fun v21 r22 u23 s24 => kIA (nat_lit 1) v12 v13 (fun v25 s26 => kLg (fun k s => kLoad1 v25 k s) (fun v27 r28 u29 s30 => kNeq Try.prog (nat_lit 9) v21 v27 (fun v31 s32 => ifb (kClash r22 u23 r28 u29 false) .fail (kIf v31 (.ok (.bool false) s32) (kAdd Try.prog (nat_lit 3) v13 (.int .i64 (.ofNat (nat_lit 1))) (fun v33 s34 => w9 v11 v12 v33 s34) s32))) s30) s26) s24) s20) s18) (c15j6 e s18)

noncomputable def c15l8b (e : Ev) (w9 : AV → AV → AV → St → R AV) (v11 v12 v13 : AV) (s14 : St) : R AV :=
  kLenL v11 (fun v15 s16 => kLss Try.prog (nat_lit 3) v13 v15 (fun v17 s18 => c15k35 e w9 v17 v11 v13 v12 s18) s16) s14

noncomputable def c15l8 (e : Ev) (n : Nat) : AV → AV → AV → St → R AV :=
  @Nat.rec (fun _ => AV → AV → AV → St → R AV) (fun _ _ _ _ => .fail) (fun _ w => c15l8b e w) n

noncomputable def c15 (e : Ev) (a0 a1 : AV) (s9999 : St) : R AV :=
  kLenL a0 (fun v0 s1 => kLenL a1 (fun v2 s3 => kNeq Try.prog (nat_lit 3) v0 v2 (fun v4 s5 => kIf v4 (.ok (.bool false) s5) (c15l8 e fuelN a0 a1 (.int .i64 (.ofNat (nat_lit 0))) s5)) s3) s1) s9999

theorem c15_ok (ev : Task → M AV) (a0 a1 : AV) (s : St) : (stepN Try.prog ev (.call 15 [a0, a1])).run s = c15 (runs ev) a0 a1 s :=
  (call_is Try.prog (nt := (nat_lit 26)) Try.func15 rfl (by kernel_rfl) [a0, a1] (by kernel_rfl) (w_seq (w_seq (w_seq (w_as (fun f s => c15j6 (runs ev) s) w_any (fun _ _ => by kernel_rfl)) (w_seq (w_block (w_loop (fun n f s => c15l8 (runs ev) n (f 0) (f 1) (f 5) s) (fun _ _ => by kernel_rfl) (fun n10 => w_as _ w_any (fun _ _ => by kernel_rfl)))) w_any)) w_any) w_any) s).trans (by kernel_rfl)

noncomputable def c16j6 (e : Ev) (v7 : AV) (s8 : St) : R AV :=
  .ok v7 s8

noncomputable def c16k38 (e : Ev) (w10 : AV → AV → AV → St → R AV) (v14 v20 v12 v13 : AV) (s21 : St) : R AV :=
  kLss Try.prog (nat_lit 3) v14 v20 (fun v22 s23 => kIf v22 (kFA (nat_lit 7) v12 (fun v24 s25 => kLoad1 v24 (fun v26 s27 => kIA (nat_lit 9) v26 v14 (fun v28 s29 => kLoadN (nat_lit 9) v28 (fun v30 s31 => kBind (e (.call (nat_lit 16) [v30])) (fun v32 s33 => kApp (nat_lit 1) (nat_lit 16) v13 v32 (fun v34 s35 => kAdd Try.prog (nat_lit 3) v14 (.int .i64 (.ofNat (nat_lit 1))) (fun v36 s37 => w10 v12 v34 v36 s37) s35) s33) s31) s29) s27) s25) s23) (c16j6 e v13 s23)) s21

noncomputable def c16l9b (e : Ev) (w10 : AV → AV → AV → St → R AV) (v12 v13 v14 : AV) (s15 : St) : R AV :=
  kFA (nat_lit 7) v12 (fun v16 s17 => kLoad1 v16 (fun v18 s19 => kLenL v18 (fun v20 s21 => c16k38 e w10 v14 v20 v12 v13 s21) s19) s17) s15

noncomputable def c16l9 (e : Ev) (n : Nat) : AV → AV → AV → St → R AV :=
  @Nat.rec (fun _ => AV → AV → AV → St → R AV) (fun _ _ _ _ => .fail) (fun _ w => c16l9b e w) n

noncomputable def c16j2 (e : Ev) (v3 v4 : AV) (s5 : St) : R AV :=
  c16l9 e fuelN v3 v4 (.int .i64 (.ofNat (nat_lit 0))) s5

noncomputable def c16k69 (e : Ev) (v51 v55 v0 : AV) (s56 : St) : R AV :=
  kIf0 v51 (fun k s => kEql Try.prog (nat_lit 3) v55 (.int .i64 (.ofNat (nat_lit 10))) k s) (fun v57 s58 => kPick v51 (.bool true) v57 (fun v59 s60 => kIf v59 (kFA (nat_lit 2) v0 (fun v61 s62 => kLoad1 v61 (fun v63 s64 => kBuildSl [(.str (nat_lit 0) (nat_lit 0))] (nat_lit 1) [(some ((nat_lit 0), (nat_lit 1)), v63)] (fun v65 s66 => kApp (nat_lit 1) (nat_lit 16) .nilslice v65 (fun v67 s68 => c16j2 e v0 v67 s68) s66) s64) s62) s60) (c16j2 e v0 .nilslice s60)) s58) s56

noncomputable def c16k70 (e : Ev) (v41 v0 : AV) (s42 : St) : R AV :=
  kEql Try.prog (nat_lit 3) v41 (.int .i64 (.ofNat (nat_lit 2))) (fun v43 s44 => kIf0 v43 (fun k s => kFA (nat_lit 0) v0 k s) (fun v45 s46 => kIf0 v43 (fun k s => kLoad1 v45 k s) (fun v47 s48 => kIf0 v43 (fun k s => kEql Try.prog (nat_lit 3) v47 (.int .i64 (.ofNat (nat_lit 9))) k s) (fun v49 s50 => kPick v43 (.bool true) v49 (fun v51 s52 => kIf0 v51 (fun k s => kFA (nat_lit 0) v0 k s) (fun v53 s54 => kIf0 v51 (fun k s => kLoad1 v53 k s) (fun v55 s56 => c16k69 e v51 v55 v0 s56) s54) s52) s50) s48) s46) s44) s42

noncomputable def c16 (e : Ev) (a0 : AV) (s9999 : St) : R AV :=
  kBox a0 (fun v0 s1 => kFA (nat_lit 0) v0 (fun v39 s40 => kLoad1 v39 (fun v41 s42 => c16k70 e v41 v0 s42) s40) s1) s9999

theorem c16_ok (ev : Task → M AV) (a0 : AV) (s : St) : (stepN Try.prog ev (.call 16 [a0])).run s = c16 (runs ev) a0 s :=
  (call_is Try.prog (nt := (nat_lit 39)) Try.func16 rfl (by kernel_rfl) [a0] (by kernel_rfl) (w_seq (w_seq (w_seq (w_as (fun f s => c16j2 (runs ev) (f 1) (f 3) s) (w_seq (w_as (fun f s => c16j6 (runs ev) (f 3) s) w_any (fun _ _ => by kernel_rfl)) (w_seq (w_block (w_loop (fun n f s => c16l9 (runs ev) n (f 1) (f 3) (f 4) s) (fun _ _ => by kernel_rfl) (fun n11 => w_as _ w_any (fun _ _ => by kernel_rfl)))) w_any)) (fun _ _ => by kernel_rfl)) w_any) w_any) w_any) s).trans (by kernel_rfl)

noncomputable def c17j6 (e : Ev) (v7 : AV) (s8 : St) : R AV :=
  .ok v7 s8

noncomputable def c17k38 (e : Ev) (w10 : AV → AV → AV → St → R AV) (v14 v20 v12 v13 : AV) (s21 : St) : R AV :=
  kLss Try.prog (nat_lit 3) v14 v20 (fun v22 s23 => kIf v22 (kFA (nat_lit 7) v12 (fun v24 s25 => kLoad1 v24 (fun v26 s27 => kIA (nat_lit 9) v26 v14 (fun v28 s29 => kLoadN (nat_lit 9) v28 (fun v30 s31 => kBind (e (.call (nat_lit 17) [v30])) (fun v32 s33 => kApp (nat_lit 1) (nat_lit 16) v13 v32 (fun v34 s35 => kAdd Try.prog (nat_lit 3) v14 (.int .i64 (.ofNat (nat_lit 1))) (fun v36 s37 => w10 v12 v34 v36 s37) s35) s33) s31) s29) s27) s25) s23) (c17j6 e v13 s23)) s21

noncomputable def c17l9b (e : Ev) (w10 : AV → AV → AV → St → R AV) (v12 v13 v14 : AV) (s15 : St) : R AV :=
  kFA (nat_lit 7) v12 (fun v16 s17 => kLoad1 v16 (fun v18 s19 => kLenL v18 (fun v20 s21 => c17k38 e w10 v14 v20 v12 v13 s21) s19) s17) s15

noncomputable def c17l9 (e : Ev) (n : Nat) : AV → AV → AV → St → R AV :=
  @Nat.rec (fun _ => AV → AV → AV → St → R AV) (fun _ _ _ _ => .fail) (fun _ w => c17l9b e w) n

noncomputable def c17j2 (e : Ev) (v3 v4 : AV) (s5 : St) : R AV :=
  c17l9 e fuelN v3 v4 (.int .i64 (.ofNat (nat_lit 0))) s5

noncomputable def c17 (e : Ev) (a0 : AV) (s9999 : St) : R AV :=
  kBox a0 (fun v0 s1 => kFA (nat_lit 0) v0 (fun v39 s40 => kLoad1 v39 (fun v41 s42 => kBind (e (.call (nat_lit 25) [v41])) (fun v43 s44 => kIf v43 (kFA (nat_lit 2) v0 (fun v45 s46 => kLoad1 v45 (fun v47 s48 => kBuildSl [(.str (nat_lit 0) (nat_lit 0))] (nat_lit 1) [(some ((nat_lit 0), (nat_lit 1)), v47)] (fun v49 s50 => kApp (nat_lit 1) (nat_lit 16) .nilslice v49 (fun v51 s52 => c17j2 e v0 v51 s52) s50) s48) s46) s44) (c17j2 e v0 .nilslice s44)) s42) s40) s1) s9999

theorem c17_ok (ev : Task → M AV) (a0 : AV) (s : St) : (stepN Try.prog ev (.call 17 [a0])).run s = c17 (runs ev) a0 s :=
  (call_is Try.prog (nt := (nat_lit 29)) Try.func17 rfl (by kernel_rfl) [a0] (by kernel_rfl) (w_seq (w_seq (w_seq (w_as (fun f s => c17j2 (runs ev) (f 1) (f 3) s) (w_seq (w_as (fun f s => c17j6 (runs ev) (f 3) s) w_any (fun _ _ => by kernel_rfl)) (w_seq (w_block (w_loop (fun n f s => c17l9 (runs ev) n (f 1) (f 3) (f 4) s) (fun _ _ => by kernel_rfl) (fun n11 => w_as _ w_any (fun _ _ => by kernel_rfl)))) w_any)) (fun _ _ => by kernel_rfl)) w_any) w_any) w_any) s).trans (by kernel_rfl)

noncomputable def c19j40 (e : Ev) (s41 : St) : R AV :=
  .ok (.bool false) s41

noncomputable def c19k68 (e : Ev) (w43 : AV → AV → St → R AV) (v50 v46 v45 : AV) (s51 : St) : R AV :=
  kLenL v50 (fun v52 s53 => kLss Try.prog (nat_lit 3) v46 v52 (fun v54 s55 => kIf v54 (kFA (nat_lit 7) v45 (fun v56 s57 => kLoad1 v56 (fun v58 s59 => kIA (nat_lit 9) v58 v46 (fun v60 s61 => kLoadN (nat_lit 9) v60 (fun v62 s63 => kBind (e (.call (nat_lit 19) [v62])) (fun v64 s65 => kIf v64 (.ok (.bool true) s65) (kAdd Try.prog (nat_lit 3) v46 (.int .i64 (.ofNat (nat_lit 1))) (fun v66 s67 => w43 v45 v66 s67) s65)) s63) s61) s59) s57) s55) (c19j40 e s55)) s53) s51

noncomputable def c19l42b (e : Ev) (w43 : AV → AV → St → R AV) (v45 v46 : AV) (s47 : St) : R AV :=
  kFA (nat_lit 7) v45 (fun v48 s49 => kLoad1 v48 (fun v50 s51 => c19k68 e w43 v50 v46 v45 s51) s49) s47

noncomputable def c19l42 (e : Ev) (n : Nat) : AV → AV → St → R AV :=
  @Nat.rec (fun _ => AV → AV → St → R AV) (fun _ _ _ => .fail) (fun _ w => c19l42b e w) n

noncomputable def c19k69 (e : Ev) (v22 v26 v0 : AV) (s27 : St) : R AV :=
  kIf0 v22 (fun k s => kEql Try.prog (nat_lit 3) v26 (.int .i64 (.ofNat (nat_lit 12))) k s) (fun v28 s29 => kPick v22 (.bool true) v28 (fun v30 s31 => kIf0 v30 (fun k s => kFA (nat_lit 0) v0 k s) (fun v32 s33 => kIf0 v30 (fun k s => kLoad1 v32 k s) (fun v34 s35 => kIf0 v30 (fun k s => kBind (e (.call (nat_lit 25) [v34])) k s) (fun v36 s37 => kPick v30 (.bool true) v36 (fun v38 s39 => kIf v38 (.ok (.bool true) s39) (c19l42 e fuelN v0 (.int .i64 (.ofNat (nat_lit 0))) s39)) s37) s35) s33) s31) s29) s27

noncomputable def c19k70 (e : Ev) (v6 v12 v0 : AV) (s13 : St) : R AV :=
  kPick v6 (.bool true) v12 (fun v14 s15 => kIf0 v14 (fun k s => kFA (nat_lit 0) v0 k s) (fun v16 s17 => kIf0 v14 (fun k s => kLoad1 v16 k s) (fun v18 s19 => kIf0 v14 (fun k s => kEql Try.prog (nat_lit 3) v18 (.int .i64 (.ofNat (nat_lit 8))) k s) (fun v20 s21 => kPick v14 (.bool true) v20 (fun v22 s23 => kIf0 v22 (fun k s => kFA (nat_lit 0) v0 k s) (fun v24 s25 => kIf0 v22 (fun k s => kLoad1 v24 k s) (fun v26 s27 => c19k69 e v22 v26 v0 s27) s25) s23) s21) s19) s17) s15) s13

noncomputable def c19 (e : Ev) (a0 : AV) (s9999 : St) : R AV :=
  kBox a0 (fun v0 s1 => kFA (nat_lit 0) v0 (fun v2 s3 => kLoad1 v2 (fun v4 s5 => kEql Try.prog (nat_lit 3) v4 (.int .i64 (.ofNat (nat_lit 6))) (fun v6 s7 => kIf0 v6 (fun k s => kFA (nat_lit 0) v0 k s) (fun v8 s9 => kIf0 v6 (fun k s => kLoad1 v8 k s) (fun v10 s11 => kIf0 v6 (fun k s => kEql Try.prog (nat_lit 3) v10 (.int .i64 (.ofNat (nat_lit 7))) k s) (fun v12 s13 => c19k70 e v6 v12 v0 s13) s11) s9) s7) s5) s3) s1) s9999

theorem c19_ok (ev : Task → M AV) (a0 : AV) (s : St) : (stepN Try.prog ev (.call 19 [a0])).run s = c19 (runs ev) a0 s :=
  (call_is Try.prog (nt := (nat_lit 42)) Try.func19 rfl (by kernel_rfl) [a0] (by kernel_rfl) (w_seq (w_seq (w_seq (w_as (fun f s => c19j40 (runs ev) s) w_any (fun _ _ => by kernel_rfl)) (w_seq (w_block (w_loop (fun n f s => c19l42 (runs ev) n (f 1) (f 3) s) (fun _ _ => by kernel_rfl) (fun n44 => w_as _ w_any (fun _ _ => by kernel_rfl)))) w_any)) w_any) w_any) s).trans (by kernel_rfl)

noncomputable def c20k60 (e : Ev) (v38 v20 v0 v36 : AV) (s39 : St) : R AV :=
  kFA (nat_lit 3) v38 (fun v40 s41 => kLg (fun k s => kLoad1 v40 k s) (fun v42 r43 u44 s45 => kNilCheck v20 (fun v46 s47 => kFA (nat_lit 2) v46 (fun v48 s49 => kLg (fun k s => kLoad1 v48 k s) (fun v50 r51 u52 s53 => kLg (fun k s => kStore (nat_lit 1) v0 v36 k s) (fun v54 r55 u56 s57 => ifb (kClash r43 u44 r51 u52 (kClash r43 u44 r55 u56 (kClash r51 u52 r55 u56 false))) .fail (kLoadN (nat_lit 1) v0 (fun v58 s59 => .ok (.tuple [v58, v42, v50]) s59) s57)) s53) s49) s47) s45) s41) s39

noncomputable def c20k67 (e : Ev) (v30 v20 v0 v24 : AV) (s31 : St) : R AV :=
  kLoad1 v30 (fun v32 s33 => kNeq Try.prog (nat_lit 3) v32 (.int .i64 (.ofNat (nat_lit 0))) (fun v34 s35 => kIf v34 (kBuild [.nilslice] [] (fun v36 s37 => kNilCheck v20 (fun v38 s39 => c20k60 e v38 v20 v0 v36 s39) s37) s35) (kLoadN (nat_lit 1) v24 (fun v61 s62 => kStore (nat_lit 1) v0 v61 (fun v63 s64 => kLoadN (nat_lit 1) v0 (fun v65 s66 => .ok (.tuple [v65, (.int .i64 (.ofNat (nat_lit 0))), (.int .i64 (.ofNat (nat_lit 0)))]) s66) s64) s62) s35)) s33) s31

noncomputable def c20k68 (e : Ev) (v4 v0 : AV) (s11 : St) : R AV :=
  kBuild [.nilslice, (.int .i64 (.ofNat (nat_lit 0))), (.int .i64 (.ofNat (nat_lit 0))), (.int .i64 (.ofNat (nat_lit 0))), (.int .i64 (.ofNat (nat_lit 0)))] [(some ((nat_lit 0), (nat_lit 1)), v4)] (fun v18 s19 => kBox v18 (fun v20 s21 => kBind (e (.call (nat_lit 28) [v20])) (fun v22 s23 => kAlloc [.nilslice] (fun v24 s25 => kStore (nat_lit 1) v24 v22 (fun v26 s27 => kNilCheck v20 (fun v28 s29 => kFA (nat_lit 2) v28 (fun v30 s31 => c20k67 e v30 v20 v0 v24 s31) s29) s27) s25) s23) s21) s19) s11

noncomputable def c20 (e : Ev) (a0 : AV) (s9999 : St) : R AV :=
  kAlloc [.nilslice] (fun v0 s1 => kBind (e (.call (nat_lit 27) [a0])) (fun v2 s3 => kExt (nat_lit 0) v2 (fun v4 s5 => kExt (nat_lit 1) v2 (fun v6 s7 => kExt (nat_lit 2) v2 (fun v8 s9 => kNeq Try.prog (nat_lit 3) v8 (.int .i64 (.ofNat (nat_lit 0))) (fun v10 s11 => kIf v10 (kBuild [.nilslice] [] (fun v12 s13 => kStore (nat_lit 1) v0 v12 (fun v14 s15 => kLoadN (nat_lit 1) v0 (fun v16 s17 => .ok (.tuple [v16, v6, v8]) s17) s15) s13) s11) (c20k68 e v4 v0 s11)) s9) s7) s5) s3) s1) s9999

theorem c20_ok (ev : Task → M AV) (a0 : AV) (s : St) : (stepN Try.prog ev (.call 20 [a0])).run s = c20 (runs ev) a0 s :=
  (call_is Try.prog (nt := (nat_lit 41)) Try.func20 rfl (by kernel_rfl) [a0] (by kernel_rfl) w_any s).trans (by kernel_rfl)

noncomputable def c21k146 (e : Ev) (v126 v79 v80 : AV) (s127 : St) : R AV :=
  kIf v126 (.ok (.bool false) s127) (kNilCheck v79 (fun v128 s129 => kFA (nat_lit 0) v128 (fun v130 s131 => kLg (fun k s => kLoad1 v130 k s) (fun v132 r133 u134 s135 => kFA (nat_lit 0) v80 (fun v136 s137 => kLg (fun k s => kLoad1 v136 k s) (fun v138 r139 u140 s141 => kLg (fun k s => kPutS v132 v138 (.int .i64 (.ofNat (nat_lit 1))) k s) (fun v142 r143 u144 s145 => ifb (kClash r133 u134 r139 u140 false) .fail (.ok (.bool true) s145)) s141) s137) s135) s131) s129) s127)

noncomputable def c21k147 (e : Ev) (v100 v112 v102 v106 v79 v80 : AV) (r85 u86 r93 u94 r107 u108 : Nat) (s113 : St) : R AV :=
  kIf0 v100 (fun k s => kFA (nat_lit 1) v112 k s) (fun v114 s115 => kLg (fun k s => kIf0 v100 (fun k s => kLoad1 v114 k s) k s) (fun v116 r117 u118 s119 => kLg (fun k s => kIf0 v100 (fun k s => kBind (e (.call (nat_lit 33) [v102, v106, v116])) k s) k s) (fun v120 r121 u122 s123 => kIf0 v100 (fun k s => kNot v120 k s) (fun v124 s125 => kPick v100 (.bool true) v124 (fun v126 s127 => ifb (kClash r85 u86 r93 u94 (kClash r107 u108 r117 u118 false)) .fail (c21k146 e v126 v79 v80 s127)) s125) s123) s119) s115) s113

noncomputable def c21k148 (e : Ev) (v79 v84 v92 v80 : AV) (r85 u86 r93 u94 : Nat) (s95 : St) : R AV :=
  kLg (fun k s => kBind (e (.call (nat_lit 32) [v79, v84, v92])) k s) (fun v96 r97 u98 s99 => kNot v96 (fun v100 s101 => kIf0 v100 (fun k s => kMv v79 k s) (fun v102 s103 => kIf0 v100 (fun k s => kFA (nat_lit 4) v80 k s) (fun v104 s105 => kLg (fun k s => kIf0 v100 (fun k s => kLoad1 v104 k s) k s) (fun v106 r107 u108 s109 => kIf0 v100 (fun k s => kMv v79 k s) (fun v110 s111 => kIf0 v100 (fun k s => kNilCheck v110 k s) (fun v112 s113 => c21k147 e v100 v112 v102 v106 v79 v80 r85 u86 r93 u94 r107 u108 s113) s111) s109) s105) s103) s101) s99) s95

noncomputable def c21j78 (e : Ev) (v79 v80 : AV) (s81 : St) : R AV :=
  kFA (nat_lit 3) v80 (fun v82 s83 => kLg (fun k s => kLoad1 v82 k s) (fun v84 r85 u86 s87 => kNilCheck v79 (fun v88 s89 => kFA (nat_lit 1) v88 (fun v90 s91 => kLg (fun k s => kLoad1 v90 k s) (fun v92 r93 u94 s95 => c21k148 e v79 v84 v92 v80 r85 u86 r93 u94 s95) s91) s89) s87) s83) s81

noncomputable def c21j173 (e : Ev) (w162 : AV → AV → AV → AV → AV → AV → St → R AV) (v174 v175 v176 v177 v178 v179 : AV) (s180 : St) : R AV :=
  kAdd Try.prog (nat_lit 3) v179 (.int .i64 (.ofNat (nat_lit 1))) (fun v181 s182 => w162 v174 v175 v176 v177 v178 v181 s182) s180

noncomputable def c21k228 (e : Ev) (w162 : AV → AV → AV → AV → AV → AV → St → R AV) (w190 : AV → AV → AV → AV → AV → AV → AV → AV → AV → St → R AV) (v194 v214 v208 v192 v200 v193 v195 v196 v197 v198 v199 : AV) (s215 : St) : R AV :=
  kLookS (.int .i64 (.ofNat (nat_lit 0))) false v194 v214 (fun v216 s217 => kEql Try.prog (nat_lit 3) v216 (.int .i64 (.ofNat (nat_lit 0))) (fun v218 s219 => kIf v218 (kFA (nat_lit 4) v208 (fun v220 s221 => kLoad1 v220 (fun v222 s223 => kBind (e (.call (nat_lit 29) [v192, v222, (.int .i64 (.ofNat (nat_lit 24)))])) (fun v224 s225 => .ok v224 s225) s223) s221) s219) (kAdd Try.prog (nat_lit 3) v200 (.int .i64 (.ofNat (nat_lit 1))) (fun v226 s227 => w190 v192 v193 v194 v195 v196 v197 v198 v199 v226 s227) s219)) s217) s215

noncomputable def c21k229 (e : Ev) (w162 : AV → AV → AV → AV → AV → AV → St → R AV) (w190 : AV → AV → AV → AV → AV → AV → AV → AV → AV → St → R AV) (v198 v200 v194 v192 v193 v195 v196 v197 v199 : AV) (s203 : St) : R AV :=
  kIA (nat_lit 5) v198 v200 (fun v204 s205 => kLoadN (nat_lit 5) v204 (fun v206 s207 => kAlloc [(.str (nat_lit 0) (nat_lit 0)), (.int .i64 (.ofNat (nat_lit 0))), (.int .i64 (.ofNat (nat_lit 0))), .nilslice, (.int .i64 (.ofNat (nat_lit 0)))] (fun v208 s209 => kStore (nat_lit 5) v208 v206 (fun v210 s211 => kFA (nat_lit 0) v208 (fun v212 s213 => kLoad1 v212 (fun v214 s215 => c21k228 e w162 w190 v194 v214 v208 v192 v200 v193 v195 v196 v197 v198 v199 s215) s213) s211) s209) s207) s205) s203

noncomputable def c21l189b (e : Ev) (w162 : AV → AV → AV → AV → AV → AV → St → R AV) (w190 : AV → AV → AV → AV → AV → AV → AV → AV → AV → St → R AV) (v192 v193 v194 v195 v196 v197 v198 v199 v200 : AV) (s201 : St) : R AV :=
  kLss Try.prog (nat_lit 3) v200 v199 (fun v202 s203 => kIf v202 (c21k229 e w162 w190 v198 v200 v194 v192 v193 v195 v196 v197 v199 s203) (c21j173 e w162 v192 v193 v194 v195 v196 v197 s203)) s201

noncomputable def c21l189 (e : Ev) (w162 : AV → AV → AV → AV → AV → AV → St → R AV) (n : Nat) : AV → AV → AV → AV → AV → AV → AV → AV → AV → St → R AV :=
  @Nat.rec (fun _ => AV → AV → AV → AV → AV → AV → AV → AV → AV → St → R AV) (fun _ _ _ _ _ _ _ _ _ _ => .fail) (fun _ w => c21l189b e w162 w) n

noncomputable def c21l161b (e : Ev) (w162 : AV → AV → AV → AV → AV → AV → St → R AV) (v164 v165 v166 v167 v168 v169 : AV) (s170 : St) : R AV :=
  kLss Try.prog (nat_lit 3) v169 v168 (fun v171 s172 => kIf v171 (kIA (nat_lit 1) v167 v169 (fun v183 s184 => kLoad1 v183 (fun v185 s186 => kLenL v185 (fun v187 s188 => c21l189 e w162 fuelN v164 v165 v166 v167 v168 v169 v185 v187 (.int .i64 (.ofNat (nat_lit 0))) s188) s186) s184) s172) (c21j78 e v164 v165 s172)) s170

noncomputable def c21l161 (e : Ev) (n : Nat) : AV → AV → AV → AV → AV → AV → St → R AV :=
  @Nat.rec (fun _ => AV → AV → AV → AV → AV → AV → St → R AV) (fun _ _ _ _ _ _ _ => .fail) (fun _ w => c21l161b e w) n

noncomputable def c21k230 (e : Ev) (v74 v0 a0 v68 : AV) (s75 : St) : R AV :=
  kNot v74 (fun v76 s77 => kIf v76 (.ok (.bool false) s77) (kFA (nat_lit 2) v0 (fun v149 s150 => kLoad1 v149 (fun v151 s152 => kFA (nat_lit 3) v0 (fun v153 s154 => kLoad1 v153 (fun v155 s156 => kBuildSl [.nilslice, .nilslice] (nat_lit 2) [(some ((nat_lit 0), (nat_lit 1)), v151), (some ((nat_lit 1), (nat_lit 1)), v155)] (fun v157 s158 => kLenL v157 (fun v159 s160 => c21l161 e fuelN a0 v0 v68 v157 v159 (.int .i64 (.ofNat (nat_lit 0))) s160) s158) s156) s154) s152) s150) s77)) s75

noncomputable def c21k231 (e : Ev) (v54 v56 v60 v0 a0 : AV) (s61 : St) : R AV :=
  kIf0 v54 (fun k s => kBind (e (.call (nat_lit 30) [v56, v60, (.int .i64 (.ofNat (nat_lit 2)))])) k s) (fun v62 s63 => kIf0 v54 (fun k s => kNot v62 k s) (fun v64 s65 => kPick v54 (.bool true) v64 (fun v66 s67 => kIf v66 (.ok (.bool false) s67) (kNewMap (fun v68 s69 => kFA (nat_lit 4) v0 (fun v70 s71 => kLoad1 v70 (fun v72 s73 => kBind (e (.call (nat_lit 31) [a0, v72, v68])) (fun v74 s75 => c21k230 e v74 v0 a0 v68 s75) s73) s71) s69) s67)) s65) s63) s61

noncomputable def c21k232 (e : Ev) (v42 v46 v44 a0 v0 : AV) (s47 : St) : R AV :=
  kIf0 v42 (fun k s => kLoad1 v46 k s) (fun v48 s49 => kIf0 v42 (fun k s => kBind (e (.call (nat_lit 30) [v44, v48, (.int .i64 (.ofNat (nat_lit 2)))])) k s) (fun v50 s51 => kIf0 v42 (fun k s => kNot v50 k s) (fun v52 s53 => kPick v42 (.bool true) v52 (fun v54 s55 => kIf0 v54 (fun k s => kMv a0 k s) (fun v56 s57 => kIf0 v54 (fun k s => kFA (nat_lit 3) v0 k s) (fun v58 s59 => kIf0 v54 (fun k s => kLoad1 v58 k s) (fun v60 s61 => c21k231 e v54 v56 v60 v0 a0 s61) s59) s57) s55) s53) s51) s49) s47

noncomputable def c21k233 (e : Ev) (a0 v28 v0 : AV) (s29 : St) : R AV :=
  kNilCheck a0 (fun v30 s31 => kFA (nat_lit 1) v30 (fun v32 s33 => kStore (nat_lit 1) v32 v28 (fun v34 s35 => kFA (nat_lit 1) v0 (fun v36 s37 => kLoad1 v36 (fun v38 s39 => kBind (e (.call (nat_lit 30) [a0, v38, (.int .i64 (.ofNat (nat_lit 1)))])) (fun v40 s41 => kNot v40 (fun v42 s43 => kIf0 v42 (fun k s => kMv a0 k s) (fun v44 s45 => kIf0 v42 (fun k s => kFA (nat_lit 2) v0 k s) (fun v46 s47 => c21k232 e v42 v46 v44 a0 v0 s47) s45) s43) s41) s39) s37) s35) s33) s31) s29

noncomputable def c21k234 (e : Ev) (v6 v12 v0 a0 : AV) (r7 u8 r13 u14 : Nat) (s15 : St) : R AV :=
  kLg (fun k s => kLookS (.int .i64 (.ofNat (nat_lit 0))) false v6 v12 k s) (fun v16 r17 u18 s19 => kNeq Try.prog (nat_lit 3) v16 (.int .i64 (.ofNat (nat_lit 0))) (fun v20 s21 => ifb (kClash r7 u8 r13 u14 false) .fail (kIf v20 (kFA (nat_lit 5) v0 (fun v22 s23 => kLoad1 v22 (fun v24 s25 => kBind (e (.call (nat_lit 29) [a0, v24, (.int .i64 (.ofNat (nat_lit 20)))])) (fun v26 s27 => .ok v26 s27) s25) s23) s21) (kNewMap (fun v28 s29 => c21k233 e a0 v28 v0 s29) s21))) s19) s15

noncomputable def c21 (e : Ev) (a0 a1 : AV) (s9999 : St) : R AV :=
  kBox a1 (fun v0 s1 => kNilCheck a0 (fun v2 s3 => kFA (nat_lit 0) v2 (fun v4 s5 => kLg (fun k s => kLoad1 v4 k s) (fun v6 r7 u8 s9 => kFA (nat_lit 0) v0 (fun v10 s11 => kLg (fun k s => kLoad1 v10 k s) (fun v12 r13 u14 s15 => c21k234 e v6 v12 v0 a0 r7 u8 r13 u14 s15) s11) s9) s5) s3) s1) s9999

theorem c21_ok (ev : Task → M AV) (a0 a1 : AV) (s : St) : (stepN Try.prog ev (.call 21 [a0, a1])).run s = c21 (runs ev) a0 a1 s :=
  (call_is Try.prog (nt := (nat_lit 105)) Try.func21 rfl (by kernel_rfl) [a0, a1] (by kernel_rfl) (w_seq (w_seq (w_seq (w_seq (w_seq (w_seq (w_seq (w_as (fun f s => c21j78 (runs ev) (f 0) (f 3) s) w_any (fun _ _ => by kernel_rfl)) (w_seq (w_block (w_loop (fun n f s => c21l161 (runs ev) n (f 0) (f 3) (f 5) (f 56) (f 57) (f 58) s) (fun _ _ => by kernel_rfl) (fun n163 => w_as _ (w_seq (w_seq (w_seq (w_as (fun f s => c21j173 (runs ev) (c21l161 (runs ev) n163) (f 0) (f 3) (f 5) (f 56) (f 57) (f 58) s) w_any (fun _ _ => by kernel_rfl)) (w_block (w_seq (w_seq (w_block (w_loop (fun n f s => c21l189 (runs ev) (c21l161 (runs ev) n163) n (f 0) (f 3) (f 5) (f 56) (f 57) (f 58) (f 62) (f 63) (f 64) s) (fun _ _ => by kernel_rfl) (fun n191 => w_as _ w_any (fun _ _ => by kernel_rfl)))) w_any) w_any))) w_any) w_any) (fun _ _ => by kernel_rfl)))) w_any)) w_any) w_any) w_any) w_any) w_any) w_any) s).trans (by kernel_rfl)

noncomputable def c23j6 (e : Ev) (v7 : AV) (s8 : St) : R AV :=
  kFA (nat_lit 2) v7 (fun v9 s10 => kLoad1 v9 (fun v11 s12 => .ok (.tuple [v11, (.bool true)]) s12) s10) s8

noncomputable def c23j15 (e : Ev) (v16 v17 : AV) (s18 : St) : R AV :=
  kIf v17 (c23j6 e v16 s18) (.ok (.tuple [(.str (nat_lit 0) (nat_lit 0)), (.bool false)]) s18)

noncomputable def c23 (e : Ev) (a0 : AV) (s9999 : St) : R AV :=
  kBox a0 (fun v0 s1 => kFA (nat_lit 0) v0 (fun v2 s3 => kLoad1 v2 (fun v4 s5 => kEql Try.prog (nat_lit 3) v4 (.int .i64 (.ofNat (nat_lit 2))) (fun v13 s14 => kIf v13 (c23j6 e v0 s14) (kEql Try.prog (nat_lit 3) v4 (.int .i64 (.ofNat (nat_lit 9))) (fun v19 s20 => kIf v19 (c23j15 e v0 v19 s20) (kEql Try.prog (nat_lit 3) v4 (.int .i64 (.ofNat (nat_lit 10))) (fun v21 s22 => c23j15 e v0 v21 s22) s20)) s14)) s5) s3) s1) s9999

theorem c23_ok (ev : Task → M AV) (a0 : AV) (s : St) : (stepN Try.prog ev (.call 23 [a0])).run s = c23 (runs ev) a0 s :=
  (call_is Try.prog (nt := (nat_lit 13)) Try.func23 rfl (by kernel_rfl) [a0] (by kernel_rfl) (w_seq (w_seq w_any (w_seq (w_block (w_seq (w_as (fun f s => c23j6 (runs ev) (f 1) s) w_any (fun _ _ => by kernel_rfl)) (w_block (w_block (w_seq w_any (w_seq (w_seq (w_as (fun f s => c23j15 (runs ev) (f 1) (f 8) s) w_any (fun _ _ => by kernel_rfl)) w_any) w_any)))))) w_any)) w_any) s).trans (by kernel_rfl)

noncomputable def c24j6 (e : Ev) (v7 : AV) (s8 : St) : R AV :=
  kFA (nat_lit 2) v7 (fun v9 s10 => kLoad1 v9 (fun v11 s12 => .ok (.tuple [v11, (.bool true)]) s12) s10) s8

noncomputable def c24j18 (e : Ev) (v19 v20 : AV) (s21 : St) : R AV :=
  kIf v20 (c24j6 e v19 s21) (.ok (.tuple [(.str (nat_lit 0) (nat_lit 0)), (.bool false)]) s21)

noncomputable def c24j13 (e : Ev) (v14 v15 v16 : AV) (s17 : St) : R AV :=
  kIf v16 (c24j6 e v14 s17) (kEql Try.prog (nat_lit 3) v15 (.int .i64 (.ofNat (nat_lit 18))) (fun v22 s23 => kIf v22 (c24j18 e v14 v22 s23) (kEql Try.prog (nat_lit 3) v15 (.int .i64 (.ofNat (nat_lit 19))) (fun v24 s25 => c24j18 e v14 v24 s25) s23)) s17)

noncomputable def c24 (e : Ev) (a0 : AV) (s9999 : St) : R AV :=
  kBox a0 (fun v0 s1 => kFA (nat_lit 0) v0 (fun v2 s3 => kLoad1 v2 (fun v4 s5 => kEql Try.prog (nat_lit 3) v4 (.int .i64 (.ofNat (nat_lit 13))) (fun v26 s27 => kIf v26 (c24j13 e v0 v4 v26 s27) (kEql Try.prog (nat_lit 3) v4 (.int .i64 (.ofNat (nat_lit 14))) (fun v28 s29 => c24j13 e v0 v4 v28 s29) s27)) s5) s3) s1) s9999

theorem c24_ok (ev : Task → M AV) (a0 : AV) (s : St) : (stepN Try.prog ev (.call 24 [a0])).run s = c24 (runs ev) a0 s :=
  (call_is Try.prog (nt := (nat_lit 14)) Try.func24 rfl (by kernel_rfl) [a0] (by kernel_rfl) (w_seq (w_seq w_any (w_seq (w_block (w_seq (w_as (fun f s => c24j6 (runs ev) (f 1) s) w_any (fun _ _ => by kernel_rfl)) (w_block (w_block (w_seq w_any (w_seq (w_seq (w_as (fun f s => c24j18 (runs ev) (f 1) (f 9) s) w_any (fun _ _ => by kernel_rfl)) w_any) (w_seq (w_as (fun f s => c24j13 (runs ev) (f 1) (f 5) (f 6) s) w_any (fun _ _ => by kernel_rfl)) w_any))))))) w_any)) w_any) s).trans (by kernel_rfl)

noncomputable def c25k20 (e : Ev) (v0 v4 a0 : AV) (s5 : St) : R AV :=
  kPick v0 (.bool true) v4 (fun v6 s7 => kIf0 v6 (fun k s => kMv a0 k s) (fun v8 s9 => kIf0 v6 (fun k s => kEql Try.prog (nat_lit 3) v8 (.int .i64 (.ofNat (nat_lit 18))) k s) (fun v10 s11 => kPick v6 (.bool true) v10 (fun v12 s13 => kIf0 v12 (fun k s => kMv a0 k s) (fun v14 s15 => kIf0 v12 (fun k s => kEql Try.prog (nat_lit 3) v14 (.int .i64 (.ofNat (nat_lit 19))) k s) (fun v16 s17 => kPick v12 (.bool true) v16 (fun v18 s19 => .ok v18 s19) s17) s15) s13) s11) s9) s7) s5

noncomputable def c25 (e : Ev) (a0 : AV) (s9999 : St) : R AV :=
  kEql Try.prog (nat_lit 3) a0 (.int .i64 (.ofNat (nat_lit 13))) (fun v0 s1 => kIf0 v0 (fun k s => kMv a0 k s) (fun v2 s3 => kIf0 v0 (fun k s => kEql Try.prog (nat_lit 3) v2 (.int .i64 (.ofNat (nat_lit 14))) k s) (fun v4 s5 => c25k20 e v0 v4 a0 s5) s3) s1) s9999

theorem c25_ok (ev : Task → M AV) (a0 : AV) (s : St) : (stepN Try.prog ev (.call 25 [a0])).run s = c25 (runs ev) a0 s :=
  (call_is Try.prog (nt := (nat_lit 17)) Try.func25 rfl (by kernel_rfl) [a0] (by kernel_rfl) w_any s).trans (by kernel_rfl)

noncomputable def c26 (e : Ev) (a0 : AV) (s9999 : St) : R AV :=
  kBox a0 (fun v0 s1 => .ok (.func (.func (nat_lit 34)) [] [v0]) s1) s9999

theorem c26_ok (ev : Task → M AV) (a0 : AV) (s : St) : (stepN Try.prog ev (.call 26 [a0])).run s = c26 (runs ev) a0 s :=
  (call_is Try.prog (nt := (nat_lit 4)) Try.func26 rfl (by kernel_rfl) [a0] (by kernel_rfl) w_any s).trans (by kernel_rfl)

noncomputable def c27k52 (e : Ev) (w5 : AV → AV → AV → St → R AV) (v24 v34 v26 v25 v23 : AV) (s35 : St) : R AV :=
  kApp (nat_lit 6) (nat_lit 56) v24 v34 (fun v36 s37 => kFA (nat_lit 0) v26 (fun v38 s39 => kLoad1 v38 (fun v40 s41 => kEql Try.prog (nat_lit 3) v40 (.int .i64 (.ofNat (nat_lit 5))) (fun v42 s43 => kIf v42 (.ok (.tuple [v36, (.int .i64 (.ofNat (nat_lit 0))), (.int .i64 (.ofNat (nat_lit 0)))]) s43) (kFA (nat_lit 1) v26 (fun v44 s45 => kLoad1 v44 (fun v46 s47 => kLenS v46 (fun v48 s49 => kAdd Try.prog (nat_lit 3) v25 v48 (fun v50 s51 => w5 v23 v36 v50 s51) s49) s47) s45) s43)) s41) s39) s37) s35

noncomputable def c27k53 (e : Ev) (w5 : AV → AV → AV → St → R AV) (v28 v25 v26 v24 v23 : AV) (s29 : St) : R AV :=
  kGeq Try.prog (nat_lit 3) v28 (.int .i64 (.ofNat (nat_lit 20000))) (fun v30 s31 => kIf v30 (.ok (.tuple [.nilslice, v25, (.int .i64 (.ofNat (nat_lit 2)))]) s31) (kLoadN (nat_lit 6) v26 (fun v32 s33 => kBuildSl [(.int .i64 (.ofNat (nat_lit 0))), (.str (nat_lit 0) (nat_lit 0)), (.int .i64 (.ofNat (nat_lit 0))), (.int .i64 (.ofNat (nat_lit 0))), (.int .i64 (.ofNat (nat_lit 0))), (.int .i64 (.ofNat (nat_lit 0)))] (nat_lit 1) [(some ((nat_lit 0), (nat_lit 6)), v32)] (fun v34 s35 => c27k52 e w5 v24 v34 v26 v25 v23 s35) s33) s31)) s29

noncomputable def c27j22 (e : Ev) (w5 : AV → AV → AV → St → R AV) (v23 v24 v25 v26 : AV) (s27 : St) : R AV :=
  kLenL v24 (fun v28 s29 => c27k53 e w5 v28 v25 v26 v24 v23 s29) s27

noncomputable def c27k74 (e : Ev) (w5 : AV → AV → AV → St → R AV) (v60 v62 v14 v18 v12 v13 : AV) (s63 : St) : R AV :=
  kAlloc [(.int .i64 (.ofNat (nat_lit 0))), (.str (nat_lit 0) (nat_lit 0)), (.int .i64 (.ofNat (nat_lit 0))), (.int .i64 (.ofNat (nat_lit 0))), (.int .i64 (.ofNat (nat_lit 0))), (.int .i64 (.ofNat (nat_lit 0)))] (fun v64 s65 => kStore (nat_lit 6) v64 v60 (fun v66 s67 => kNeq Try.prog (nat_lit 3) v62 (.int .i64 (.ofNat (nat_lit 0))) (fun v68 s69 => kIf v68 (.ok (.tuple [.nilslice, v14, v62]) s69) (kLoadN (nat_lit 6) v64 (fun v70 s71 => kStore (nat_lit 6) v18 v70 (fun v72 s73 => c27j22 e w5 v12 v13 v14 v18 s73) s71) s69)) s67) s65) s63

noncomputable def c27k75 (e : Ev) (w5 : AV → AV → AV → St → R AV) (v16 v12 v14 v13 : AV) (s17 : St) : R AV :=
  kAlloc [(.int .i64 (.ofNat (nat_lit 0))), (.str (nat_lit 0) (nat_lit 0)), (.int .i64 (.ofNat (nat_lit 0))), (.int .i64 (.ofNat (nat_lit 0))), (.int .i64 (.ofNat (nat_lit 0))), (.int .i64 (.ofNat (nat_lit 0)))] (fun v18 s19 => kStore (nat_lit 6) v18 v16 (fun v20 s21 => kLenS v12 (fun v54 s55 => kLss Try.prog (nat_lit 3) v14 v54 (fun v56 s57 => kIf v56 (kBind (e (.call (nat_lit 36) [v12, v14])) (fun v58 s59 => kExt (nat_lit 0) v58 (fun v60 s61 => kExt (nat_lit 1) v58 (fun v62 s63 => c27k74 e w5 v60 v62 v14 v18 v12 v13 s63) s61) s59) s57) (c27j22 e w5 v12 v13 v14 v18 s57)) s55) s21) s19) s17

noncomputable def c27j11 (e : Ev) (w5 : AV → AV → AV → St → R AV) (v12 v13 v14 : AV) (s15 : St) : R AV :=
  kBuild [(.int .i64 (.ofNat (nat_lit 0))), (.str (nat_lit 0) (nat_lit 0)), (.int .i64 (.ofNat (nat_lit 0))), (.int .i64 (.ofNat (nat_lit 0))), (.int .i64 (.ofNat (nat_lit 0))), (.int .i64 (.ofNat (nat_lit 0)))] [(some ((nat_lit 0), (nat_lit 1)), (.int .i64 (.ofNat (nat_lit 5)))), (some ((nat_lit 5), (nat_lit 1)), v14)] (fun v16 s17 => c27k75 e w5 v16 v12 v14 v13 s17) s15

noncomputable def c27k174 (e : Ev) (w5 : AV → AV → AV → St → R AV) (w77 : AV → AV → AV → St → R AV) (w152 : AV → AV → AV → St → R AV) (v160 v154 v156 v155 : AV) (s161 : St) : R AV :=
  kIf1 v160 (fun k s => kMv v154 k s) (fun v162 s163 => kIf1 v160 (fun k s => kMv v156 k s) (fun v164 s165 => kIf1 v160 (fun k s => kIdxS v162 v164 k s) (fun v166 s167 => kIf1 v160 (fun k s => kNeq Try.prog (nat_lit 5) v166 (.int .u8 (.ofNat (nat_lit 10))) k s) (fun v168 s169 => kPick v160 v168 (.bool false) (fun v170 s171 => kIf v170 (kAdd Try.prog (nat_lit 3) v156 (.int .i64 (.ofNat (nat_lit 1))) (fun v172 s173 => w152 v154 v155 v172 s173) s171) (w77 v154 v155 v156 s171)) s169) s167) s165) s163) s161

noncomputable def c27l151b (e : Ev) (w5 : AV → AV → AV → St → R AV) (w77 : AV → AV → AV → St → R AV) (w152 : AV → AV → AV → St → R AV) (v154 v155 v156 : AV) (s157 : St) : R AV :=
  kLenS v154 (fun v158 s159 => kLss Try.prog (nat_lit 3) v156 v158 (fun v160 s161 => c27k174 e w5 w77 w152 v160 v154 v156 v155 s161) s159) s157

noncomputable def c27l151 (e : Ev) (w5 : AV → AV → AV → St → R AV) (w77 : AV → AV → AV → St → R AV) (n : Nat) : AV → AV → AV → St → R AV :=
  @Nat.rec (fun _ => AV → AV → AV → St → R AV) (fun _ _ _ _ => .fail) (fun _ w => c27l151b e w5 w77 w) n

noncomputable def c27k175 (e : Ev) (w5 : AV → AV → AV → St → R AV) (w77 : AV → AV → AV → St → R AV) (v137 v81 v139 v79 v80 : AV) (s140 : St) : R AV :=
  kIf1 v137 (fun k s => kMv v81 k s) (fun v141 s142 => kIf1 v137 (fun k s => kAdd Try.prog (nat_lit 3) v141 (.int .i64 (.ofNat (nat_lit 1))) k s) (fun v143 s144 => kIf1 v137 (fun k s => kIdxS v139 v143 k s) (fun v145 s146 => kIf1 v137 (fun k s => kEql Try.prog (nat_lit 5) v145 (.int .u8 (.ofNat (nat_lit 45))) k s) (fun v147 s148 => kPick v137 v147 (.bool false) (fun v149 s150 => kIf v149 (c27l151 e w5 w77 fuelN v79 v80 v81 s150) (c27j11 e w5 v79 v80 v81 s150)) s148) s146) s144) s142) s140

noncomputable def c27k176 (e : Ev) (w5 : AV → AV → AV → St → R AV) (w77 : AV → AV → AV → St → R AV) (v125 v127 v79 v81 v80 : AV) (s128 : St) : R AV :=
  kIf1 v125 (fun k s => kAdd Try.prog (nat_lit 3) v127 (.int .i64 (.ofNat (nat_lit 1))) k s) (fun v129 s130 => kIf1 v125 (fun k s => kMv v79 k s) (fun v131 s132 => kIf1 v125 (fun k s => kLenS v131 k s) (fun v133 s134 => kIf1 v125 (fun k s => kLss Try.prog (nat_lit 3) v129 v133 k s) (fun v135 s136 => kPick v125 v135 (.bool false) (fun v137 s138 => kIf1 v137 (fun k s => kMv v79 k s) (fun v139 s140 => c27k175 e w5 w77 v137 v81 v139 v79 v80 s140) s138) s136) s134) s132) s130) s128

noncomputable def c27k177 (e : Ev) (w5 : AV → AV → AV → St → R AV) (w77 : AV → AV → AV → St → R AV) (v109 v115 v81 v79 v80 : AV) (s116 : St) : R AV :=
  kIf0 v109 (fun k s => kEql Try.prog (nat_lit 5) v115 (.int .u8 (.ofNat (nat_lit 13))) k s) (fun v117 s118 => kPick v109 (.bool true) v117 (fun v119 s120 => kIf v119 (kAdd Try.prog (nat_lit 3) v81 (.int .i64 (.ofNat (nat_lit 1))) (fun v121 s122 => w77 v79 v80 v121 s122) s120) (kIdxS v79 v81 (fun v123 s124 => kEql Try.prog (nat_lit 5) v123 (.int .u8 (.ofNat (nat_lit 45))) (fun v125 s126 => kIf1 v125 (fun k s => kMv v81 k s) (fun v127 s128 => c27k176 e w5 w77 v125 v127 v79 v81 v80 s128) s126) s124) s120)) s118) s116

noncomputable def c27k178 (e : Ev) (w5 : AV → AV → AV → St → R AV) (w77 : AV → AV → AV → St → R AV) (v99 v101 v103 v79 v81 v80 : AV) (s104 : St) : R AV :=
  kIf0 v99 (fun k s => kIdxS v101 v103 k s) (fun v105 s106 => kIf0 v99 (fun k s => kEql Try.prog (nat_lit 5) v105 (.int .u8 (.ofNat (nat_lit 10))) k s) (fun v107 s108 => kPick v99 (.bool true) v107 (fun v109 s110 => kIf0 v109 (fun k s => kMv v79 k s) (fun v111 s112 => kIf0 v109 (fun k s => kMv v81 k s) (fun v113 s114 => kIf0 v109 (fun k s => kIdxS v111 v113 k s) (fun v115 s116 => c27k177 e w5 w77 v109 v115 v81 v79 v80 s116) s114) s112) s110) s108) s106) s104

noncomputable def c27k179 (e : Ev) (w5 : AV → AV → AV → St → R AV) (w77 : AV → AV → AV → St → R AV) (v89 v79 v81 v80 : AV) (s90 : St) : R AV :=
  kIf0 v89 (fun k s => kMv v79 k s) (fun v91 s92 => kIf0 v89 (fun k s => kMv v81 k s) (fun v93 s94 => kIf0 v89 (fun k s => kIdxS v91 v93 k s) (fun v95 s96 => kIf0 v89 (fun k s => kEql Try.prog (nat_lit 5) v95 (.int .u8 (.ofNat (nat_lit 9))) k s) (fun v97 s98 => kPick v89 (.bool true) v97 (fun v99 s100 => kIf0 v99 (fun k s => kMv v79 k s) (fun v101 s102 => kIf0 v99 (fun k s => kMv v81 k s) (fun v103 s104 => c27k178 e w5 w77 v99 v101 v103 v79 v81 v80 s104) s102) s100) s98) s96) s94) s92) s90

noncomputable def c27l76b (e : Ev) (w5 : AV → AV → AV → St → R AV) (w77 : AV → AV → AV → St → R AV) (v79 v80 v81 : AV) (s82 : St) : R AV :=
  kLenS v79 (fun v83 s84 => kLss Try.prog (nat_lit 3) v81 v83 (fun v85 s86 => kIf v85 (kIdxS v79 v81 (fun v87 s88 => kEql Try.prog (nat_lit 5) v87 (.int .u8 (.ofNat (nat_lit 32))) (fun v89 s90 => c27k179 e w5 w77 v89 v79 v81 v80 s90) s88) s86) (c27j11 e w5 v79 v80 v81 s86)) s84) s82

noncomputable def c27l76 (e : Ev) (w5 : AV → AV → AV → St → R AV) (n : Nat) : AV → AV → AV → St → R AV :=
  @Nat.rec (fun _ => AV → AV → AV → St → R AV) (fun _ _ _ _ => .fail) (fun _ w => c27l76b e w5 w) n

noncomputable def c27l4b (e : Ev) (w5 : AV → AV → AV → St → R AV) (v7 v8 v9 : AV) (s10 : St) : R AV :=
  c27l76 e w5 fuelN v7 v8 v9 s10

noncomputable def c27l4 (e : Ev) (n : Nat) : AV → AV → AV → St → R AV :=
  @Nat.rec (fun _ => AV → AV → AV → St → R AV) (fun _ _ _ _ => .fail) (fun _ w => c27l4b e w) n

noncomputable def c27 (e : Ev) (a0 : AV) (s9999 : St) : R AV :=
  kLenS a0 (fun v0 s1 => kGtr Try.prog (nat_lit 3) v0 (.int .i64 (.ofNat (nat_lit 65536))) (fun v2 s3 => kIf v2 (.ok (.tuple [.nilslice, (.int .i64 (.ofNat (nat_lit 0))), (.int .i64 (.ofNat (nat_lit 2)))]) s3) (c27l4 e fuelN a0 .nilslice (.int .i64 (.ofNat (nat_lit 0))) s3)) s1) s9999

theorem c27_ok (ev : Task → M AV) (a0 : AV) (s : St) : (stepN Try.prog ev (.call 27 [a0])).run s = c27 (runs ev) a0 s :=
  (call_is Try.prog (nt := (nat_lit 105)) Try.func27 rfl (by kernel_rfl) [a0] (by kernel_rfl) (w_seq (w_seq (w_seq (w_seq (w_block (w_loop (fun n f s => c27l4 (runs ev) n (f 0) (f 5) (f 6) s) (fun _ _ => by kernel_rfl) (fun n6 => w_as _ (w_block (w_seq (w_as (fun f s => c27j11 (runs ev) (c27l4 (runs ev) n6) (f 0) (f 5) (f 6) s) (w_seq (w_seq (w_as (fun f s => c27j22 (runs ev) (c27l4 (runs ev) n6) (f 0) (f 5) (f 6) (f 7) s) w_any (fun _ _ => by kernel_rfl)) w_any) w_any) (fun _ _ => by kernel_rfl)) (w_block (w_loop (fun n f s => c27l76 (runs ev) (c27l4 (runs ev) n6) n (f 0) (f 5) (f 6) s) (fun _ _ => by kernel_rfl) (fun n78 => w_as _ (w_seq (w_block (w_seq (w_cond w_any (w_seq (w_cond (w_block (w_loop (fun n f s => c27l151 (runs ev) (c27l4 (runs ev) n6) (c27l76 (runs ev) (c27l4 (runs ev) n6) n78) n (f 0) (f 5) (f 6) s) (fun _ _ => by kernel_rfl) (fun n153 => w_as _ w_any (fun _ _ => by kernel_rfl)))) w_any) w_any)) w_any)) w_any) (fun _ _ => by kernel_rfl)))))) (fun _ _ => by kernel_rfl)))) w_any) w_any) w_any) w_any) s).trans (by kernel_rfl)

noncomputable def c28j4 (e : Ev) (v5 v6 : AV) (s7 : St) : R AV :=
  kLoadN (nat_lit 1) v6 (fun v8 s9 => kStore (nat_lit 1) v5 v8 (fun v10 s11 => kLoadN (nat_lit 1) v5 (fun v12 s13 => .ok v12 s13) s11) s9) s7

noncomputable def c28k77 (e : Ev) (w15 : AV → AV → AV → St → R AV) (v59 v55 v19 v17 v18 : AV) (r56 u57 r60 u61 : Nat) (s62 : St) : R AV :=
  kLg (fun k s => kBuildSl [(.str (nat_lit 0) (nat_lit 0)), .nilslice, .nilslice, .nilslice, .nilslice, (.int .i64 (.ofNat (nat_lit 0)))] (nat_lit 1) [(some ((nat_lit 0), (nat_lit 6)), v59)] k s) (fun v63 r64 u65 s66 => kLg (fun k s => kApp (nat_lit 6) (nat_lit 120) v55 v63 k s) (fun v67 r68 u69 s70 => kFA (nat_lit 0) v19 (fun v71 s72 => kLg (fun k s => kStore (nat_lit 1) v71 v67 k s) (fun v73 r74 u75 s76 => ifb (kClash r56 u57 r60 u61 (kClash r56 u57 r64 u65 false)) .fail (w15 v17 v18 v19 s76)) s72) s70) s66) s62

noncomputable def c28k78 (e : Ev) (w15 : AV → AV → AV → St → R AV) (v19 v17 v18 : AV) (s42 : St) : R AV :=
  kFA (nat_lit 0) v19 (fun v45 s46 => kLoad1 v45 (fun v47 s48 => kLenL v47 (fun v49 s50 => kBind (e (.call (nat_lit 40) [v17, v49, (.int .i64 (.ofNat (nat_lit 60)))])) (fun v51 s52 => kIf v51 (c28j4 e v18 v19 s52) (kFA (nat_lit 0) v19 (fun v53 s54 => kLg (fun k s => kLoad1 v53 k s) (fun v55 r56 u57 s58 => kLg (fun k s => kBind (e (.call (nat_lit 41) [v17])) k s) (fun v59 r60 u61 s62 => c28k77 e w15 v59 v55 v19 v17 v18 r56 u57 r60 u61 s62) s58) s54) s52)) s50) s48) s46) s42

noncomputable def c28k79 (e : Ev) (w15 : AV → AV → AV → St → R AV) (v27 v33 v17 v18 v19 : AV) (s34 : St) : R AV :=
  kIf1 v27 (fun k s => kNeq Try.prog (nat_lit 3) v33 (.int .i64 (.ofNat (nat_lit 5))) k s) (fun v35 s36 => kPick v27 v35 (.bool false) (fun v37 s38 => kIf v37 (kBind (e (.call (nat_lit 38) [v17, (.str (nat_lit 4) (nat_lit 1701080942))])) (fun v39 s40 => kNot v39 (fun v41 s42 => kIf v41 (kBind (e (.call (nat_lit 39) [v17, (.int .i64 (.ofNat (nat_lit 12)))])) (fun v43 s44 => c28j4 e v18 v19 s44) s42) (c28k78 e w15 v19 v17 v18 s42)) s40) s38) (c28j4 e v18 v19 s38)) s36) s34

noncomputable def c28l14b (e : Ev) (w15 : AV → AV → AV → St → R AV) (v17 v18 v19 : AV) (s20 : St) : R AV :=
  kNilCheck v17 (fun v21 s22 => kFA (nat_lit 2) v21 (fun v23 s24 => kLoad1 v23 (fun v25 s26 => kEql Try.prog (nat_lit 3) v25 (.int .i64 (.ofNat (nat_lit 0))) (fun v27 s28 => kIf1 v27 (fun k s => kMv v17 k s) (fun v29 s30 => kIf1 v27 (fun k s => kBind (e (.call (nat_lit 37) [v29])) k s) (fun v31 s32 => kIf1 v27 (fun k s => kPart1 (nat_lit 0) v31 k s) (fun v33 s34 => c28k79 e w15 v27 v33 v17 v18 v19 s34) s32) s30) s28) s26) s24) s22) s20

noncomputable def c28l14 (e : Ev) (n : Nat) : AV → AV → AV → St → R AV :=
  @Nat.rec (fun _ => AV → AV → AV → St → R AV) (fun _ _ _ _ => .fail) (fun _ w => c28l14b e w) n

noncomputable def c28 (e : Ev) (a0 : AV) (s9999 : St) : R AV :=
  kAlloc [.nilslice] (fun v0 s1 => kAlloc [.nilslice] (fun v2 s3 => c28l14 e fuelN a0 v0 v2 s3) s1) s9999

theorem c28_ok (ev : Task → M AV) (a0 : AV) (s : St) : (stepN Try.prog ev (.call 28 [a0])).run s = c28 (runs ev) a0 s :=
  (call_is Try.prog (nt := (nat_lit 37)) Try.func28 rfl (by kernel_rfl) [a0] (by kernel_rfl) (w_seq (w_seq (w_seq (w_as (fun f s => c28j4 (runs ev) (f 2) (f 3) s) w_any (fun _ _ => by kernel_rfl)) (w_block (w_loop (fun n f s => c28l14 (runs ev) n (f 0) (f 2) (f 3) s) (fun _ _ => by kernel_rfl) (fun n16 => w_as _ w_any (fun _ _ => by kernel_rfl))))) w_any) w_any) s).trans (by kernel_rfl)

noncomputable def c29j0 (e : Ev) (s1 : St) : R AV :=
  .ok (.bool false) s1

noncomputable def c29k20 (e : Ev) (v4 a1 a2 a0 : AV) (s5 : St) : R AV :=
  kFA (nat_lit 1) v4 (fun v6 s7 => kLoad1 v6 (fun v8 s9 => kEql Try.prog (nat_lit 30) v8 (.int .i64 (.ofNat (nat_lit 0))) (fun v10 s11 => kIf v10 (kBuild [(.int .i64 (.ofNat (nat_lit 0))), (.int .i64 (.ofNat (nat_lit 0)))] [(some ((nat_lit 0), (nat_lit 1)), a1), (some ((nat_lit 1), (nat_lit 1)), a2)] (fun v12 s13 => kNilCheck a0 (fun v14 s15 => kFA (nat_lit 2) v14 (fun v16 s17 => kStore (nat_lit 2) v16 v12 (fun v18 s19 => c29j0 e s19) s17) s15) s13) s11) (c29j0 e s11)) s9) s7) s5

noncomputable def c29 (e : Ev) (a0 a1 a2 : AV) (s9999 : St) : R AV :=
  kNilCheck a0 (fun v2 s3 => kFA (nat_lit 2) v2 (fun v4 s5 => c29k20 e v4 a1 a2 a0 s5) s3) s9999

theorem c29_ok (ev : Task → M AV) (a0 a1 a2 : AV) (s : St) : (stepN Try.prog ev (.call 29 [a0, a1, a2])).run s = c29 (runs ev) a0 a1 a2 s :=
  (call_is Try.prog (nt := (nat_lit 19)) Try.func29 rfl (by kernel_rfl) [a0, a1, a2] (by kernel_rfl) (w_seq (w_seq (w_as (fun f s => c29j0 (runs ev) s) w_any (fun _ _ => by kernel_rfl)) w_any) w_any) s).trans (by kernel_rfl)

noncomputable def c30j0 (e : Ev) (s1 : St) : R AV :=
  .ok (.bool true) s1

noncomputable def c30k69 (e : Ev) (w5 : AV → AV → AV → AV → AV → St → R AV) (v7 v19 v8 v11 v9 v10 : AV) (s42 : St) : R AV :=
  kNilCheck v7 (fun v49 s50 => kFA (nat_lit 1) v49 (fun v51 s52 => kLg (fun k s => kLoad1 v51 k s) (fun v53 r54 u55 s56 => kFA (nat_lit 0) v19 (fun v57 s58 => kLg (fun k s => kLoad1 v57 k s) (fun v59 r60 u61 s62 => kLg (fun k s => kPutS v53 v59 v8 k s) (fun v63 r64 u65 s66 => ifb (kClash r54 u55 r60 u61 false) .fail (kAdd Try.prog (nat_lit 3) v11 (.int .i64 (.ofNat (nat_lit 1))) (fun v67 s68 => w5 v7 v8 v9 v10 v67 s68) s66)) s62) s58) s56) s52) s50) s42

noncomputable def c30k70 (e : Ev) (w5 : AV → AV → AV → AV → AV → St → R AV) (v27 v33 v19 v7 v8 v11 v9 v10 : AV) (r28 u29 r34 u35 : Nat) (s36 : St) : R AV :=
  kLg (fun k s => kLookS (.int .i64 (.ofNat (nat_lit 0))) false v27 v33 k s) (fun v37 r38 u39 s40 => kNeq Try.prog (nat_lit 3) v37 (.int .i64 (.ofNat (nat_lit 0))) (fun v41 s42 => ifb (kClash r28 u29 r34 u35 false) .fail (kIf v41 (kFA (nat_lit 4) v19 (fun v43 s44 => kLoad1 v43 (fun v45 s46 => kBind (e (.call (nat_lit 29) [v7, v45, (.int .i64 (.ofNat (nat_lit 20)))])) (fun v47 s48 => .ok v47 s48) s46) s44) s42) (c30k69 e w5 v7 v19 v8 v11 v9 v10 s42))) s40) s36

noncomputable def c30k71 (e : Ev) (w5 : AV → AV → AV → AV → AV → St → R AV) (v17 v7 v8 v11 v9 v10 : AV) (s18 : St) : R AV :=
  kAlloc [(.str (nat_lit 0) (nat_lit 0)), (.int .i64 (.ofNat (nat_lit 0))), (.int .i64 (.ofNat (nat_lit 0))), .nilslice, (.int .i64 (.ofNat (nat_lit 0)))] (fun v19 s20 => kStore (nat_lit 5) v19 v17 (fun v21 s22 => kNilCheck v7 (fun v23 s24 => kFA (nat_lit 1) v23 (fun v25 s26 => kLg (fun k s => kLoad1 v25 k s) (fun v27 r28 u29 s30 => kFA (nat_lit 0) v19 (fun v31 s32 => kLg (fun k s => kLoad1 v31 k s) (fun v33 r34 u35 s36 => c30k70 e w5 v27 v33 v19 v7 v8 v11 v9 v10 r28 u29 r34 u35 s36) s32) s30) s26) s24) s22) s20) s18

noncomputable def c30l4b (e : Ev) (w5 : AV → AV → AV → AV → AV → St → R AV) (v7 v8 v9 v10 v11 : AV) (s12 : St) : R AV :=
  kLss Try.prog (nat_lit 3) v11 v10 (fun v13 s14 => kIf v13 (kIA (nat_lit 5) v9 v11 (fun v15 s16 => kLoadN (nat_lit 5) v15 (fun v17 s18 => c30k71 e w5 v17 v7 v8 v11 v9 v10 s18) s16) s14) (c30j0 e s14)) s12

noncomputable def c30l4 (e : Ev) (n : Nat) : AV → AV → AV → AV → AV → St → R AV :=
  @Nat.rec (fun _ => AV → AV → AV → AV → AV → St → R AV) (fun _ _ _ _ _ _ => .fail) (fun _ w => c30l4b e w) n

noncomputable def c30 (e : Ev) (a0 a1 a2 : AV) (s9999 : St) : R AV :=
  kLenL a1 (fun v2 s3 => c30l4 e fuelN a0 a2 a1 v2 (.int .i64 (.ofNat (nat_lit 0))) s3) s9999

theorem c30_ok (ev : Task → M AV) (a0 a1 a2 : AV) (s : St) : (stepN Try.prog ev (.call 30 [a0, a1, a2])).run s = c30 (runs ev) a0 a1 a2 s :=
  (call_is Try.prog (nt := (nat_lit 35)) Try.func30 rfl (by kernel_rfl) [a0, a1, a2] (by kernel_rfl) (w_seq (w_seq (w_as (fun f s => c30j0 (runs ev) s) w_any (fun _ _ => by kernel_rfl)) (w_seq (w_block (w_loop (fun n f s => c30l4 (runs ev) n (f 0) (f 2) (f 9) (f 10) (f 11) s) (fun _ _ => by kernel_rfl) (fun n6 => w_as _ w_any (fun _ _ => by kernel_rfl)))) w_any)) w_any) s).trans (by kernel_rfl)

noncomputable def c31j0 (e : Ev) (s1 : St) : R AV :=
  .ok (.bool true) s1

noncomputable def c31j23 (e : Ev) (w5 : AV → AV → AV → AV → AV → St → R AV) (v24 v25 v26 v27 v28 v29 v30 : AV) (s31 : St) : R AV :=
  kLoadN (nat_lit 12) v26 (fun v32 s33 => kBind (callValR Try.prog e v27 [v32, v25]) (fun v34 s35 => kNot v34 (fun v36 s37 => kIf v36 (.ok (.bool false) s37) (kAdd Try.prog (nat_lit 3) v30 (.int .i64 (.ofNat (nat_lit 1))) (fun v38 s39 => w5 v24 v25 v28 v29 v38 s39) s37)) s35) s33) s31

noncomputable def c31k48 (e : Ev) (w5 : AV → AV → AV → AV → AV → St → R AV) (v17 v7 v8 v9 v10 v11 : AV) (s18 : St) : R AV :=
  kAlloc [.nilslice, (.int .i64 (.ofNat (nat_lit 0))), (.int .i64 (.ofNat (nat_lit 0))), (.str (nat_lit 0) (nat_lit 0)), (.int .i64 (.ofNat (nat_lit 0))), (.int .i64 (.ofNat (nat_lit 0))), (.int .i64 (.ofNat (nat_lit 0))), (.int .i64 (.ofNat (nat_lit 0))), .nilslice, (.int .i64 (.ofNat (nat_lit 0))), .nilslice, (.int .i64 (.ofNat (nat_lit 0)))] (fun v19 s20 => kStore (nat_lit 12) v19 v17 (fun v21 s22 => kFA (nat_lit 10) v19 (fun v40 s41 => kLoad1 v40 (fun v42 s43 => kLenL v42 (fun v44 s45 => kGtr Try.prog (nat_lit 3) v44 (.int .i64 (.ofNat (nat_lit 0))) (fun v46 s47 => kIf v46 (c31j23 e w5 v7 v8 v19 (.func (.func (nat_lit 43)) [v7] []) v9 v10 v11 s47) (c31j23 e w5 v7 v8 v19 (.func (.func (nat_lit 42)) [v7] []) v9 v10 v11 s47)) s45) s43) s41) s22) s20) s18

noncomputable def c31l4b (e : Ev) (w5 : AV → AV → AV → AV → AV → St → R AV) (v7 v8 v9 v10 v11 : AV) (s12 : St) : R AV :=
  kLss Try.prog (nat_lit 3) v11 v10 (fun v13 s14 => kIf v13 (kIA (nat_lit 12) v9 v11 (fun v15 s16 => kLoadN (nat_lit 12) v15 (fun v17 s18 => c31k48 e w5 v17 v7 v8 v9 v10 v11 s18) s16) s14) (c31j0 e s14)) s12

noncomputable def c31l4 (e : Ev) (n : Nat) : AV → AV → AV → AV → AV → St → R AV :=
  @Nat.rec (fun _ => AV → AV → AV → AV → AV → St → R AV) (fun _ _ _ _ _ _ => .fail) (fun _ w => c31l4b e w) n

noncomputable def c31 (e : Ev) (a0 a1 a2 : AV) (s9999 : St) : R AV :=
  kLenL a1 (fun v2 s3 => c31l4 e fuelN a0 a2 a1 v2 (.int .i64 (.ofNat (nat_lit 0))) s3) s9999

theorem c31_ok (ev : Task → M AV) (a0 a1 a2 : AV) (s : St) : (stepN Try.prog ev (.call 31 [a0, a1, a2])).run s = c31 (runs ev) a0 a1 a2 s :=
  (call_is Try.prog (nt := (nat_lit 30)) Try.func31 rfl (by kernel_rfl) [a0, a1, a2] (by kernel_rfl) (w_seq (w_seq (w_as (fun f s => c31j0 (runs ev) s) w_any (fun _ _ => by kernel_rfl)) (w_seq (w_block (w_loop (fun n f s => c31l4 (runs ev) n (f 0) (f 2) (f 10) (f 11) (f 12) s) (fun _ _ => by kernel_rfl) (fun n6 => w_as _ (w_seq (w_seq (w_seq w_any (w_block (w_seq (w_seq (w_seq (w_as (fun f s => c31j23 (runs ev) (c31l4 (runs ev) n6) (f 0) (f 2) (f 8) (f 9) (f 10) (f 11) (f 12) s) w_any (fun _ _ => by kernel_rfl)) w_any) w_any) w_any))) w_any) w_any) (fun _ _ => by kernel_rfl)))) w_any)) w_any) s).trans (by kernel_rfl)

noncomputable def c32j0 (e : Ev) (s1 : St) : R AV :=
  .ok (.bool true) s1

noncomputable def c32j15 (e : Ev) (w5 : AV → AV → AV → AV → AV → St → R AV) (v16 v17 v18 v19 v20 : AV) (s21 : St) : R AV :=
  kAdd Try.prog (nat_lit 3) v20 (.int .i64 (.ofNat (nat_lit 1))) (fun v22 s23 => w5 v16 v17 v18 v19 v22 s23) s21

noncomputable def c32k89 (e : Ev) (w5 : AV → AV → AV → AV → AV → St → R AV) (w39 : AV → AV → AV → AV → AV → AV → AV → AV → AV → St → R AV) (v67 v71 v75 v43 v41 v49 v42 v44 v45 v46 v47 v48 : AV) (s76 : St) : R AV :=
  kIf0 v67 (fun k s => kEql Try.prog (nat_lit 9) v71 v75 k s) (fun v77 s78 => kPick v67 (.bool true) v77 (fun v79 s80 => kIf v79 (kFA (nat_lit 4) v43 (fun v81 s82 => kLoad1 v81 (fun v83 s84 => kBind (e (.call (nat_lit 29) [v41, v83, (.int .i64 (.ofNat (nat_lit 21)))])) (fun v85 s86 => .ok v85 s86) s84) s82) s80) (kAdd Try.prog (nat_lit 3) v49 (.int .i64 (.ofNat (nat_lit 1))) (fun v87 s88 => w39 v41 v42 v43 v44 v45 v46 v47 v48 v87 s88) s80)) s78) s76

noncomputable def c32k90 (e : Ev) (w5 : AV → AV → AV → AV → AV → St → R AV) (w39 : AV → AV → AV → AV → AV → AV → AV → AV → AV → St → R AV) (v42 v63 v57 v43 v41 v49 v44 v45 v46 v47 v48 : AV) (s64 : St) : R AV :=
  kLookS (.int .i64 (.ofNat (nat_lit 0))) false v42 v63 (fun v65 s66 => kEql Try.prog (nat_lit 3) v65 (.int .i64 (.ofNat (nat_lit 0))) (fun v67 s68 => kIf0 v67 (fun k s => kFA (nat_lit 0) v57 k s) (fun v69 s70 => kIf0 v67 (fun k s => kLoad1 v69 k s) (fun v71 s72 => kIf0 v67 (fun k s => kFA (nat_lit 0) v43 k s) (fun v73 s74 => kIf0 v67 (fun k s => kLoad1 v73 k s) (fun v75 s76 => c32k89 e w5 w39 v67 v71 v75 v43 v41 v49 v42 v44 v45 v46 v47 v48 s76) s74) s72) s70) s68) s66) s64

noncomputable def c32l38b (e : Ev) (w5 : AV → AV → AV → AV → AV → St → R AV) (w39 : AV → AV → AV → AV → AV → AV → AV → AV → AV → St → R AV) (v41 v42 v43 v44 v45 v46 v47 v48 v49 : AV) (s50 : St) : R AV :=
  kLss Try.prog (nat_lit 3) v49 v48 (fun v51 s52 => kIf v51 (kIA (nat_lit 2) v47 v49 (fun v53 s54 => kLoadN (nat_lit 2) v53 (fun v55 s56 => kAlloc [(.str (nat_lit 0) (nat_lit 0)), (.bool false)] (fun v57 s58 => kStore (nat_lit 2) v57 v55 (fun v59 s60 => kFA (nat_lit 0) v57 (fun v61 s62 => kLoad1 v61 (fun v63 s64 => c32k90 e w5 w39 v42 v63 v57 v43 v41 v49 v44 v45 v46 v47 v48 s64) s62) s60) s58) s56) s54) s52) (c32j15 e w5 v41 v42 v44 v45 v46 s52)) s50

noncomputable def c32l38 (e : Ev) (w5 : AV → AV → AV → AV → AV → St → R AV) (n : Nat) : AV → AV → AV → AV → AV → AV → AV → AV → AV → St → R AV :=
  @Nat.rec (fun _ => AV → AV → AV → AV → AV → AV → AV → AV → AV → St → R AV) (fun _ _ _ _ _ _ _ _ _ _ => .fail) (fun _ w => c32l38b e w5 w) n

noncomputable def c32k91 (e : Ev) (w5 : AV → AV → AV → AV → AV → St → R AV) (v24 v7 v8 v9 v10 v11 : AV) (s25 : St) : R AV :=
  kLoadN (nat_lit 5) v24 (fun v26 s27 => kAlloc [(.str (nat_lit 0) (nat_lit 0)), (.int .i64 (.ofNat (nat_lit 0))), (.int .i64 (.ofNat (nat_lit 0))), .nilslice, (.int .i64 (.ofNat (nat_lit 0)))] (fun v28 s29 => kStore (nat_lit 5) v28 v26 (fun v30 s31 => kFA (nat_lit 3) v28 (fun v32 s33 => kLoad1 v32 (fun v34 s35 => kLenL v34 (fun v36 s37 => c32l38 e w5 fuelN v7 v8 v28 v9 v10 v11 v34 v36 (.int .i64 (.ofNat (nat_lit 0))) s37) s35) s33) s31) s29) s27) s25

noncomputable def c32l4b (e : Ev) (w5 : AV → AV → AV → AV → AV → St → R AV) (v7 v8 v9 v10 v11 : AV) (s12 : St) : R AV :=
  kLss Try.prog (nat_lit 3) v11 v10 (fun v13 s14 => kIf v13 (kIA (nat_lit 5) v9 v11 (fun v24 s25 => c32k91 e w5 v24 v7 v8 v9 v10 v11 s25) s14) (c32j0 e s14)) s12

noncomputable def c32l4 (e : Ev) (n : Nat) : AV → AV → AV → AV → AV → St → R AV :=
  @Nat.rec (fun _ => AV → AV → AV → AV → AV → St → R AV) (fun _ _ _ _ _ _ => .fail) (fun _ w => c32l4b e w) n

noncomputable def c32 (e : Ev) (a0 a1 a2 : AV) (s9999 : St) : R AV :=
  kLenL a1 (fun v2 s3 => c32l4 e fuelN a0 a2 a1 v2 (.int .i64 (.ofNat (nat_lit 0))) s3) s9999

theorem c32_ok (ev : Task → M AV) (a0 a1 a2 : AV) (s : St) : (stepN Try.prog ev (.call 32 [a0, a1, a2])).run s = c32 (runs ev) a0 a1 a2 s :=
  (call_is Try.prog (nt := (nat_lit 42)) Try.func32 rfl (by kernel_rfl) [a0, a1, a2] (by kernel_rfl) (w_seq (w_seq (w_as (fun f s => c32j0 (runs ev) s) w_any (fun _ _ => by kernel_rfl)) (w_seq (w_block (w_loop (fun n f s => c32l4 (runs ev) n (f 0) (f 2) (f 11) (f 12) (f 13) s) (fun _ _ => by kernel_rfl) (fun n6 => w_as _ (w_seq (w_seq (w_seq (w_as (fun f s => c32j15 (runs ev) (c32l4 (runs ev) n6) (f 0) (f 2) (f 11) (f 12) (f 13) s) w_any (fun _ _ => by kernel_rfl)) (w_block (w_seq (w_seq (w_block (w_loop (fun n f s => c32l38 (runs ev) (c32l4 (runs ev) n6) n (f 0) (f 2) (f 8) (f 11) (f 12) (f 13) (f 18) (f 19) (f 20) s) (fun _ _ => by kernel_rfl) (fun n40 => w_as _ w_any (fun _ _ => by kernel_rfl)))) w_any) w_any))) w_any) w_any) (fun _ _ => by kernel_rfl)))) w_any)) w_any) s).trans (by kernel_rfl)

noncomputable def c33j0 (e : Ev) (s1 : St) : R AV :=
  .ok (.bool true) s1

noncomputable def c33j15 (e : Ev) (w5 : AV → AV → AV → AV → AV → St → R AV) (v16 v17 v18 v19 v20 : AV) (s21 : St) : R AV :=
  kAdd Try.prog (nat_lit 3) v20 (.int .i64 (.ofNat (nat_lit 1))) (fun v22 s23 => w5 v16 v17 v18 v19 v22 s23) s21

noncomputable def c33k98 (e : Ev) (w5 : AV → AV → AV → AV → AV → St → R AV) (w39 : AV → AV → AV → AV → AV → AV → AV → AV → St → R AV) (v80 v84 v66 v82 v72 v63 v64 v67 v68 v69 v70 v71 : AV) (s85 : St) : R AV :=
  kIf0 v80 (fun k s => kLoad1 v84 k s) (fun v86 s87 => kIf0 v80 (fun k s => kMv v66 k s) (fun v88 s89 => kIf0 v80 (fun k s => kBind (e (.call (nat_lit 33) [v82, v86, v88])) k s) (fun v90 s91 => kIf0 v80 (fun k s => kNot v90 k s) (fun v92 s93 => kPick v80 (.bool true) v92 (fun v94 s95 => kIf v94 (.ok (.bool false) s95) (kAdd Try.prog (nat_lit 3) v72 (.int .i64 (.ofNat (nat_lit 1))) (fun v96 s97 => w39 v63 v64 v67 v68 v69 v70 v71 v96 s97) s95)) s93) s91) s89) s87) s85

noncomputable def c33j62 (e : Ev) (w5 : AV → AV → AV → AV → AV → St → R AV) (w39 : AV → AV → AV → AV → AV → AV → AV → AV → St → R AV) (v63 v64 v65 v66 v67 v68 v69 v70 v71 v72 : AV) (s73 : St) : R AV :=
  kFA (nat_lit 3) v65 (fun v74 s75 => kLoad1 v74 (fun v76 s77 => kBind (e (.call (nat_lit 32) [v63, v76, v66])) (fun v78 s79 => kNot v78 (fun v80 s81 => kIf0 v80 (fun k s => kMv v63 k s) (fun v82 s83 => kIf0 v80 (fun k s => kFA (nat_lit 4) v65 k s) (fun v84 s85 => c33k98 e w5 w39 v80 v84 v66 v82 v72 v63 v64 v67 v68 v69 v70 v71 s85) s83) s81) s79) s77) s75) s73

noncomputable def c33k140 (e : Ev) (w5 : AV → AV → AV → AV → AV → St → R AV) (w39 : AV → AV → AV → AV → AV → AV → AV → AV → St → R AV) (w106 : AV → AV → AV → AV → AV → AV → AV → AV → AV → AV → AV → AV → AV → St → R AV) (v126 v111 v120 v108 v109 v110 v112 v113 v114 v115 v116 v117 v118 v119 : AV) (s127 : St) : R AV :=
  kAlloc [(.str (nat_lit 0) (nat_lit 0)), (.int .i64 (.ofNat (nat_lit 0))), (.int .i64 (.ofNat (nat_lit 0))), .nilslice, (.int .i64 (.ofNat (nat_lit 0)))] (fun v128 s129 => kStore (nat_lit 5) v128 v126 (fun v130 s131 => kFA (nat_lit 0) v128 (fun v132 s133 => kLoad1 v132 (fun v134 s135 => kPutS v111 v134 (.int .i64 (.ofNat (nat_lit 2))) (fun v136 s137 => kAdd Try.prog (nat_lit 3) v120 (.int .i64 (.ofNat (nat_lit 1))) (fun v138 s139 => w106 v108 v109 v110 v111 v112 v113 v114 v115 v116 v117 v118 v119 v138 s139) s137) s135) s133) s131) s129) s127

noncomputable def c33l105b (e : Ev) (w5 : AV → AV → AV → AV → AV → St → R AV) (w39 : AV → AV → AV → AV → AV → AV → AV → AV → St → R AV) (w106 : AV → AV → AV → AV → AV → AV → AV → AV → AV → AV → AV → AV → AV → St → R AV) (v108 v109 v110 v111 v112 v113 v114 v115 v116 v117 v118 v119 v120 : AV) (s121 : St) : R AV :=
  kLss Try.prog (nat_lit 3) v120 v119 (fun v122 s123 => kIf v122 (kIA (nat_lit 5) v118 v120 (fun v124 s125 => kLoadN (nat_lit 5) v124 (fun v126 s127 => c33k140 e w5 w39 w106 v126 v111 v120 v108 v109 v110 v112 v113 v114 v115 v116 v117 v118 v119 s127) s125) s123) (c33j62 e w5 w39 v108 v109 v110 v111 v112 v113 v114 v115 v116 v117 s123)) s121

noncomputable def c33l105 (e : Ev) (w5 : AV → AV → AV → AV → AV → St → R AV) (w39 : AV → AV → AV → AV → AV → AV → AV → AV → St → R AV) (n : Nat) : AV → AV → AV → AV → AV → AV → AV → AV → AV → AV → AV → AV → AV → St → R AV :=
  @Nat.rec (fun _ => AV → AV → AV → AV → AV → AV → AV → AV → AV → AV → AV → AV → AV → St → R AV) (fun _ _ _ _ _ _ _ _ _ _ _ _ _ _ => .fail) (fun _ w => c33l105b e w5 w39 w) n

noncomputable def c33k141 (e : Ev) (w5 : AV → AV → AV → AV → AV → St → R AV) (w39 : AV → AV → AV → AV → AV → AV → AV → AV → St → R AV) (v54 v42 v41 v43 v44 v45 v46 v47 v48 : AV) (s55 : St) : R AV :=
  kAlloc [(.str (nat_lit 0) (nat_lit 0)), .nilslice, .nilslice, .nilslice, .nilslice, (.int .i64 (.ofNat (nat_lit 0)))] (fun v56 s57 => kStore (nat_lit 6) v56 v54 (fun v58 s59 => kBind (e (.call (nat_lit 44) [v42])) (fun v60 s61 => kFA (nat_lit 3) v56 (fun v99 s100 => kLoad1 v99 (fun v101 s102 => kLenL v101 (fun v103 s104 => c33l105 e w5 w39 fuelN v41 v42 v56 v60 v43 v44 v45 v46 v47 v48 v101 v103 (.int .i64 (.ofNat (nat_lit 0))) s104) s102) s100) s61) s59) s57) s55

noncomputable def c33l38b (e : Ev) (w5 : AV → AV → AV → AV → AV → St → R AV) (w39 : AV → AV → AV → AV → AV → AV → AV → AV → St → R AV) (v41 v42 v43 v44 v45 v46 v47 v48 : AV) (s49 : St) : R AV :=
  kLss Try.prog (nat_lit 3) v48 v47 (fun v50 s51 => kIf v50 (kIA (nat_lit 6) v46 v48 (fun v52 s53 => kLoadN (nat_lit 6) v52 (fun v54 s55 => c33k141 e w5 w39 v54 v42 v41 v43 v44 v45 v46 v47 v48 s55) s53) s51) (c33j15 e w5 v41 v42 v43 v44 v45 s51)) s49

noncomputable def c33l38 (e : Ev) (w5 : AV → AV → AV → AV → AV → St → R AV) (n : Nat) : AV → AV → AV → AV → AV → AV → AV → AV → St → R AV :=
  @Nat.rec (fun _ => AV → AV → AV → AV → AV → AV → AV → AV → St → R AV) (fun _ _ _ _ _ _ _ _ _ => .fail) (fun _ w => c33l38b e w5 w) n

noncomputable def c33k142 (e : Ev) (w5 : AV → AV → AV → AV → AV → St → R AV) (v26 v7 v8 v9 v10 v11 : AV) (s27 : St) : R AV :=
  kAlloc [.nilslice, (.int .i64 (.ofNat (nat_lit 0))), (.int .i64 (.ofNat (nat_lit 0))), (.str (nat_lit 0) (nat_lit 0)), (.int .i64 (.ofNat (nat_lit 0))), (.int .i64 (.ofNat (nat_lit 0))), (.int .i64 (.ofNat (nat_lit 0))), (.int .i64 (.ofNat (nat_lit 0))), .nilslice, (.int .i64 (.ofNat (nat_lit 0))), .nilslice, (.int .i64 (.ofNat (nat_lit 0)))] (fun v28 s29 => kStore (nat_lit 12) v28 v26 (fun v30 s31 => kFA (nat_lit 10) v28 (fun v32 s33 => kLoad1 v32 (fun v34 s35 => kLenL v34 (fun v36 s37 => c33l38 e w5 fuelN v7 v8 v9 v10 v11 v34 v36 (.int .i64 (.ofNat (nat_lit 0))) s37) s35) s33) s31) s29) s27

noncomputable def c33l4b (e : Ev) (w5 : AV → AV → AV → AV → AV → St → R AV) (v7 v8 v9 v10 v11 : AV) (s12 : St) : R AV :=
  kLss Try.prog (nat_lit 3) v11 v10 (fun v13 s14 => kIf v13 (kIA (nat_lit 12) v9 v11 (fun v24 s25 => kLoadN (nat_lit 12) v24 (fun v26 s27 => c33k142 e w5 v26 v7 v8 v9 v10 v11 s27) s25) s14) (c33j0 e s14)) s12

noncomputable def c33l4 (e : Ev) (n : Nat) : AV → AV → AV → AV → AV → St → R AV :=
  @Nat.rec (fun _ => AV → AV → AV → AV → AV → St → R AV) (fun _ _ _ _ _ _ => .fail) (fun _ w => c33l4b e w) n

noncomputable def c33 (e : Ev) (a0 a1 a2 : AV) (s9999 : St) : R AV :=
  kLenL a1 (fun v2 s3 => c33l4 e fuelN a0 a2 a1 v2 (.int .i64 (.ofNat (nat_lit 0))) s3) s9999

theorem c33_ok (ev : Task → M AV) (a0 a1 a2 : AV) (s : St) : (stepN Try.prog ev (.call 33 [a0, a1, a2])).run s = c33 (runs ev) a0 a1 a2 s :=
  (call_is Try.prog (nt := (nat_lit 56)) Try.func33 rfl (by kernel_rfl) [a0, a1, a2] (by kernel_rfl) (w_seq (w_seq (w_as (fun f s => c33j0 (runs ev) s) w_any (fun _ _ => by kernel_rfl)) (w_seq (w_block (w_loop (fun n f s => c33l4 (runs ev) n (f 0) (f 2) (f 14) (f 15) (f 16) s) (fun _ _ => by kernel_rfl) (fun n6 => w_as _ (w_seq (w_seq (w_seq (w_as (fun f s => c33j15 (runs ev) (c33l4 (runs ev) n6) (f 0) (f 2) (f 14) (f 15) (f 16) s) w_any (fun _ _ => by kernel_rfl)) (w_block (w_seq (w_seq (w_block (w_loop (fun n f s => c33l38 (runs ev) (c33l4 (runs ev) n6) n (f 0) (f 2) (f 14) (f 15) (f 16) (f 21) (f 22) (f 23) s) (fun _ _ => by kernel_rfl) (fun n40 => w_as _ (w_seq (w_seq (w_seq w_any (w_block (w_seq (w_seq (w_seq (w_as (fun f s => c33j62 (runs ev) (c33l4 (runs ev) n6) (c33l38 (runs ev) (c33l4 (runs ev) n6) n40) (f 0) (f 2) (f 10) (f 11) (f 14) (f 15) (f 16) (f 21) (f 22) (f 23) s) w_any (fun _ _ => by kernel_rfl)) (w_seq (w_block (w_loop (fun n f s => c33l105 (runs ev) (c33l4 (runs ev) n6) (c33l38 (runs ev) (c33l4 (runs ev) n6) n40) n (f 0) (f 2) (f 10) (f 11) (f 14) (f 15) (f 16) (f 21) (f 22) (f 23) (f 30) (f 31) (f 32) s) (fun _ _ => by kernel_rfl) (fun n107 => w_as _ w_any (fun _ _ => by kernel_rfl)))) w_any)) w_any) w_any))) w_any) w_any) (fun _ _ => by kernel_rfl)))) w_any) w_any))) w_any) w_any) (fun _ _ => by kernel_rfl)))) w_any)) w_any) s).trans (by kernel_rfl)

noncomputable def c34 (e : Ev) (a0 a1 : AV) (s9999 : St) : R AV :=
  kLoadN (nat_lit 9) a1 (fun v0 s1 => kBind (e (.call (nat_lit 35) [v0, a0])) (fun v2 s3 => .ok (.tuple []) s3) s1) s9999

theorem c34_ok (ev : Task → M AV) (a0 a1 : AV) (s : St) : (stepN Try.prog ev (.call 34 [a0, a1])).run s = c34 (runs ev) a0 a1 s :=
  (call_is Try.prog (nt := (nat_lit 6)) Try.func34 rfl (by kernel_rfl) [a0, a1] (by kernel_rfl) w_any s).trans (by kernel_rfl)

noncomputable def c35j8 (e : Ev) (s9 : St) : R AV :=
  .ok (.bool true) s9

noncomputable def c35k42 (e : Ev) (w17 : AV → AV → AV → AV → St → R AV) (v28 v19 v22 v20 v21 : AV) (s29 : St) : R AV :=
  kAlloc [(.int .i64 (.ofNat (nat_lit 0))), (.int .i64 (.ofNat (nat_lit 0))), (.str (nat_lit 0) (nat_lit 0)), (.int .i64 (.ofNat (nat_lit 0))), (.int .i64 (.ofNat (nat_lit 0))), (.int .i64 (.ofNat (nat_lit 0))), (.int .i64 (.ofNat (nat_lit 0))), .nilslice, (.int .i64 (.ofNat (nat_lit 0)))] (fun v30 s31 => kStore (nat_lit 9) v30 v28 (fun v32 s33 => kLoadN (nat_lit 9) v30 (fun v34 s35 => kBind (e (.call (nat_lit 35) [v34, v19])) (fun v36 s37 => kNot v36 (fun v38 s39 => kIf v38 (.ok (.bool false) s39) (kAdd Try.prog (nat_lit 3) v22 (.int .i64 (.ofNat (nat_lit 1))) (fun v40 s41 => w17 v19 v20 v21 v40 s41) s39)) s37) s35) s33) s31) s29

noncomputable def c35l16b (e : Ev) (w17 : AV → AV → AV → AV → St → R AV) (v19 v20 v21 v22 : AV) (s23 : St) : R AV :=
  kLss Try.prog (nat_lit 3) v22 v21 (fun v24 s25 => kIf v24 (kIA (nat_lit 9) v20 v22 (fun v26 s27 => kLoadN (nat_lit 9) v26 (fun v28 s29 => c35k42 e w17 v28 v19 v22 v20 v21 s29) s27) s25) (c35j8 e s25)) s23

noncomputable def c35l16 (e : Ev) (n : Nat) : AV → AV → AV → AV → St → R AV :=
  @Nat.rec (fun _ => AV → AV → AV → AV → St → R AV) (fun _ _ _ _ _ => .fail) (fun _ w => c35l16b e w) n

noncomputable def c35 (e : Ev) (a0 a1 : AV) (s9999 : St) : R AV :=
  kBox a0 (fun v0 s1 => kLoadN (nat_lit 9) v0 (fun v2 s3 => kBind (callValR Try.prog e a1 [v2]) (fun v4 s5 => kNot v4 (fun v6 s7 => kIf v6 (.ok (.bool false) s7) (kFA (nat_lit 7) v0 (fun v10 s11 => kLoad1 v10 (fun v12 s13 => kLenL v12 (fun v14 s15 => c35l16 e fuelN a1 v12 v14 (.int .i64 (.ofNat (nat_lit 0))) s15) s13) s11) s7)) s5) s3) s1) s9999

theorem c35_ok (ev : Task → M AV) (a0 a1 : AV) (s : St) : (stepN Try.prog ev (.call 35 [a0, a1])).run s = c35 (runs ev) a0 a1 s :=
  (call_is Try.prog (nt := (nat_lit 23)) Try.func35 rfl (by kernel_rfl) [a0, a1] (by kernel_rfl) (w_seq (w_seq (w_seq (w_as (fun f s => c35j8 (runs ev) s) w_any (fun _ _ => by kernel_rfl)) (w_seq (w_block (w_loop (fun n f s => c35l16 (runs ev) n (f 1) (f 12) (f 13) (f 14) s) (fun _ _ => by kernel_rfl) (fun n18 => w_as _ w_any (fun _ _ => by kernel_rfl)))) w_any)) w_any) w_any) s).trans (by kernel_rfl)

noncomputable def c36j36 (e : Ev) (v37 v38 : AV) (s39 : St) : R AV :=
  kLoadN (nat_lit 6) v38 (fun v40 s41 => kStore (nat_lit 6) v37 v40 (fun v42 s43 => kLoadN (nat_lit 6) v37 (fun v44 s45 => .ok (.tuple [v44, (.int .i64 (.ofNat (nat_lit 0)))]) s45) s43) s41) s39

noncomputable def c36k50 (e : Ev) (v24 v9 : AV) (s25 : St) : R AV :=
  kAlloc [(.int .i64 (.ofNat (nat_lit 0))), (.str (nat_lit 0) (nat_lit 0)), (.int .i64 (.ofNat (nat_lit 0))), (.int .i64 (.ofNat (nat_lit 0))), (.int .i64 (.ofNat (nat_lit 0))), (.int .i64 (.ofNat (nat_lit 0)))] (fun v26 s27 => kStore (nat_lit 6) v26 v24 (fun v28 s29 => kFA (nat_lit 1) v26 (fun v30 s31 => kLoad1 v30 (fun v32 s33 => kBind (e (.call (nat_lit 47) [v32])) (fun v34 s35 => kIf v34 (kFA (nat_lit 0) v26 (fun v46 s47 => kStore (nat_lit 1) v46 (.int .i64 (.ofNat (nat_lit 3))) (fun v48 s49 => c36j36 e v9 v26 s49) s47) s35) (c36j36 e v9 v26 s35)) s33) s31) s29) s27) s25

noncomputable def c36k51 (e : Ev) (v7 v8 v10 v9 : AV) (s15 : St) : R AV :=
  kSliceS v7 (some v8) (some v10) (fun v22 s23 => kBuild [(.int .i64 (.ofNat (nat_lit 0))), (.str (nat_lit 0) (nat_lit 0)), (.int .i64 (.ofNat (nat_lit 0))), (.int .i64 (.ofNat (nat_lit 0))), (.int .i64 (.ofNat (nat_lit 0))), (.int .i64 (.ofNat (nat_lit 0)))] [(some ((nat_lit 0), (nat_lit 1)), (.int .i64 (.ofNat (nat_lit 1)))), (some ((nat_lit 1), (nat_lit 1)), v22), (some ((nat_lit 5), (nat_lit 1)), v8)] (fun v24 s25 => c36k50 e v24 v9 s25) s23) s15

noncomputable def c36k52 (e : Ev) (v12 v9 v7 v8 v10 : AV) (s13 : St) : R AV :=
  kGtr Try.prog (nat_lit 3) v12 (.int .i64 (.ofNat (nat_lit 40))) (fun v14 s15 => kIf v14 (kBuild [(.int .i64 (.ofNat (nat_lit 0))), (.str (nat_lit 0) (nat_lit 0)), (.int .i64 (.ofNat (nat_lit 0))), (.int .i64 (.ofNat (nat_lit 0))), (.int .i64 (.ofNat (nat_lit 0))), (.int .i64 (.ofNat (nat_lit 0)))] [] (fun v16 s17 => kStore (nat_lit 6) v9 v16 (fun v18 s19 => kLoadN (nat_lit 6) v9 (fun v20 s21 => .ok (.tuple [v20, (.int .i64 (.ofNat (nat_lit 2)))]) s21) s19) s17) s15) (c36k51 e v7 v8 v10 v9 s15)) s13

noncomputable def c36j6 (e : Ev) (v7 v8 v9 v10 : AV) (s11 : St) : R AV :=
  kSub Try.prog (nat_lit 3) v10 v8 (fun v12 s13 => c36k52 e v12 v9 v7 v8 v10 s13) s11

noncomputable def c36k89 (e : Ev) (w54 : AV → AV → AV → AV → St → R AV) (v73 v59 v75 v63 v56 v57 v58 : AV) (s76 : St) : R AV :=
  kIf0 v73 (fun k s => kMv v59 k s) (fun v77 s78 => kIf0 v73 (fun k s => kIdxS v75 v77 k s) (fun v79 s80 => kIf0 v73 (fun k s => kBind (e (.call (nat_lit 46) [v79])) k s) (fun v81 s82 => kIf1 v63 (fun k s => kPick v73 (.bool true) v81 k s) (fun v83 s84 => kPick v63 v83 (.bool false) (fun v85 s86 => kIf v85 (kAdd Try.prog (nat_lit 3) v59 (.int .i64 (.ofNat (nat_lit 1))) (fun v87 s88 => w54 v56 v57 v58 v87 s88) s86) (c36j6 e v56 v57 v58 v59 s86)) s84) s82) s80) s78) s76

noncomputable def c36k90 (e : Ev) (w54 : AV → AV → AV → AV → St → R AV) (v59 v61 v56 v57 v58 : AV) (s62 : St) : R AV :=
  kLss Try.prog (nat_lit 3) v59 v61 (fun v63 s64 => kIf1 v63 (fun k s => kMv v56 k s) (fun v65 s66 => kIf1 v63 (fun k s => kMv v59 k s) (fun v67 s68 => kIf1 v63 (fun k s => kIdxS v65 v67 k s) (fun v69 s70 => kIf1 v63 (fun k s => kBind (e (.call (nat_lit 45) [v69])) k s) (fun v71 s72 => kIf1 v63 (fun k s => kMv v71 k s) (fun v73 s74 => kIf0 v73 (fun k s => kMv v56 k s) (fun v75 s76 => c36k89 e w54 v73 v59 v75 v63 v56 v57 v58 s76) s74) s72) s70) s68) s66) s64) s62

noncomputable def c36l53b (e : Ev) (w54 : AV → AV → AV → AV → St → R AV) (v56 v57 v58 v59 : AV) (s60 : St) : R AV :=
  kLenS v56 (fun v61 s62 => c36k90 e w54 v59 v61 v56 v57 v58 s62) s60

noncomputable def c36l53 (e : Ev) (n : Nat) : AV → AV → AV → AV → St → R AV :=
  @Nat.rec (fun _ => AV → AV → AV → AV → St → R AV) (fun _ _ _ _ _ => .fail) (fun _ w => c36l53b e w) n

noncomputable def c36k153 (e : Ev) (v143 v131 v145 v105 v106 : AV) (s146 : St) : R AV :=
  kBuild [(.int .i64 (.ofNat (nat_lit 0))), (.str (nat_lit 0) (nat_lit 0)), (.int .i64 (.ofNat (nat_lit 0))), (.int .i64 (.ofNat (nat_lit 0))), (.int .i64 (.ofNat (nat_lit 0))), (.int .i64 (.ofNat (nat_lit 0)))] [(some ((nat_lit 0), (nat_lit 1)), (.int .i64 (.ofNat (nat_lit 2)))), (some ((nat_lit 1), (nat_lit 1)), v143), (some ((nat_lit 2), (nat_lit 1)), v131), (some ((nat_lit 3), (nat_lit 2)), v145), (some ((nat_lit 5), (nat_lit 1)), v105)] (fun v147 s148 => kStore (nat_lit 6) v106 v147 (fun v149 s150 => kLoadN (nat_lit 6) v106 (fun v151 s152 => .ok (.tuple [v151, (.int .i64 (.ofNat (nat_lit 0)))]) s152) s150) s148) s146

noncomputable def c36k154 (e : Ev) (v135 v106 v104 v105 v109 v113 v131 : AV) (s136 : St) : R AV :=
  kIf v135 (kBuild [(.int .i64 (.ofNat (nat_lit 0))), (.str (nat_lit 0) (nat_lit 0)), (.int .i64 (.ofNat (nat_lit 0))), (.int .i64 (.ofNat (nat_lit 0))), (.int .i64 (.ofNat (nat_lit 0))), (.int .i64 (.ofNat (nat_lit 0)))] [] (fun v137 s138 => kStore (nat_lit 6) v106 v137 (fun v139 s140 => kLoadN (nat_lit 6) v106 (fun v141 s142 => .ok (.tuple [v141, (.int .i64 (.ofNat (nat_lit 11)))]) s142) s140) s138) s136) (kSliceS v104 (some v105) (some v109) (fun v143 s144 => kBuild [(.int .i64 (.ofNat (nat_lit 0))), (.int .i64 (.ofNat (nat_lit 0)))] [(some ((nat_lit 0), (nat_lit 1)), v113)] (fun v145 s146 => c36k153 e v143 v131 v145 v105 v106 s146) s144) s136)

noncomputable def c36k155 (e : Ev) (v121 v106 v108 v113 v104 v105 v109 : AV) (s122 : St) : R AV :=
  kIf v121 (kBuild [(.int .i64 (.ofNat (nat_lit 0))), (.str (nat_lit 0) (nat_lit 0)), (.int .i64 (.ofNat (nat_lit 0))), (.int .i64 (.ofNat (nat_lit 0))), (.int .i64 (.ofNat (nat_lit 0))), (.int .i64 (.ofNat (nat_lit 0)))] [] (fun v123 s124 => kStore (nat_lit 6) v106 v123 (fun v125 s126 => kLoadN (nat_lit 6) v106 (fun v127 s128 => .ok (.tuple [v127, (.int .i64 (.ofNat (nat_lit 11)))]) s128) s126) s124) s122) (kBind (e (.call (nat_lit 49) [v108, v113])) (fun v129 s130 => kExt (nat_lit 0) v129 (fun v131 s132 => kExt (nat_lit 1) v129 (fun v133 s134 => kNot v133 (fun v135 s136 => c36k154 e v135 v106 v104 v105 v109 v113 v131 s136) s134) s132) s130) s122)

noncomputable def c36j103 (e : Ev) (v104 v105 v106 v107 v108 v109 : AV) (s110 : St) : R AV :=
  kSliceS v104 (some v107) (some v109) (fun v111 s112 => kBind (e (.call (nat_lit 48) [v111])) (fun v113 s114 => kGtr Try.prog (nat_lit 3) v109 v107 (fun v115 s116 => kIf1 v115 (fun k s => kMv v113 k s) (fun v117 s118 => kIf1 v115 (fun k s => kLss Try.prog (nat_lit 3) v117 (.int .i64 (.ofNat (nat_lit 2))) k s) (fun v119 s120 => kPick v115 v119 (.bool false) (fun v121 s122 => c36k155 e v121 v106 v108 v113 v104 v105 v109 s122) s120) s118) s116) s114) s112) s110

noncomputable def c36k194 (e : Ev) (w157 : AV → AV → AV → AV → AV → AV → St → R AV) (v178 v180 v182 v168 v164 v159 v160 v161 v162 v163 : AV) (s183 : St) : R AV :=
  kIf0 v178 (fun k s => kIdxS v180 v182 k s) (fun v184 s185 => kIf0 v178 (fun k s => kBind (e (.call (nat_lit 46) [v184])) k s) (fun v186 s187 => kIf1 v168 (fun k s => kPick v178 (.bool true) v186 k s) (fun v188 s189 => kPick v168 v188 (.bool false) (fun v190 s191 => kIf v190 (kAdd Try.prog (nat_lit 3) v164 (.int .i64 (.ofNat (nat_lit 1))) (fun v192 s193 => w157 v159 v160 v161 v162 v163 v192 s193) s191) (c36j103 e v159 v160 v161 v162 v163 v164 s191)) s189) s187) s185) s183

noncomputable def c36k195 (e : Ev) (w157 : AV → AV → AV → AV → AV → AV → St → R AV) (v168 v164 v170 v159 v160 v161 v162 v163 : AV) (s171 : St) : R AV :=
  kIf1 v168 (fun k s => kMv v164 k s) (fun v172 s173 => kIf1 v168 (fun k s => kIdxS v170 v172 k s) (fun v174 s175 => kIf1 v168 (fun k s => kBind (e (.call (nat_lit 45) [v174])) k s) (fun v176 s177 => kIf1 v168 (fun k s => kMv v176 k s) (fun v178 s179 => kIf0 v178 (fun k s => kMv v159 k s) (fun v180 s181 => kIf0 v178 (fun k s => kMv v164 k s) (fun v182 s183 => c36k194 e w157 v178 v180 v182 v168 v164 v159 v160 v161 v162 v163 s183) s181) s179) s177) s175) s173) s171

noncomputable def c36l156b (e : Ev) (w157 : AV → AV → AV → AV → AV → AV → St → R AV) (v159 v160 v161 v162 v163 v164 : AV) (s165 : St) : R AV :=
  kLenS v159 (fun v166 s167 => kLss Try.prog (nat_lit 3) v164 v166 (fun v168 s169 => kIf1 v168 (fun k s => kMv v159 k s) (fun v170 s171 => c36k195 e w157 v168 v164 v170 v159 v160 v161 v162 v163 s171) s169) s167) s165

noncomputable def c36l156 (e : Ev) (n : Nat) : AV → AV → AV → AV → AV → AV → St → R AV :=
  @Nat.rec (fun _ => AV → AV → AV → AV → AV → AV → St → R AV) (fun _ _ _ _ _ _ _ => .fail) (fun _ w => c36l156b e w) n

noncomputable def c36j95 (e : Ev) (v96 v97 v98 v99 : AV) (s100 : St) : R AV :=
  kSliceS v96 (some v97) (some v99) (fun v101 s102 => c36l156 e fuelN v96 v97 v98 v99 v101 v99 s102) s100

noncomputable def c36k220 (e : Ev) (w197 : AV → AV → AV → AV → St → R AV) (v206 v199 v202 v200 v201 : AV) (s207 : St) : R AV :=
  kIf1 v206 (fun k s => kMv v199 k s) (fun v208 s209 => kIf1 v206 (fun k s => kMv v202 k s) (fun v210 s211 => kIf1 v206 (fun k s => kIdxS v208 v210 k s) (fun v212 s213 => kIf1 v206 (fun k s => kBind (e (.call (nat_lit 46) [v212])) k s) (fun v214 s215 => kPick v206 v214 (.bool false) (fun v216 s217 => kIf v216 (kAdd Try.prog (nat_lit 3) v202 (.int .i64 (.ofNat (nat_lit 1))) (fun v218 s219 => w197 v199 v200 v201 v218 s219) s217) (c36j95 e v199 v200 v201 v202 s217)) s215) s213) s211) s209) s207

noncomputable def c36l196b (e : Ev) (w197 : AV → AV → AV → AV → St → R AV) (v199 v200 v201 v202 : AV) (s203 : St) : R AV :=
  kLenS v199 (fun v204 s205 => kLss Try.prog (nat_lit 3) v202 v204 (fun v206 s207 => c36k220 e w197 v206 v199 v202 v200 v201 s207) s205) s203

noncomputable def c36l196 (e : Ev) (n : Nat) : AV → AV → AV → AV → St → R AV :=
  @Nat.rec (fun _ => AV → AV → AV → AV → St → R AV) (fun _ _ _ _ _ => .fail) (fun _ w => c36l196b e w) n

noncomputable def c36k241 (e : Ev) (v233 a1 v0 : AV) (s234 : St) : R AV :=
  kBuild [(.int .i64 (.ofNat (nat_lit 0))), (.str (nat_lit 0) (nat_lit 0)), (.int .i64 (.ofNat (nat_lit 0))), (.int .i64 (.ofNat (nat_lit 0))), (.int .i64 (.ofNat (nat_lit 0))), (.int .i64 (.ofNat (nat_lit 0)))] [(some ((nat_lit 0), (nat_lit 1)), (.int .i64 (.ofNat (nat_lit 4)))), (some ((nat_lit 1), (nat_lit 1)), v233), (some ((nat_lit 5), (nat_lit 1)), a1)] (fun v235 s236 => kStore (nat_lit 6) v0 v235 (fun v237 s238 => kLoadN (nat_lit 6) v0 (fun v239 s240 => .ok (.tuple [v239, (.int .i64 (.ofNat (nat_lit 0)))]) s240) s238) s236) s234

noncomputable def c36k242 (e : Ev) (v223 v0 a1 v221 a0 : AV) (s224 : St) : R AV :=
  kIf v223 (kBuild [(.int .i64 (.ofNat (nat_lit 0))), (.str (nat_lit 0) (nat_lit 0)), (.int .i64 (.ofNat (nat_lit 0))), (.int .i64 (.ofNat (nat_lit 0))), (.int .i64 (.ofNat (nat_lit 0))), (.int .i64 (.ofNat (nat_lit 0)))] [] (fun v225 s226 => kStore (nat_lit 6) v0 v225 (fun v227 s228 => kLoadN (nat_lit 6) v0 (fun v229 s230 => .ok (.tuple [v229, (.int .i64 (.ofNat (nat_lit 10)))]) s230) s228) s226) s224) (kAdd Try.prog (nat_lit 3) a1 v221 (fun v231 s232 => kSliceS a0 (some a1) (some v231) (fun v233 s234 => c36k241 e v233 a1 v0 s234) s232) s224)

noncomputable def c36 (e : Ev) (a0 a1 : AV) (s9999 : St) : R AV :=
  kAlloc [(.int .i64 (.ofNat (nat_lit 0))), (.str (nat_lit 0) (nat_lit 0)), (.int .i64 (.ofNat (nat_lit 0))), (.int .i64 (.ofNat (nat_lit 0))), (.int .i64 (.ofNat (nat_lit 0))), (.int .i64 (.ofNat (nat_lit 0)))] (fun v0 s1 => kIdxS a0 a1 (fun v2 s3 => kBind (e (.call (nat_lit 45) [v2])) (fun v4 s5 => kIf v4 (c36l53 e fuelN a0 a1 v0 a1 s5) (kIdxS a0 a1 (fun v91 s92 => kBind (e (.call (nat_lit 46) [v91])) (fun v93 s94 => kIf v93 (c36l196 e fuelN a0 a1 v0 a1 s94) (kBind (e (.call (nat_lit 50) [a0, a1])) (fun v221 s222 => kEql Try.prog (nat_lit 3) v221 (.int .i64 (.ofNat (nat_lit 0))) (fun v223 s224 => c36k242 e v223 v0 a1 v221 a0 s224) s222) s94)) s92) s5)) s3) s1) s9999

theorem c36_ok (ev : Task → M AV) (a0 a1 : AV) (s : St) : (stepN Try.prog ev (.call 36 [a0, a1])).run s = c36 (runs ev) a0 a1 s :=
  (call_is Try.prog (nt := (nat_lit 139)) Try.func36 rfl (by kernel_rfl) [a0, a1] (by kernel_rfl) (w_seq (w_seq (w_seq (w_seq w_any (w_seq (w_cond (w_seq (w_as (fun f s => c36j95 (runs ev) (f 0) (f 1) (f 4) (f 6) s) (w_seq (w_seq (w_seq (w_as (fun f s => c36j103 (runs ev) (f 0) (f 1) (f 4) (f 6) (f 9) (f 10) s) w_any (fun _ _ => by kernel_rfl)) (w_block (w_loop (fun n f s => c36l156 (runs ev) n (f 0) (f 1) (f 4) (f 6) (f 9) (f 10) s) (fun _ _ => by kernel_rfl) (fun n158 => w_as _ w_any (fun _ _ => by kernel_rfl))))) w_any) w_any) (fun _ _ => by kernel_rfl)) (w_block (w_loop (fun n f s => c36l196 (runs ev) n (f 0) (f 1) (f 4) (f 6) s) (fun _ _ => by kernel_rfl) (fun n198 => w_as _ w_any (fun _ _ => by kernel_rfl))))) w_any) w_any)) (w_seq (w_cond (w_seq (w_as (fun f s => c36j6 (runs ev) (f 0) (f 1) (f 4) (f 6) s) (w_seq (w_seq (w_seq (w_seq (w_as (fun f s => c36j36 (runs ev) (f 4) (f 7) s) w_any (fun _ _ => by kernel_rfl)) w_any) w_any) w_any) w_any) (fun _ _ => by kernel_rfl)) (w_block (w_loop (fun n f s => c36l53 (runs ev) n (f 0) (f 1) (f 4) (f 6) s) (fun _ _ => by kernel_rfl) (fun n55 => w_as _ w_any (fun _ _ => by kernel_rfl))))) w_any) w_any)) w_any) w_any) s).trans (by kernel_rfl)

noncomputable def c37k30 (e : Ev) (v4 a0 v0 : AV) (s5 : St) : R AV :=
  kLg (fun k s => kLoad1 v4 k s) (fun v6 r7 u8 s9 => kNilCheck a0 (fun v10 s11 => kFA (nat_lit 1) v10 (fun v12 s13 => kLg (fun k s => kLoad1 v12 k s) (fun v14 r15 u16 s17 => kIA (nat_lit 6) v6 v14 (fun v18 s19 => kLg (fun k s => kLoadN (nat_lit 6) v18 k s) (fun v20 r21 u22 s23 => kLg (fun k s => kStore (nat_lit 6) v0 v20 k s) (fun v24 r25 u26 s27 => ifb (kClash r7 u8 r15 u16 false) .fail (kLoadN (nat_lit 6) v0 (fun v28 s29 => .ok v28 s29) s27)) s23) s19) s17) s13) s11) s9) s5

noncomputable def c37 (e : Ev) (a0 : AV) (s9999 : St) : R AV :=
  kAlloc [(.int .i64 (.ofNat (nat_lit 0))), (.str (nat_lit 0) (nat_lit 0)), (.int .i64 (.ofNat (nat_lit 0))), (.int .i64 (.ofNat (nat_lit 0))), (.int .i64 (.ofNat (nat_lit 0))), (.int .i64 (.ofNat (nat_lit 0)))] (fun v0 s1 => kNilCheck a0 (fun v2 s3 => kFA (nat_lit 0) v2 (fun v4 s5 => c37k30 e v4 a0 v0 s5) s3) s1) s9999

theorem c37_ok (ev : Task → M AV) (a0 : AV) (s : St) : (stepN Try.prog ev (.call 37 [a0])).run s = c37 (runs ev) a0 s :=
  (call_is Try.prog (nt := (nat_lit 13)) Try.func37 rfl (by kernel_rfl) [a0] (by kernel_rfl) w_any s).trans (by kernel_rfl)

noncomputable def c38k42 (e : Ev) (v20 v24 v12 v2 a1 : AV) (s25 : St) : R AV :=
  kIf0 v20 (fun k s => kEql Try.prog (nat_lit 3) v24 (.int .i64 (.ofNat (nat_lit 4))) k s) (fun v26 s27 => kIf1 v12 (fun k s => kPick v20 (.bool true) v26 k s) (fun v28 s29 => kPick v12 v28 (.bool false) (fun v30 s31 => kIf1 v30 (fun k s => kFA (nat_lit 1) v2 k s) (fun v32 s33 => kIf1 v30 (fun k s => kLoad1 v32 k s) (fun v34 s35 => kIf1 v30 (fun k s => kMv a1 k s) (fun v36 s37 => kIf1 v30 (fun k s => kEql Try.prog (nat_lit 9) v34 v36 k s) (fun v38 s39 => kPick v30 v38 (.bool false) (fun v40 s41 => .ok v40 s41) s39) s37) s35) s33) s31) s29) s27) s25

noncomputable def c38k43 (e : Ev) (v10 v2 a1 : AV) (s11 : St) : R AV :=
  kEql Try.prog (nat_lit 3) v10 (.int .i64 (.ofNat (nat_lit 0))) (fun v12 s13 => kIf1 v12 (fun k s => kFA (nat_lit 0) v2 k s) (fun v14 s15 => kIf1 v12 (fun k s => kLoad1 v14 k s) (fun v16 s17 => kIf1 v12 (fun k s => kEql Try.prog (nat_lit 3) v16 (.int .i64 (.ofNat (nat_lit 3))) k s) (fun v18 s19 => kIf1 v12 (fun k s => kMv v18 k s) (fun v20 s21 => kIf0 v20 (fun k s => kFA (nat_lit 0) v2 k s) (fun v22 s23 => kIf0 v20 (fun k s => kLoad1 v22 k s) (fun v24 s25 => c38k42 e v20 v24 v12 v2 a1 s25) s23) s21) s19) s17) s15) s13) s11

noncomputable def c38 (e : Ev) (a0 a1 : AV) (s9999 : St) : R AV :=
  kBind (e (.call (nat_lit 37) [a0])) (fun v0 s1 => kAlloc [(.int .i64 (.ofNat (nat_lit 0))), (.str (nat_lit 0) (nat_lit 0)), (.int .i64 (.ofNat (nat_lit 0))), (.int .i64 (.ofNat (nat_lit 0))), (.int .i64 (.ofNat (nat_lit 0))), (.int .i64 (.ofNat (nat_lit 0)))] (fun v2 s3 => kStore (nat_lit 6) v2 v0 (fun v4 s5 => kNilCheck a0 (fun v6 s7 => kFA (nat_lit 2) v6 (fun v8 s9 => kLoad1 v8 (fun v10 s11 => c38k43 e v10 v2 a1 s11) s9) s7) s5) s3) s1) s9999

theorem c38_ok (ev : Task → M AV) (a0 a1 : AV) (s : St) : (stepN Try.prog ev (.call 38 [a0, a1])).run s = c38 (runs ev) a0 a1 s :=
  (call_is Try.prog (nt := (nat_lit 29)) Try.func38 rfl (by kernel_rfl) [a0, a1] (by kernel_rfl) w_any s).trans (by kernel_rfl)

noncomputable def c39j0 (e : Ev) (v1 : AV) (s2 : St) : R AV :=
  kNilCheck v1 (fun v3 s4 => kFA (nat_lit 0) v3 (fun v5 s6 => kLoad1 v5 (fun v7 s8 => kLenL v7 (fun v9 s10 => kSub Try.prog (nat_lit 3) v9 (.int .i64 (.ofNat (nat_lit 1))) (fun v11 s12 => kNilCheck v1 (fun v13 s14 => kFA (nat_lit 1) v13 (fun v15 s16 => kStore (nat_lit 1) v15 v11 (fun v17 s18 => .ok (.tuple []) s18) s16) s14) s12) s10) s8) s6) s4) s2

noncomputable def c39k65 (e : Ev) (v41 v37 a0 : AV) (r38 u39 : Nat) (s42 : St) : R AV :=
  kFA (nat_lit 1) v41 (fun v43 s44 => kLg (fun k s => kLoad1 v43 k s) (fun v45 r46 u47 s48 => kIA (nat_lit 6) v37 v45 (fun v49 s50 => kFA (nat_lit 5) v49 (fun v51 s52 => kLg (fun k s => kLoad1 v51 k s) (fun v53 r54 u55 s56 => kNilCheck a0 (fun v57 s58 => kFA (nat_lit 3) v57 (fun v59 s60 => kLg (fun k s => kStore (nat_lit 1) v59 v53 k s) (fun v61 r62 u63 s64 => ifb (kClash r38 u39 r46 u47 false) .fail (c39j0 e a0 s64)) s60) s58) s56) s52) s50) s48) s44) s42

noncomputable def c39k66 (e : Ev) (v21 a0 a1 : AV) (s22 : St) : R AV :=
  kLoad1 v21 (fun v23 s24 => kEql Try.prog (nat_lit 3) v23 (.int .i64 (.ofNat (nat_lit 0))) (fun v25 s26 => kIf v25 (kNilCheck a0 (fun v27 s28 => kFA (nat_lit 2) v27 (fun v29 s30 => kStore (nat_lit 1) v29 a1 (fun v31 s32 => kNilCheck a0 (fun v33 s34 => kFA (nat_lit 0) v33 (fun v35 s36 => kLg (fun k s => kLoad1 v35 k s) (fun v37 r38 u39 s40 => kNilCheck a0 (fun v41 s42 => c39k65 e v41 v37 a0 r38 u39 s42) s40) s36) s34) s32) s30) s28) s26) (c39j0 e a0 s26)) s24) s22

noncomputable def c39 (e : Ev) (a0 a1 : AV) (s9999 : St) : R AV :=
  kNilCheck a0 (fun v19 s20 => kFA (nat_lit 2) v19 (fun v21 s22 => c39k66 e v21 a0 a1 s22) s20) s9999

theorem c39_ok (ev : Task → M AV) (a0 a1 : AV) (s : St) : (stepN Try.prog ev (.call 39 [a0, a1])).run s = c39 (runs ev) a0 a1 s :=
  (call_is Try.prog (nt := (nat_lit 36)) Try.func39 rfl (by kernel_rfl) [a0, a1] (by kernel_rfl) (w_seq (w_as (fun f s => c39j0 (runs ev) (f 0) s) w_any (fun _ _ => by kernel_rfl)) w_any) s).trans (by kernel_rfl)

noncomputable def c40 (e : Ev) (a0 a1 a2 : AV) (s9999 : St) : R AV :=
  kGeq Try.prog (nat_lit 3) a1 a2 (fun v0 s1 => kIf v0 (kBind (e (.call (nat_lit 39) [a0, (.int .i64 (.ofNat (nat_lit 2)))])) (fun v2 s3 => .ok (.bool true) s3) s1) (.ok (.bool false) s1)) s9999

theorem c40_ok (ev : Task → M AV) (a0 a1 a2 : AV) (s : St) : (stepN Try.prog ev (.call 40 [a0, a1, a2])).run s = c40 (runs ev) a0 a1 a2 s :=
  (call_is Try.prog (nt := (nat_lit 12)) Try.func40 rfl (by kernel_rfl) [a0, a1, a2] (by kernel_rfl) w_any s).trans (by kernel_rfl)

noncomputable def c41j45 (e : Ev) (v46 v47 v48 : AV) (s49 : St) : R AV :=
  kBind (e (.call (nat_lit 51) [v46, (.str (nat_lit 3) (nat_lit 7628140))])) (fun v50 s51 => kBind (e (.call (nat_lit 56) [v46])) (fun v52 s53 => kFA (nat_lit 4) v48 (fun v54 s55 => kStore (nat_lit 1) v54 v52 (fun v56 s57 => kBind (e (.call (nat_lit 51) [v46, (.str (nat_lit 3) (nat_lit 7103860))])) (fun v58 s59 => kLoadN (nat_lit 6) v48 (fun v60 s61 => kStore (nat_lit 6) v47 v60 (fun v62 s63 => kLoadN (nat_lit 6) v47 (fun v64 s65 => .ok v64 s65) s63) s61) s59) s57) s55) s53) s51) s49

noncomputable def c41k72 (e : Ev) (v27 v35 v25 v26 : AV) (s36 : St) : R AV :=
  kFA (nat_lit 2) v27 (fun v37 s38 => kStore (nat_lit 1) v37 v35 (fun v39 s40 => kBind (e (.call (nat_lit 51) [v25, (.str (nat_lit 1) (nat_lit 41))])) (fun v41 s42 => kBind (e (.call (nat_lit 54) [v25, (.str (nat_lit 3) (nat_lit 7496054))])) (fun v43 s44 => kIf v43 (kBind (e (.call (nat_lit 55) [v25])) (fun v66 s67 => kFA (nat_lit 3) v27 (fun v68 s69 => kStore (nat_lit 1) v68 v66 (fun v70 s71 => c41j45 e v25 v26 v27 s71) s69) s67) s44) (c41j45 e v25 v26 v27 s44)) s42) s40) s38) s36

noncomputable def c41j24 (e : Ev) (v25 v26 v27 : AV) (s28 : St) : R AV :=
  kBind (e (.call (nat_lit 51) [v25, (.str (nat_lit 1) (nat_lit 41))])) (fun v29 s30 => kBind (e (.call (nat_lit 51) [v25, (.str (nat_lit 7) (nat_lit 32491060197614962))])) (fun v31 s32 => kBind (e (.call (nat_lit 51) [v25, (.str (nat_lit 1) (nat_lit 40))])) (fun v33 s34 => kBind (e (.call (nat_lit 53) [v25])) (fun v35 s36 => c41k72 e v27 v35 v25 v26 s36) s34) s32) s30) s28

noncomputable def c41k81 (e : Ev) (v16 v14 a0 v8 v0 : AV) (s17 : St) : R AV :=
  kStore (nat_lit 1) v16 v14 (fun v18 s19 => kBind (e (.call (nat_lit 51) [a0, (.str (nat_lit 1) (nat_lit 40))])) (fun v20 s21 => kBind (e (.call (nat_lit 38) [a0, (.str (nat_lit 1) (nat_lit 41))])) (fun v22 s23 => kNot v22 (fun v73 s74 => kIf v73 (kBind (e (.call (nat_lit 53) [a0])) (fun v75 s76 => kFA (nat_lit 1) v8 (fun v77 s78 => kStore (nat_lit 1) v77 v75 (fun v79 s80 => c41j24 e a0 v0 v8 s80) s78) s76) s74) (c41j24 e a0 v0 v8 s74)) s23) s21) s19) s17

noncomputable def c41k82 (e : Ev) (v4 a0 v0 : AV) (s5 : St) : R AV :=
  kBuild [(.str (nat_lit 0) (nat_lit 0)), .nilslice, .nilslice, .nilslice, .nilslice, (.int .i64 (.ofNat (nat_lit 0)))] [(some ((nat_lit 5), (nat_lit 1)), v4)] (fun v6 s7 => kAlloc [(.str (nat_lit 0) (nat_lit 0)), .nilslice, .nilslice, .nilslice, .nilslice, (.int .i64 (.ofNat (nat_lit 0)))] (fun v8 s9 => kStore (nat_lit 6) v8 v6 (fun v10 s11 => kBind (e (.call (nat_lit 51) [a0, (.str (nat_lit 4) (nat_lit 1701080942))])) (fun v12 s13 => kBind (e (.call (nat_lit 52) [a0])) (fun v14 s15 => kFA (nat_lit 0) v8 (fun v16 s17 => c41k81 e v16 v14 a0 v8 v0 s17) s15) s13) s11) s9) s7) s5

noncomputable def c41 (e : Ev) (a0 : AV) (s9999 : St) : R AV :=
  kAlloc [(.str (nat_lit 0) (nat_lit 0)), .nilslice, .nilslice, .nilslice, .nilslice, (.int .i64 (.ofNat (nat_lit 0)))] (fun v0 s1 => kBind (e (.call (nat_lit 37) [a0])) (fun v2 s3 => kPart1 (nat_lit 5) v2 (fun v4 s5 => c41k82 e v4 a0 v0 s5) s3) s1) s9999

theorem c41_ok (ev : Task → M AV) (a0 : AV) (s : St) : (stepN Try.prog ev (.call 41 [a0])).run s = c41 (runs ev) a0 s :=
  (call_is Try.prog (nt := (nat_lit 49)) Try.func41 rfl (by kernel_rfl) [a0] (by kernel_rfl) (w_seq (w_seq (w_seq (w_seq (w_seq (w_seq (w_seq (w_as (fun f s => c41j24 (runs ev) (f 0) (f 2) (f 3) s) (w_seq (w_seq (w_seq (w_seq (w_seq (w_seq (w_seq (w_as (fun f s => c41j45 (runs ev) (f 0) (f 2) (f 3) s) w_any (fun _ _ => by kernel_rfl)) w_any) w_any) w_any) w_any) w_any) w_any) w_any) (fun _ _ => by kernel_rfl)) w_any) w_any) w_any) w_any) w_any) w_any) w_any) s).trans (by kernel_rfl)

noncomputable def c42j2 (e : Ev) (v3 v4 : AV) (s5 : St) : R AV :=
  kFA (nat_lit 1) v4 (fun v6 s7 => kLoadN (nat_lit 9) v6 (fun v8 s9 => kBind (e (.call (nat_lit 57) [v3, v8])) (fun v10 s11 => .ok v10 s11) s9) s7) s5

noncomputable def c42k64 (e : Ev) (w19 : AV → AV → AV → AV → AV → AV → St → R AV) (v50 v23 v21 v22 v32 v26 v24 v25 : AV) (s51 : St) : R AV :=
  kNeq Try.prog (nat_lit 3) v50 (.int .i64 (.ofNat (nat_lit 0))) (fun v52 s53 => kIf v52 (kFA (nat_lit 11) v23 (fun v54 s55 => kLoad1 v54 (fun v56 s57 => kBind (e (.call (nat_lit 29) [v21, v56, (.int .i64 (.ofNat (nat_lit 20)))])) (fun v58 s59 => .ok v58 s59) s57) s55) s53) (kPutS v22 v32 (.int .i64 (.ofNat (nat_lit 1))) (fun v60 s61 => kAdd Try.prog (nat_lit 3) v26 (.int .i64 (.ofNat (nat_lit 1))) (fun v62 s63 => w19 v21 v22 v23 v24 v25 v62 s63) s61) s53)) s51

noncomputable def c42k65 (e : Ev) (w19 : AV → AV → AV → AV → AV → AV → St → R AV) (v38 v32 v23 v21 v22 v26 v24 v25 : AV) (s39 : St) : R AV :=
  kLookS (.int .i64 (.ofNat (nat_lit 0))) false v38 v32 (fun v40 s41 => kNeq Try.prog (nat_lit 3) v40 (.int .i64 (.ofNat (nat_lit 2))) (fun v42 s43 => kIf v42 (kFA (nat_lit 11) v23 (fun v44 s45 => kLoad1 v44 (fun v46 s47 => kBind (e (.call (nat_lit 29) [v21, v46, (.int .i64 (.ofNat (nat_lit 21)))])) (fun v48 s49 => .ok v48 s49) s47) s45) s43) (kLookS (.int .i64 (.ofNat (nat_lit 0))) false v22 v32 (fun v50 s51 => c42k64 e w19 v50 v23 v21 v22 v32 v26 v24 v25 s51) s43)) s41) s39

noncomputable def c42l18b (e : Ev) (w19 : AV → AV → AV → AV → AV → AV → St → R AV) (v21 v22 v23 v24 v25 v26 : AV) (s27 : St) : R AV :=
  kLss Try.prog (nat_lit 3) v26 v25 (fun v28 s29 => kIf v28 (kIA (nat_lit 1) v24 v26 (fun v30 s31 => kLoad1 v30 (fun v32 s33 => kNilCheck v21 (fun v34 s35 => kFA (nat_lit 1) v34 (fun v36 s37 => kLoad1 v36 (fun v38 s39 => c42k65 e w19 v38 v32 v23 v21 v22 v26 v24 v25 s39) s37) s35) s33) s31) s29) (c42j2 e v21 v23 s29)) s27

noncomputable def c42l18 (e : Ev) (n : Nat) : AV → AV → AV → AV → AV → AV → St → R AV :=
  @Nat.rec (fun _ => AV → AV → AV → AV → AV → AV → St → R AV) (fun _ _ _ _ _ _ _ => .fail) (fun _ w => c42l18b e w) n

noncomputable def c42 (e : Ev) (a0 a1 a2 : AV) (s9999 : St) : R AV :=
  kBox a1 (fun v0 s1 => kFA (nat_lit 0) v0 (fun v12 s13 => kLoad1 v12 (fun v14 s15 => kLenL v14 (fun v16 s17 => c42l18 e fuelN a0 a2 v0 v14 v16 (.int .i64 (.ofNat (nat_lit 0))) s17) s15) s13) s1) s9999

theorem c42_ok (ev : Task → M AV) (a0 a1 a2 : AV) (s : St) : (stepN Try.prog ev (.call 42 [a0, a1, a2])).run s = c42 (runs ev) a0 a1 a2 s :=
  (call_is Try.prog (nt := (nat_lit 42)) Try.func42 rfl (by kernel_rfl) [a0, a1, a2] (by kernel_rfl) (w_seq (w_seq (w_as (fun f s => c42j2 (runs ev) (f 0) (f 4) s) w_any (fun _ _ => by kernel_rfl)) (w_seq (w_block (w_loop (fun n f s => c42l18 (runs ev) n (f 0) (f 2) (f 4) (f 10) (f 11) (f 12) s) (fun _ _ => by kernel_rfl) (fun n20 => w_as _ w_any (fun _ _ => by kernel_rfl)))) w_any)) w_any) s).trans (by kernel_rfl)

noncomputable def c43j21 (e : Ev) (v22 v23 : AV) (s24 : St) : R AV :=
  kBind (e (.call (nat_lit 60) [v22, v23])) (fun v25 s26 => .ok (.bool true) s26) s24

noncomputable def c43k56 (e : Ev) (w30 : AV → AV → AV → AV → AV → St → R AV) (v36 v33 v34 v32 v35 : AV) (s41 : St) : R AV :=
  kM (entryA v36) (fun v42 s43 => kExt (nat_lit 0) v42 (fun v44 s45 => kLookS (.int .i64 (.ofNat (nat_lit 0))) false v33 v44 (fun v46 s47 => kNeq Try.prog (nat_lit 3) v46 (.int .i64 (.ofNat (nat_lit 0))) (fun v48 s49 => kIf v48 (kFA (nat_lit 11) v34 (fun v50 s51 => kLoad1 v50 (fun v52 s53 => kBind (e (.call (nat_lit 29) [v32, v52, (.int .i64 (.ofNat (nat_lit 20)))])) (fun v54 s55 => .ok v54 s55) s53) s51) s49) (w30 v32 v33 v34 v35 v36 s49)) s47) s45) s43) s41

noncomputable def c43l29b (e : Ev) (w30 : AV → AV → AV → AV → AV → St → R AV) (v32 v33 v34 v35 v36 : AV) (s37 : St) : R AV :=
  kM (nextA v36 false) (fun v38 s39 => kExt (nat_lit 0) v38 (fun v40 s41 => kIf v40 (c43k56 e w30 v36 v33 v34 v32 v35 s41) (c43j21 e v33 v35 s41)) s39) s37

noncomputable def c43l29 (e : Ev) (n : Nat) : AV → AV → AV → AV → AV → St → R AV :=
  @Nat.rec (fun _ => AV → AV → AV → AV → AV → St → R AV) (fun _ _ _ _ _ _ => .fail) (fun _ w => c43l29b e w) n

noncomputable def c43j10 (e : Ev) (v11 v12 v13 v14 v15 : AV) (s16 : St) : R AV :=
  kGeq Try.prog (nat_lit 3) v15 (.int .i64 (.ofNat (nat_lit 0))) (fun v17 s18 => kIf v17 (kBind (e (.call (nat_lit 29) [v11, v15, (.int .i64 (.ofNat (nat_lit 25)))])) (fun v19 s20 => .ok v19 s20) s18) (kM (rangeA Try.prog (nat_lit 57) v14) (fun v27 s28 => c43l29 e fuelN v11 v12 v13 v14 v27 s28) s18)) s16

noncomputable def c43j78 (e : Ev) (w64 : AV → AV → AV → AV → AV → AV → AV → AV → AV → St → R AV) (v79 v80 v81 v82 v83 v84 v85 v86 v87 : AV) (s88 : St) : R AV :=
  kAdd Try.prog (nat_lit 3) v87 (.int .i64 (.ofNat (nat_lit 1))) (fun v89 s90 => w64 v79 v80 v81 v82 v83 v84 v85 v86 v89 s90) s88

noncomputable def c43k138 (e : Ev) (w64 : AV → AV → AV → AV → AV → AV → AV → AV → AV → St → R AV) (v122 v117 v124 v116 v110 v111 v112 v113 v114 v118 v119 v120 v115 : AV) (s125 : St) : R AV :=
  kIf1 v122 (fun k s => kMv v117 k s) (fun v126 s127 => kIf1 v122 (fun k s => kBind (e (.call (nat_lit 59) [v124, v126])) k s) (fun v128 s129 => kIf1 v122 (fun k s => kNot v128 k s) (fun v130 s131 => kPick v122 v130 (.bool false) (fun v132 s133 => kIf v132 (kFA (nat_lit 5) v116 (fun v134 s135 => kLoad1 v134 (fun v136 s137 => c43j78 e w64 v110 v111 v112 v113 v114 v136 v118 v119 v120 s137) s135) s133) (c43j78 e w64 v110 v111 v112 v113 v114 v115 v118 v119 v120 s133)) s131) s129) s127) s125

noncomputable def c43j109 (e : Ev) (w64 : AV → AV → AV → AV → AV → AV → AV → AV → AV → St → R AV) (v110 v111 v112 v113 v114 v115 v116 v117 v118 v119 v120 : AV) (s121 : St) : R AV :=
  kLss Try.prog (nat_lit 3) v115 (.int .i64 (.ofNat (nat_lit 0))) (fun v122 s123 => kIf1 v122 (fun k s => kMv v114 k s) (fun v124 s125 => c43k138 e w64 v122 v117 v124 v116 v110 v111 v112 v113 v114 v118 v119 v120 v115 s125) s123) s121

noncomputable def c43k141 (e : Ev) (w64 : AV → AV → AV → AV → AV → AV → AV → AV → AV → St → R AV) (v66 v99 v69 v74 v67 v68 v71 v95 v72 v73 v70 : AV) (s100 : St) : R AV :=
  kBind (e (.call (nat_lit 58) [v66, v99, v69])) (fun v101 s102 => kExt (nat_lit 0) v101 (fun v103 s104 => kExt (nat_lit 1) v101 (fun v105 s106 => kNot v105 (fun v107 s108 => kIf v107 (.ok (.bool false) s108) (kEql Try.prog (nat_lit 3) v74 (.int .i64 (.ofNat (nat_lit 0))) (fun v139 s140 => kIf v139 (c43j109 e w64 v66 v67 v68 v69 v103 v71 v95 v103 v72 v73 v74 s140) (c43j109 e w64 v66 v67 v68 v69 v70 v71 v95 v103 v72 v73 v74 s140)) s108)) s106) s104) s102) s100

noncomputable def c43l63b (e : Ev) (w64 : AV → AV → AV → AV → AV → AV → AV → AV → AV → St → R AV) (v66 v67 v68 v69 v70 v71 v72 v73 v74 : AV) (s75 : St) : R AV :=
  kLss Try.prog (nat_lit 3) v74 v73 (fun v76 s77 => kIf v76 (kIA (nat_lit 6) v72 v74 (fun v91 s92 => kLoadN (nat_lit 6) v91 (fun v93 s94 => kAlloc [(.str (nat_lit 0) (nat_lit 0)), .nilslice, .nilslice, .nilslice, .nilslice, (.int .i64 (.ofNat (nat_lit 0)))] (fun v95 s96 => kStore (nat_lit 6) v95 v93 (fun v97 s98 => kLoadN (nat_lit 6) v95 (fun v99 s100 => c43k141 e w64 v66 v99 v69 v74 v67 v68 v71 v95 v72 v73 v70 s100) s98) s96) s94) s92) s77) (c43j10 e v66 v67 v68 v70 v71 s77)) s75

noncomputable def c43l63 (e : Ev) (n : Nat) : AV → AV → AV → AV → AV → AV → AV → AV → AV → St → R AV :=
  @Nat.rec (fun _ => AV → AV → AV → AV → AV → AV → AV → AV → AV → St → R AV) (fun _ _ _ _ _ _ _ _ _ _ => .fail) (fun _ w => c43l63b e w) n

noncomputable def c43j4 (e : Ev) (v5 v6 v7 v8 : AV) (s9 : St) : R AV :=
  kFA (nat_lit 10) v7 (fun v57 s58 => kLoad1 v57 (fun v59 s60 => kLenL v59 (fun v61 s62 => c43l63 e fuelN v5 v6 v7 v8 .nilmap (.int .i64 (.negSucc (nat_lit 0))) v59 v61 (.int .i64 (.ofNat (nat_lit 0))) s62) s60) s58) s9

noncomputable def c43k191 (e : Ev) (w149 : AV → AV → AV → AV → AV → AV → AV → St → R AV) (v175 v165 v151 v154 v157 v152 v153 v155 v156 : AV) (s176 : St) : R AV :=
  kIf v175 (kFA (nat_lit 5) v165 (fun v177 s178 => kLoad1 v177 (fun v179 s180 => kBind (e (.call (nat_lit 29) [v151, v179, (.int .i64 (.ofNat (nat_lit 20)))])) (fun v181 s182 => .ok v181 s182) s180) s178) s176) (kFA (nat_lit 0) v165 (fun v183 s184 => kLoad1 v183 (fun v185 s186 => kPutS v154 v185 (.int .i64 (.ofNat (nat_lit 1))) (fun v187 s188 => kAdd Try.prog (nat_lit 3) v157 (.int .i64 (.ofNat (nat_lit 1))) (fun v189 s190 => w149 v151 v152 v153 v154 v155 v156 v189 s190) s188) s186) s184) s176)

noncomputable def c43k192 (e : Ev) (w149 : AV → AV → AV → AV → AV → AV → AV → St → R AV) (v163 v154 v151 v157 v152 v153 v155 v156 : AV) (s164 : St) : R AV :=
  kAlloc [(.str (nat_lit 0) (nat_lit 0)), .nilslice, .nilslice, .nilslice, .nilslice, (.int .i64 (.ofNat (nat_lit 0)))] (fun v165 s166 => kStore (nat_lit 6) v165 v163 (fun v167 s168 => kFA (nat_lit 0) v165 (fun v169 s170 => kLoad1 v169 (fun v171 s172 => kLookS (.int .i64 (.ofNat (nat_lit 0))) false v154 v171 (fun v173 s174 => kNeq Try.prog (nat_lit 3) v173 (.int .i64 (.ofNat (nat_lit 0))) (fun v175 s176 => c43k191 e w149 v175 v165 v151 v154 v157 v152 v153 v155 v156 s176) s174) s172) s170) s168) s166) s164

noncomputable def c43l148b (e : Ev) (w149 : AV → AV → AV → AV → AV → AV → AV → St → R AV) (v151 v152 v153 v154 v155 v156 v157 : AV) (s158 : St) : R AV :=
  kLss Try.prog (nat_lit 3) v157 v156 (fun v159 s160 => kIf v159 (kIA (nat_lit 6) v155 v157 (fun v161 s162 => kLoadN (nat_lit 6) v161 (fun v163 s164 => c43k192 e w149 v163 v154 v151 v157 v152 v153 v155 v156 s164) s162) s160) (c43j4 e v151 v152 v153 v154 s160)) s158

noncomputable def c43l148 (e : Ev) (n : Nat) : AV → AV → AV → AV → AV → AV → AV → St → R AV :=
  @Nat.rec (fun _ => AV → AV → AV → AV → AV → AV → AV → St → R AV) (fun _ _ _ _ _ _ _ _ => .fail) (fun _ w => c43l148b e w) n

noncomputable def c43 (e : Ev) (a0 a1 a2 : AV) (s9999 : St) : R AV :=
  kBox a1 (fun v0 s1 => kNewMap (fun v2 s3 => kFA (nat_lit 10) v0 (fun v142 s143 => kLoad1 v142 (fun v144 s145 => kLenL v144 (fun v146 s147 => c43l148 e fuelN a0 a2 v0 v2 v144 v146 (.int .i64 (.ofNat (nat_lit 0))) s147) s145) s143) s3) s1) s9999

theorem c43_ok (ev : Task → M AV) (a0 a1 a2 : AV) (s : St) : (stepN Try.prog ev (.call 43 [a0, a1, a2])).run s = c43 (runs ev) a0 a1 a2 s :=
  (call_is Try.prog (nt := (nat_lit 91)) Try.func43 rfl (by kernel_rfl) [a0, a1, a2] (by kernel_rfl) (w_seq (w_seq (w_seq (w_as (fun f s => c43j4 (runs ev) (f 0) (f 2) (f 4) (f 7) s) (w_seq (w_seq (w_seq (w_as (fun f s => c43j10 (runs ev) (f 0) (f 2) (f 4) (f 10) (f 11) s) (w_seq (w_seq (w_as (fun f s => c43j21 (runs ev) (f 2) (f 10) s) w_any (fun _ _ => by kernel_rfl)) (w_seq (w_block (w_loop (fun n f s => c43l29 (runs ev) n (f 0) (f 2) (f 4) (f 10) (f 75) s) (fun _ _ => by kernel_rfl) (fun n31 => w_as _ w_any (fun _ _ => by kernel_rfl)))) w_any)) w_any) (fun _ _ => by kernel_rfl)) (w_seq (w_block (w_loop (fun n f s => c43l63 (runs ev) n (f 0) (f 2) (f 4) (f 7) (f 10) (f 11) (f 39) (f 40) (f 41) s) (fun _ _ => by kernel_rfl) (fun n65 => w_as _ (w_seq (w_seq (w_seq (w_as (fun f s => c43j78 (runs ev) (c43l63 (runs ev) n65) (f 0) (f 2) (f 4) (f 7) (f 10) (f 11) (f 39) (f 40) (f 41) s) w_any (fun _ _ => by kernel_rfl)) (w_block (w_seq (w_seq (w_seq (w_seq (w_as (fun f s => c43j109 (runs ev) (c43l63 (runs ev) n65) (f 0) (f 2) (f 4) (f 7) (f 10) (f 11) (f 13) (f 14) (f 39) (f 40) (f 41) s) w_any (fun _ _ => by kernel_rfl)) w_any) w_any) w_any) w_any))) w_any) w_any) (fun _ _ => by kernel_rfl)))) w_any)) w_any) w_any) (fun _ _ => by kernel_rfl)) (w_seq (w_block (w_loop (fun n f s => c43l148 (runs ev) n (f 0) (f 2) (f 4) (f 7) (f 19) (f 20) (f 21) s) (fun _ _ => by kernel_rfl) (fun n150 => w_as _ w_any (fun _ _ => by kernel_rfl)))) w_any)) w_any) w_any) s).trans (by kernel_rfl)

noncomputable def c44 (e : Ev) (a0 : AV) (s9999 : St) : R AV :=
  kEql Try.prog (nat_lit 57) a0 .nilmap (fun v0 s1 => kIf v0 (.ok .nilmap s1) (kBind (callValR Try.prog e (.func (.func (nat_lit 61)) [] []) [(.iface (nat_lit 57) a0)]) (fun v2 s3 => kO (assertA Try.prog (nat_lit 57) false v2) (fun v4 s5 => .ok v4 s5) s3) s1)) s9999

theorem c44_ok (ev : Task → M AV) (a0 : AV) (s : St) : (stepN Try.prog ev (.call 44 [a0])).run s = c44 (runs ev) a0 s :=
  (call_is Try.prog (nt := (nat_lit 9)) Try.func44 rfl (by kernel_rfl) [a0] (by kernel_rfl) w_any s).trans (by kernel_rfl)

noncomputable def c45k28 (e : Ev) (v12 v14 v6 a0 : AV) (s15 : St) : R AV :=
  kIf1 v12 (fun k s => kLeq Try.prog (nat_lit 5) v14 (.int .u8 (.ofNat (nat_lit 90))) k s) (fun v16 s17 => kIf0 v6 (fun k s => kPick v12 v16 (.bool false) k s) (fun v18 s19 => kPick v6 (.bool true) v18 (fun v20 s21 => kIf0 v20 (fun k s => kMv a0 k s) (fun v22 s23 => kIf0 v20 (fun k s => kEql Try.prog (nat_lit 5) v22 (.int .u8 (.ofNat (nat_lit 95))) k s) (fun v24 s25 => kPick v20 (.bool true) v24 (fun v26 s27 => .ok v26 s27) s25) s23) s21) s19) s17) s15

noncomputable def c45k29 (e : Ev) (v0 a0 : AV) (s1 : St) : R AV :=
  kIf1 v0 (fun k s => kMv a0 k s) (fun v2 s3 => kIf1 v0 (fun k s => kLeq Try.prog (nat_lit 5) v2 (.int .u8 (.ofNat (nat_lit 122))) k s) (fun v4 s5 => kPick v0 v4 (.bool false) (fun v6 s7 => kIf0 v6 (fun k s => kMv a0 k s) (fun v8 s9 => kIf0 v6 (fun k s => kGeq Try.prog (nat_lit 5) v8 (.int .u8 (.ofNat (nat_lit 65))) k s) (fun v10 s11 => kIf0 v6 (fun k s => kMv v10 k s) (fun v12 s13 => kIf1 v12 (fun k s => kMv a0 k s) (fun v14 s15 => c45k28 e v12 v14 v6 a0 s15) s13) s11) s9) s7) s5) s3) s1

noncomputable def c45 (e : Ev) (a0 : AV) (s9999 : St) : R AV :=
  kGeq Try.prog (nat_lit 5) a0 (.int .u8 (.ofNat (nat_lit 97))) (fun v0 s1 => c45k29 e v0 a0 s1) s9999

theorem c45_ok (ev : Task → M AV) (a0 : AV) (s : St) : (stepN Try.prog ev (.call 45 [a0])).run s = c45 (runs ev) a0 s :=
  (call_is Try.prog (nt := (nat_lit 21)) Try.func45 rfl (by kernel_rfl) [a0] (by kernel_rfl) w_any s).trans (by kernel_rfl)

noncomputable def c46 (e : Ev) (a0 : AV) (s9999 : St) : R AV :=
  kGeq Try.prog (nat_lit 5) a0 (.int .u8 (.ofNat (nat_lit 48))) (fun v0 s1 => kIf1 v0 (fun k s => kMv a0 k s) (fun v2 s3 => kIf1 v0 (fun k s => kLeq Try.prog (nat_lit 5) v2 (.int .u8 (.ofNat (nat_lit 57))) k s) (fun v4 s5 => kPick v0 v4 (.bool false) (fun v6 s7 => .ok v6 s7) s5) s3) s1) s9999

theorem c46_ok (ev : Task → M AV) (a0 : AV) (s : St) : (stepN Try.prog ev (.call 46 [a0])).run s = c46 (runs ev) a0 s :=
  (call_is Try.prog (nt := (nat_lit 9)) Try.func46 rfl (by kernel_rfl) [a0] (by kernel_rfl) w_any s).trans (by kernel_rfl)

noncomputable def c47j4 (e : Ev) (v5 : AV) (s6 : St) : R AV :=
  kIf v5 (.ok (.bool true) s6) (.ok (.bool false) s6)

noncomputable def c47k73 (e : Ev) (a0 : AV) (s64 : St) : R AV :=
  kEql Try.prog (nat_lit 9) a0 (.str (nat_lit 6) (nat_lit 126939460038261)) (fun v65 s66 => kIf v65 (c47j4 e v65 s66) (kEql Try.prog (nat_lit 9) a0 (.str (nat_lit 5) (nat_lit 465625706101)) (fun v67 s68 => kIf v67 (c47j4 e v67 s68) (kEql Try.prog (nat_lit 9) a0 (.str (nat_lit 8) (nat_lit 7310870969309884259)) (fun v69 s70 => kIf v69 (c47j4 e v69 s70) (kEql Try.prog (nat_lit 9) a0 (.str (nat_lit 3) (nat_lit 6581861)) (fun v71 s72 => c47j4 e v71 s72) s70)) s68)) s66)) s64

noncomputable def c47k74 (e : Ev) (a0 : AV) (s56 : St) : R AV :=
  kEql Try.prog (nat_lit 9) a0 (.str (nat_lit 5) (nat_lit 435728179558)) (fun v57 s58 => kIf v57 (c47j4 e v57 s58) (kEql Try.prog (nat_lit 9) a0 (.str (nat_lit 9) (nat_lit 2037172999266208347489)) (fun v59 s60 => kIf v59 (c47j4 e v59 s60) (kEql Try.prog (nat_lit 9) a0 (.str (nat_lit 5) (nat_lit 435744240755)) (fun v61 s62 => kIf v61 (c47j4 e v61 s62) (kEql Try.prog (nat_lit 9) a0 (.str (nat_lit 2) (nat_lit 28516)) (fun v63 s64 => kIf v63 (c47j4 e v63 s64) (c47k73 e a0 s64)) s62)) s60)) s58)) s56

noncomputable def c47k75 (e : Ev) (a0 : AV) (s48 : St) : R AV :=
  kEql Try.prog (nat_lit 9) a0 (.str (nat_lit 3) (nat_lit 7364973)) (fun v49 s50 => kIf v49 (c47j4 e v49 s50) (kEql Try.prog (nat_lit 9) a0 (.str (nat_lit 4) (nat_lit 1684828006)) (fun v51 s52 => kIf v51 (c47j4 e v51 s52) (kEql Try.prog (nat_lit 9) a0 (.str (nat_lit 2) (nat_lit 28271)) (fun v53 s54 => kIf v53 (c47j4 e v53 s54) (kEql Try.prog (nat_lit 9) a0 (.str (nat_lit 4) (nat_lit 1702195828)) (fun v55 s56 => kIf v55 (c47j4 e v55 s56) (c47k74 e a0 s56)) s54)) s52)) s50)) s48

noncomputable def c47k76 (e : Ev) (a0 : AV) (s40 : St) : R AV :=
  kEql Try.prog (nat_lit 9) a0 (.str (nat_lit 4) (nat_lit 1953718627)) (fun v41 s42 => kIf v41 (c47j4 e v41 s42) (kEql Try.prog (nat_lit 9) a0 (.str (nat_lit 4) (nat_lit 1801677172)) (fun v43 s44 => kIf v43 (c47j4 e v43 s44) (kEql Try.prog (nat_lit 9) a0 (.str (nat_lit 5) (nat_lit 499918267762)) (fun v45 s46 => kIf v45 (c47j4 e v45 s46) (kEql Try.prog (nat_lit 9) a0 (.str (nat_lit 3) (nat_lit 7366002)) (fun v47 s48 => kIf v47 (c47j4 e v47 s48) (c47k75 e a0 s48)) s46)) s44)) s42)) s40

noncomputable def c47k77 (e : Ev) (a0 : AV) (s32 : St) : R AV :=
  kEql Try.prog (nat_lit 9) a0 (.str (nat_lit 3) (nat_lit 6648432)) (fun v33 s34 => kIf v33 (c47j4 e v33 s34) (kEql Try.prog (nat_lit 9) a0 (.str (nat_lit 3) (nat_lit 7955046)) (fun v35 s36 => kIf v35 (c47j4 e v35 s36) (kEql Try.prog (nat_lit 9) a0 (.str (nat_lit 4) (nat_lit 1852139639)) (fun v37 s38 => kIf v37 (c47j4 e v37 s38) (kEql Try.prog (nat_lit 9) a0 (.str (nat_lit 5) (nat_lit 435527247213)) (fun v39 s40 => kIf v39 (c47j4 e v39 s40) (c47k76 e a0 s40)) s38)) s36)) s34)) s32

noncomputable def c47k78 (e : Ev) (a0 : AV) (s24 : St) : R AV :=
  kEql Try.prog (nat_lit 9) a0 (.str (nat_lit 3) (nat_lit 6581857)) (fun v25 s26 => kIf v25 (c47j4 e v25 s26) (kEql Try.prog (nat_lit 9) a0 (.str (nat_lit 2) (nat_lit 29295)) (fun v27 s28 => kIf v27 (c47j4 e v27 s28) (kEql Try.prog (nat_lit 9) a0 (.str (nat_lit 3) (nat_lit 7499640)) (fun v29 s30 => kIf v29 (c47j4 e v29 s30) (kEql Try.prog (nat_lit 9) a0 (.str (nat_lit 3) (nat_lit 6582125)) (fun v31 s32 => kIf v31 (c47j4 e v31 s32) (c47k77 e a0 s32)) s30)) s28)) s26)) s24

noncomputable def c47k79 (e : Ev) (a0 : AV) (s16 : St) : R AV :=
  kEql Try.prog (nat_lit 9) a0 (.str (nat_lit 2) (nat_lit 26217)) (fun v17 s18 => kIf v17 (c47j4 e v17 s18) (kEql Try.prog (nat_lit 9) a0 (.str (nat_lit 4) (nat_lit 1852139636)) (fun v19 s20 => kIf v19 (c47j4 e v19 s20) (kEql Try.prog (nat_lit 9) a0 (.str (nat_lit 4) (nat_lit 1702063205)) (fun v21 s22 => kIf v21 (c47j4 e v21 s22) (kEql Try.prog (nat_lit 9) a0 (.str (nat_lit 3) (nat_lit 7630702)) (fun v23 s24 => kIf v23 (c47j4 e v23 s24) (c47k78 e a0 s24)) s22)) s20)) s18)) s16

noncomputable def c47k80 (e : Ev) (a0 : AV) (s8 : St) : R AV :=
  kEql Try.prog (nat_lit 9) a0 (.str (nat_lit 7) (nat_lit 32491060197614962)) (fun v9 s10 => kIf v9 (c47j4 e v9 s10) (kEql Try.prog (nat_lit 9) a0 (.str (nat_lit 3) (nat_lit 7496054)) (fun v11 s12 => kIf v11 (c47j4 e v11 s12) (kEql Try.prog (nat_lit 9) a0 (.str (nat_lit 3) (nat_lit 7628140)) (fun v13 s14 => kIf v13 (c47j4 e v13 s14) (kEql Try.prog (nat_lit 9) a0 (.str (nat_lit 3) (nat_lit 7103860)) (fun v15 s16 => kIf v15 (c47j4 e v15 s16) (c47k79 e a0 s16)) s14)) s12)) s10)) s8

noncomputable def c47 (e : Ev) (a0 : AV) (s9999 : St) : R AV :=
  kBind (e (.call (nat_lit 48) [a0])) (fun v0 s1 => kGtr Try.prog (nat_lit 3) v0 (.int .i64 (.ofNat (nat_lit 0))) (fun v2 s3 => kIf v2 (.ok (.bool true) s3) (kEql Try.prog (nat_lit 9) a0 (.str (nat_lit 4) (nat_lit 1701080942)) (fun v7 s8 => kIf v7 (c47j4 e v7 s8) (c47k80 e a0 s8)) s3)) s1) s9999

theorem c47_ok (ev : Task → M AV) (a0 : AV) (s : St) : (stepN Try.prog ev (.call 47 [a0])).run s = c47 (runs ev) a0 s :=
  (call_is Try.prog (nt := (nat_lit 41)) Try.func47 rfl (by kernel_rfl) [a0] (by kernel_rfl) (w_seq (w_seq (w_seq w_any (w_seq (w_block (w_seq (w_as (fun f s => c47j4 (runs ev) (f 7) s) w_any (fun _ _ => by kernel_rfl)) w_any)) w_any)) w_any) w_any) s).trans (by kernel_rfl)

noncomputable def c48j2 (e : Ev) (s3 : St) : R AV :=
  .ok (.int .i64 (.ofNat (nat_lit 0))) s3

noncomputable def c48l4b (e : Ev) (w5 : AV → AV → AV → St → R AV) (v7 v8 v9 : AV) (s10 : St) : R AV :=
  kLenL v8 (fun v11 s12 => kLss Try.prog (nat_lit 3) v9 v11 (fun v13 s14 => kIf v13 (kIA (nat_lit 1) v8 v9 (fun v15 s16 => kLoad1 v15 (fun v17 s18 => kEql Try.prog (nat_lit 9) v17 v7 (fun v19 s20 => kIf v19 (kAdd Try.prog (nat_lit 3) v9 (.int .i64 (.ofNat (nat_lit 1))) (fun v21 s22 => .ok v21 s22) s20) (kAdd Try.prog (nat_lit 3) v9 (.int .i64 (.ofNat (nat_lit 1))) (fun v23 s24 => w5 v7 v8 v23 s24) s20)) s18) s16) s14) (c48j2 e s14)) s12) s10

noncomputable def c48l4 (e : Ev) (n : Nat) : AV → AV → AV → St → R AV :=
  @Nat.rec (fun _ => AV → AV → AV → St → R AV) (fun _ _ _ _ => .fail) (fun _ w => c48l4b e w) n

noncomputable def c48 (e : Ev) (a0 : AV) (s9999 : St) : R AV :=
  kBuildSl [(.str (nat_lit 0) (nat_lit 0)), (.str (nat_lit 0) (nat_lit 0)), (.str (nat_lit 0) (nat_lit 0)), (.str (nat_lit 0) (nat_lit 0)), (.str (nat_lit 0) (nat_lit 0)), (.str (nat_lit 0) (nat_lit 0)), (.str (nat_lit 0) (nat_lit 0)), (.str (nat_lit 0) (nat_lit 0)), (.str (nat_lit 0) (nat_lit 0))] (nat_lit 9) [(some ((nat_lit 0), (nat_lit 1)), (.str (nat_lit 4) (nat_lit 1819242338))), (some ((nat_lit 1), (nat_lit 1)), (.str (nat_lit 2) (nat_lit 14441))), (some ((nat_lit 2), (nat_lit 1)), (.str (nat_lit 3) (nat_lit 3551593))), (some ((nat_lit 3), (nat_lit 1)), (.str (nat_lit 3) (nat_lit 3289961))), (some ((nat_lit 4), (nat_lit 1)), (.str (nat_lit 3) (nat_lit 3421801))), (some ((nat_lit 5), (nat_lit 1)), (.str (nat_lit 2) (nat_lit 14453))), (some ((nat_lit 6), (nat_lit 1)), (.str (nat_lit 3) (nat_lit 3551605))), (some ((nat_lit 7), (nat_lit 1)), (.str (nat_lit 3) (nat_lit 3289973))), (some ((nat_lit 8), (nat_lit 1)), (.str (nat_lit 3) (nat_lit 3421813)))] (fun v0 s1 => c48l4 e fuelN a0 v0 (.int .i64 (.ofNat (nat_lit 0))) s1) s9999

theorem c48_ok (ev : Task → M AV) (a0 : AV) (s : St) : (stepN Try.prog ev (.call 48 [a0])).run s = c48 (runs ev) a0 s :=
  (call_is Try.prog (nt := (nat_lit 20)) Try.func48 rfl (by kernel_rfl) [a0] (by kernel_rfl) (w_seq (w_seq (w_seq (w_as (fun f s => c48j2 (runs ev) s) w_any (fun _ _ => by kernel_rfl)) (w_seq (w_block (w_loop (fun n f s => c48l4 (runs ev) n (f 0) (f 3) (f 4) s) (fun _ _ => by kernel_rfl) (fun n6 => w_as _ w_any (fun _ _ => by kernel_rfl)))) w_any)) w_any) w_any) s).trans (by kernel_rfl)

noncomputable def c49j40 (e : Ev) (v41 v42 v43 : AV) (s44 : St) : R AV :=
  kBind (e (.call (nat_lit 63) [v41])) (fun v45 s46 => kIf v45 (kO (binA Try.prog .quo (nat_lit 3) v43 (.int .i64 (.ofNat (nat_lit 2)))) (fun v47 s48 => kGtr Try.prog (nat_lit 3) v42 v47 (fun v49 s50 => kIf v49 (.ok (.tuple [(.int .i64 (.ofNat (nat_lit 0))), (.bool false)]) s50) (kBind (e (.call (nat_lit 64) [v41, v42])) (fun v51 s52 => .ok (.tuple [v51, (.bool true)]) s52) s50)) s48) s46) (kLss Try.prog (nat_lit 3) v42 v43 (fun v53 s54 => .ok (.tuple [v42, v53]) s54) s46)) s44

noncomputable def c49l55b (e : Ev) (w56 : AV → AV → AV → AV → AV → St → R AV) (v58 v59 v60 v61 v62 : AV) (s63 : St) : R AV :=
  kLss Try.prog (nat_lit 3) v62 v60 (fun v64 s65 => kIf v64 (kMul Try.prog (nat_lit 3) (.int .i64 (.ofNat (nat_lit 2))) v61 (fun v66 s67 => kAdd Try.prog (nat_lit 3) v62 (.int .i64 (.ofNat (nat_lit 1))) (fun v68 s69 => w56 v58 v59 v60 v66 v68 s69) s67) s65) (c49j40 e v58 v59 v61 s65)) s63

noncomputable def c49l55 (e : Ev) (n : Nat) : AV → AV → AV → AV → AV → St → R AV :=
  @Nat.rec (fun _ => AV → AV → AV → AV → AV → St → R AV) (fun _ _ _ _ _ _ => .fail) (fun _ w => c49l55b e w) n

noncomputable def c49k70 (e : Ev) (v21 v22 : AV) (s31 : St) : R AV :=
  kEql Try.prog (nat_lit 3) v21 (.int .i64 (.ofNat (nat_lit 5))) (fun v32 s33 => kIf v32 (kEql Try.prog (nat_lit 3) v22 (.int .i64 (.negSucc (nat_lit 9223372036854775807))) (fun v34 s35 => kIf v34 (.ok (.tuple [v22, (.bool true)]) s35) (kO (unA .neg v22) (fun v36 s37 => .ok (.tuple [v36, (.bool true)]) s37) s35)) s33) (kBind (e (.call (nat_lit 62) [v21])) (fun v38 s39 => c49l55 e fuelN v21 v22 v38 (.int .i64 (.ofNat (nat_lit 1))) (.int .i64 (.ofNat (nat_lit 0))) s39) s33)) s31

noncomputable def c49j20 (e : Ev) (v21 v22 : AV) (s23 : St) : R AV :=
  kEql Try.prog (nat_lit 3) v21 (.int .i64 (.ofNat (nat_lit 0))) (fun v24 s25 => kIf0 v24 (fun k s => kMv v21 k s) (fun v26 s27 => kIf0 v24 (fun k s => kEql Try.prog (nat_lit 3) v26 (.int .i64 (.ofNat (nat_lit 9))) k s) (fun v28 s29 => kPick v24 (.bool true) v28 (fun v30 s31 => kIf v30 (.ok (.tuple [v22, (.bool true)]) s31) (c49k70 e v21 v22 s31)) s29) s27) s25) s23

noncomputable def c49j83 (e : Ev) (w72 : AV → AV → AV → AV → St → R AV) (v84 v85 v86 v87 : AV) (s88 : St) : R AV :=
  kAdd Try.prog (nat_lit 3) v87 (.int .i64 (.ofNat (nat_lit 1))) (fun v89 s90 => w72 v84 v85 v86 v89 s90) s88

noncomputable def c49k118 (e : Ev) (w72 : AV → AV → AV → AV → St → R AV) (v106 v102 v99 v98 v101 : AV) (s107 : St) : R AV :=
  kAdd Try.prog (nat_lit 3) v106 v102 (fun v108 s109 => kGtr Try.prog (nat_lit 3) v99 (.int .i64 (.ofNat (nat_lit 0))) (fun v110 s111 => kIf1 v110 (fun k s => kMv v108 k s) (fun v112 s113 => kIf1 v110 (fun k s => kGtr Try.prog (nat_lit 3) v112 (.int .i64 (.ofNat (nat_lit 8589934592))) k s) (fun v114 s115 => kPick v110 v114 (.bool false) (fun v116 s117 => kIf v116 (.ok (.tuple [(.int .i64 (.ofNat (nat_lit 0))), (.bool false)]) s117) (c49j83 e w72 v98 v99 v108 v101 s117)) s115) s113) s111) s109) s107

noncomputable def c49k141 (e : Ev) (w72 : AV → AV → AV → AV → St → R AV) (v127 v129 v121 v100 v102 v98 v99 v101 : AV) (s130 : St) : R AV :=
  kIf1 v127 (fun k s => kGtr Try.prog (nat_lit 3) v129 (.int .i64 (.ofNat (nat_lit 8))) k s) (fun v131 s132 => kIf0 v121 (fun k s => kPick v127 v131 (.bool false) k s) (fun v133 s134 => kPick v121 (.bool true) v133 (fun v135 s136 => kIf v135 (.ok (.tuple [(.int .i64 (.ofNat (nat_lit 0))), (.bool false)]) s136) (kMul Try.prog (nat_lit 3) (.int .i64 (.ofNat (nat_lit 10))) v100 (fun v137 s138 => kSub Try.prog (nat_lit 3) v137 v102 (fun v139 s140 => c49j83 e w72 v98 v99 v139 v101 s140) s138) s136)) s134) s132) s130

noncomputable def c49k170 (e : Ev) (w72 : AV → AV → AV → AV → St → R AV) (v156 v158 v150 v100 v102 v98 v99 v101 : AV) (s159 : St) : R AV :=
  kIf1 v156 (fun k s => kGtr Try.prog (nat_lit 3) v158 (.int .i64 (.ofNat (nat_lit 5))) k s) (fun v160 s161 => kIf0 v150 (fun k s => kPick v156 v160 (.bool false) k s) (fun v162 s163 => kPick v150 (.bool true) v162 (fun v164 s165 => kIf v164 (.ok (.tuple [(.int .i64 (.ofNat (nat_lit 0))), (.bool false)]) s165) (kMul Try.prog (nat_lit 3) (.int .i64 (.ofNat (nat_lit 10))) v100 (fun v166 s167 => kAdd Try.prog (nat_lit 3) v166 v102 (fun v168 s169 => c49j83 e w72 v98 v99 v168 v101 s169) s167) s165)) s163) s161) s159

noncomputable def c49k171 (e : Ev) (w72 : AV → AV → AV → AV → St → R AV) (v144 v146 v100 v102 v98 v99 v101 : AV) (s147 : St) : R AV :=
  kIf0 v144 (fun k s => kGtr Try.prog (nat_lit 3) v146 (.int .i64 (.ofNat (nat_lit 1844674407370955161))) k s) (fun v148 s149 => kPick v144 (.bool true) v148 (fun v150 s151 => kIf0 v150 (fun k s => kMv v100 k s) (fun v152 s153 => kIf0 v150 (fun k s => kEql Try.prog (nat_lit 3) v152 (.int .i64 (.ofNat (nat_lit 1844674407370955161))) k s) (fun v154 s155 => kIf0 v150 (fun k s => kMv v154 k s) (fun v156 s157 => kIf1 v156 (fun k s => kMv v102 k s) (fun v158 s159 => c49k170 e w72 v156 v158 v150 v100 v102 v98 v99 v101 s159) s157) s155) s153) s151) s149) s147

noncomputable def c49k172 (e : Ev) (w72 : AV → AV → AV → AV → St → R AV) (v100 v102 v98 v99 v101 : AV) (s120 : St) : R AV :=
  kLss Try.prog (nat_lit 3) v100 (.int .i64 (.negSucc (nat_lit 922337203685477579))) (fun v121 s122 => kIf0 v121 (fun k s => kMv v100 k s) (fun v123 s124 => kIf0 v121 (fun k s => kEql Try.prog (nat_lit 3) v123 (.int .i64 (.negSucc (nat_lit 922337203685477579))) k s) (fun v125 s126 => kIf0 v121 (fun k s => kMv v125 k s) (fun v127 s128 => kIf1 v127 (fun k s => kMv v102 k s) (fun v129 s130 => c49k141 e w72 v127 v129 v121 v100 v102 v98 v99 v101 s130) s128) s126) s124) s122) s120

noncomputable def c49k173 (e : Ev) (w72 : AV → AV → AV → AV → St → R AV) (v103 v100 v102 v98 v99 v101 : AV) (s105 : St) : R AV :=
  kEql Try.prog (nat_lit 3) v103 (.int .i64 (.ofNat (nat_lit 5))) (fun v119 s120 => kIf v119 (c49k172 e w72 v100 v102 v98 v99 v101 s120) (kEql Try.prog (nat_lit 3) v103 (.int .i64 (.ofNat (nat_lit 9))) (fun v142 s143 => kIf v142 (kLss Try.prog (nat_lit 3) v100 (.int .i64 (.ofNat (nat_lit 0))) (fun v144 s145 => kIf0 v144 (fun k s => kMv v100 k s) (fun v146 s147 => c49k171 e w72 v144 v146 v100 v102 v98 v99 v101 s147) s145) s143) (c49j83 e w72 v98 v99 v100 v101 s143)) s120)) s105

noncomputable def c49j97 (e : Ev) (w72 : AV → AV → AV → AV → St → R AV) (v98 v99 v100 v101 v102 v103 v104 : AV) (s105 : St) : R AV :=
  kIf v104 (kMul Try.prog (nat_lit 3) (.int .i64 (.ofNat (nat_lit 10))) v100 (fun v106 s107 => c49k118 e w72 v106 v102 v99 v98 v101 s107) s105) (c49k173 e w72 v103 v100 v102 v98 v99 v101 s105)

noncomputable def c49k188 (e : Ev) (w72 : AV → AV → AV → AV → St → R AV) (v180 v74 v75 v76 v77 v95 : AV) (s181 : St) : R AV :=
  kIf v180 (c49j97 e w72 v74 v75 v76 v77 v95 v75 v180 s181) (kEql Try.prog (nat_lit 3) v75 (.int .i64 (.ofNat (nat_lit 6))) (fun v182 s183 => kIf v182 (c49j97 e w72 v74 v75 v76 v77 v95 v75 v182 s183) (kEql Try.prog (nat_lit 3) v75 (.int .i64 (.ofNat (nat_lit 7))) (fun v184 s185 => kIf v184 (c49j97 e w72 v74 v75 v76 v77 v95 v75 v184 s185) (kEql Try.prog (nat_lit 3) v75 (.int .i64 (.ofNat (nat_lit 8))) (fun v186 s187 => c49j97 e w72 v74 v75 v76 v77 v95 v75 v186 s187) s185)) s183)) s181)

noncomputable def c49k189 (e : Ev) (w72 : AV → AV → AV → AV → St → R AV) (v174 v74 v75 v76 v77 v95 : AV) (s175 : St) : R AV :=
  kIf v174 (c49j97 e w72 v74 v75 v76 v77 v95 v75 v174 s175) (kEql Try.prog (nat_lit 3) v75 (.int .i64 (.ofNat (nat_lit 2))) (fun v176 s177 => kIf v176 (c49j97 e w72 v74 v75 v76 v77 v95 v75 v176 s177) (kEql Try.prog (nat_lit 3) v75 (.int .i64 (.ofNat (nat_lit 3))) (fun v178 s179 => kIf v178 (c49j97 e w72 v74 v75 v76 v77 v95 v75 v178 s179) (kEql Try.prog (nat_lit 3) v75 (.int .i64 (.ofNat (nat_lit 4))) (fun v180 s181 => c49k188 e w72 v180 v74 v75 v76 v77 v95 s181) s179)) s177)) s175)

noncomputable def c49l71b (e : Ev) (w72 : AV → AV → AV → AV → St → R AV) (v74 v75 v76 v77 : AV) (s78 : St) : R AV :=
  kLenS v74 (fun v79 s80 => kLss Try.prog (nat_lit 3) v77 v79 (fun v81 s82 => kIf v81 (kIdxS v74 v77 (fun v91 s92 => kSub Try.prog (nat_lit 5) v91 (.int .u8 (.ofNat (nat_lit 48))) (fun v93 s94 => kO (convertA Try.prog (nat_lit 5) (nat_lit 3) v93) (fun v95 s96 => kEql Try.prog (nat_lit 3) v75 (.int .i64 (.ofNat (nat_lit 0))) (fun v174 s175 => c49k189 e w72 v174 v74 v75 v76 v77 v95 s175) s96) s94) s92) s82) (c49j20 e v75 v76 s82)) s80) s78

noncomputable def c49l71 (e : Ev) (n : Nat) : AV → AV → AV → AV → St → R AV :=
  @Nat.rec (fun _ => AV → AV → AV → AV → St → R AV) (fun _ _ _ _ _ => .fail) (fun _ w => c49l71b e w) n

noncomputable def c49k190 (e : Ev) (v8 v10 v2 a0 a1 : AV) (s11 : St) : R AV :=
  kIf1 v8 (fun k s => kLenS v10 k s) (fun v12 s13 => kIf1 v8 (fun k s => kGtr Try.prog (nat_lit 3) v12 (.int .i64 (.ofNat (nat_lit 9))) k s) (fun v14 s15 => kIf0 v2 (fun k s => kPick v8 v14 (.bool false) k s) (fun v16 s17 => kPick v2 (.bool true) v16 (fun v18 s19 => kIf v18 (.ok (.tuple [(.int .i64 (.ofNat (nat_lit 0))), (.bool false)]) s19) (c49l71 e fuelN a0 a1 (.int .i64 (.ofNat (nat_lit 0))) (.int .i64 (.ofNat (nat_lit 0))) s19)) s17) s15) s13) s11

noncomputable def c49 (e : Ev) (a0 a1 : AV) (s9999 : St) : R AV :=
  kLenS a0 (fun v0 s1 => kGtr Try.prog (nat_lit 3) v0 (.int .i64 (.ofNat (nat_lit 20))) (fun v2 s3 => kIf0 v2 (fun k s => kMv a1 k s) (fun v4 s5 => kIf0 v2 (fun k s => kEql Try.prog (nat_lit 3) v4 (.int .i64 (.ofNat (nat_lit 0))) k s) (fun v6 s7 => kIf0 v2 (fun k s => kMv v6 k s) (fun v8 s9 => kIf1 v8 (fun k s => kMv a0 k s) (fun v10 s11 => c49k190 e v8 v10 v2 a0 a1 s11) s9) s7) s5) s3) s1) s9999

theorem c49_ok (ev : Task → M AV) (a0 a1 : AV) (s : St) : (stepN Try.prog ev (.call 49 [a0, a1])).run s = c49 (runs ev) a0 a1 s :=
  (call_is Try.prog (nt := (nat_lit 126)) Try.func49 rfl (by kernel_rfl) [a0, a1] (by kernel_rfl) (w_seq (w_seq (w_seq (w_seq (w_as (fun f s => c49j20 (runs ev) (f 1) (f 6) s) (w_seq (w_seq (w_seq (w_seq (w_seq (w_as (fun f s => c49j40 (runs ev) (f 1) (f 6) (f 10) s) w_any (fun _ _ => by kernel_rfl)) (w_seq (w_block (w_loop (fun n f s => c49l55 (runs ev) n (f 1) (f 6) (f 9) (f 10) (f 11) s) (fun _ _ => by kernel_rfl) (fun n57 => w_as _ w_any (fun _ _ => by kernel_rfl)))) w_any)) w_any) w_any) w_any) w_any) (fun _ _ => by kernel_rfl)) (w_seq (w_block (w_loop (fun n f s => c49l71 (runs ev) n (f 0) (f 1) (f 6) (f 7) s) (fun _ _ => by kernel_rfl) (fun n73 => w_as _ (w_seq (w_seq (w_as (fun f s => c49j83 (runs ev) (c49l71 (runs ev) n73) (f 0) (f 1) (f 6) (f 7) s) w_any (fun _ _ => by kernel_rfl)) (w_block (w_seq (w_seq (w_block (w_seq (w_as (fun f s => c49j97 (runs ev) (c49l71 (runs ev) n73) (f 0) (f 1) (f 6) (f 7) (f 8) (f 35) (f 36) s) w_any (fun _ _ => by kernel_rfl)) w_any)) w_any) w_any))) w_any) (fun _ _ => by kernel_rfl)))) w_any)) w_any) w_any) w_any) s).trans (by kernel_rfl)

noncomputable def c50j6 (e : Ev) (v7 : AV) (s8 : St) : R AV :=
  kIf v7 (.ok (.int .i64 (.ofNat (nat_lit 1))) s8) (.ok (.int .i64 (.ofNat (nat_lit 0))) s8)

noncomputable def c50k43 (e : Ev) (v33 v4 : AV) (s34 : St) : R AV :=
  kIf v33 (c50j6 e v33 s34) (kEql Try.prog (nat_lit 5) v4 (.int .u8 (.ofNat (nat_lit 47))) (fun v35 s36 => kIf v35 (c50j6 e v35 s36) (kEql Try.prog (nat_lit 5) v4 (.int .u8 (.ofNat (nat_lit 38))) (fun v37 s38 => kIf v37 (c50j6 e v37 s38) (kEql Try.prog (nat_lit 5) v4 (.int .u8 (.ofNat (nat_lit 124))) (fun v39 s40 => kIf v39 (c50j6 e v39 s40) (kEql Try.prog (nat_lit 5) v4 (.int .u8 (.ofNat (nat_lit 94))) (fun v41 s42 => c50j6 e v41 s42) s40)) s38)) s36)) s34)

noncomputable def c50k44 (e : Ev) (v25 v4 : AV) (s26 : St) : R AV :=
  kIf v25 (c50j6 e v25 s26) (kEql Try.prog (nat_lit 5) v4 (.int .u8 (.ofNat (nat_lit 62))) (fun v27 s28 => kIf v27 (c50j6 e v27 s28) (kEql Try.prog (nat_lit 5) v4 (.int .u8 (.ofNat (nat_lit 43))) (fun v29 s30 => kIf v29 (c50j6 e v29 s30) (kEql Try.prog (nat_lit 5) v4 (.int .u8 (.ofNat (nat_lit 45))) (fun v31 s32 => kIf v31 (c50j6 e v31 s32) (kEql Try.prog (nat_lit 5) v4 (.int .u8 (.ofNat (nat_lit 42))) (fun v33 s34 => c50k43 e v33 v4 s34) s32)) s30)) s28)) s26)

noncomputable def c50k45 (e : Ev) (v17 v4 : AV) (s18 : St) : R AV :=
  kIf v17 (c50j6 e v17 s18) (kEql Try.prog (nat_lit 5) v4 (.int .u8 (.ofNat (nat_lit 59))) (fun v19 s20 => kIf v19 (c50j6 e v19 s20) (kEql Try.prog (nat_lit 5) v4 (.int .u8 (.ofNat (nat_lit 58))) (fun v21 s22 => kIf v21 (c50j6 e v21 s22) (kEql Try.prog (nat_lit 5) v4 (.int .u8 (.ofNat (nat_lit 61))) (fun v23 s24 => kIf v23 (c50j6 e v23 s24) (kEql Try.prog (nat_lit 5) v4 (.int .u8 (.ofNat (nat_lit 60))) (fun v25 s26 => c50k44 e v25 v4 s26) s24)) s22)) s20)) s18)

noncomputable def c50k46 (e : Ev) (v9 v4 : AV) (s10 : St) : R AV :=
  kIf v9 (c50j6 e v9 s10) (kEql Try.prog (nat_lit 5) v4 (.int .u8 (.ofNat (nat_lit 41))) (fun v11 s12 => kIf v11 (c50j6 e v11 s12) (kEql Try.prog (nat_lit 5) v4 (.int .u8 (.ofNat (nat_lit 91))) (fun v13 s14 => kIf v13 (c50j6 e v13 s14) (kEql Try.prog (nat_lit 5) v4 (.int .u8 (.ofNat (nat_lit 93))) (fun v15 s16 => kIf v15 (c50j6 e v15 s16) (kEql Try.prog (nat_lit 5) v4 (.int .u8 (.ofNat (nat_lit 44))) (fun v17 s18 => c50k45 e v17 v4 s18) s16)) s14)) s12)) s10)

noncomputable def c50j0 (e : Ev) (v1 v2 : AV) (s3 : St) : R AV :=
  kIdxS v1 v2 (fun v4 s5 => kEql Try.prog (nat_lit 5) v4 (.int .u8 (.ofNat (nat_lit 40))) (fun v9 s10 => c50k46 e v9 v4 s10) s5) s3

noncomputable def c50j57 (e : Ev) (v58 v59 v60 : AV) (s61 : St) : R AV :=
  kIf v60 (.ok (.int .i64 (.ofNat (nat_lit 2))) s61) (c50j0 e v58 v59 s61)

noncomputable def c50k76 (e : Ev) (v55 a0 a1 : AV) (s67 : St) : R AV :=
  kEql Try.prog (nat_lit 9) v55 (.str (nat_lit 2) (nat_lit 15676)) (fun v68 s69 => kIf v68 (c50j57 e a0 a1 v68 s69) (kEql Try.prog (nat_lit 9) v55 (.str (nat_lit 2) (nat_lit 15678)) (fun v70 s71 => kIf v70 (c50j57 e a0 a1 v70 s71) (kEql Try.prog (nat_lit 9) v55 (.str (nat_lit 2) (nat_lit 15420)) (fun v72 s73 => kIf v72 (c50j57 e a0 a1 v72 s73) (kEql Try.prog (nat_lit 9) v55 (.str (nat_lit 2) (nat_lit 15934)) (fun v74 s75 => c50j57 e a0 a1 v74 s75) s73)) s71)) s69)) s67

noncomputable def c50k77 (e : Ev) (a1 a0 : AV) (s52 : St) : R AV :=
  kAdd Try.prog (nat_lit 3) a1 (.int .i64 (.ofNat (nat_lit 2))) (fun v53 s54 => kSliceS a0 (some a1) (some v53) (fun v55 s56 => kEql Try.prog (nat_lit 9) v55 (.str (nat_lit 2) (nat_lit 15917)) (fun v62 s63 => kIf v62 (c50j57 e a0 a1 v62 s63) (kEql Try.prog (nat_lit 9) v55 (.str (nat_lit 2) (nat_lit 15933)) (fun v64 s65 => kIf v64 (c50j57 e a0 a1 v64 s65) (kEql Try.prog (nat_lit 9) v55 (.str (nat_lit 2) (nat_lit 15932)) (fun v66 s67 => kIf v66 (c50j57 e a0 a1 v66 s67) (c50k76 e v55 a0 a1 s67)) s65)) s63)) s56) s54) s52

noncomputable def c50 (e : Ev) (a0 a1 : AV) (s9999 : St) : R AV :=
  kAdd Try.prog (nat_lit 3) a1 (.int .i64 (.ofNat (nat_lit 2))) (fun v47 s48 => kLenS a0 (fun v49 s50 => kLeq Try.prog (nat_lit 3) v47 v49 (fun v51 s52 => kIf v51 (c50k77 e a1 a0 s52) (c50j0 e a0 a1 s52)) s50) s48) s9999

theorem c50_ok (ev : Task → M AV) (a0 a1 : AV) (s : St) : (stepN Try.prog ev (.call 50 [a0, a1])).run s = c50 (runs ev) a0 a1 s :=
  (call_is Try.prog (nt := (nat_lit 44)) Try.func50 rfl (by kernel_rfl) [a0, a1] (by kernel_rfl) (w_seq (w_seq (w_as (fun f s => c50j0 (runs ev) (f 0) (f 1) s) (w_seq w_any (w_seq (w_block (w_seq (w_as (fun f s => c50j6 (runs ev) (f 26) s) w_any (fun _ _ => by kernel_rfl)) w_any)) w_any)) (fun _ _ => by kernel_rfl)) (w_seq (w_cond (w_seq (w_block (w_seq (w_as (fun f s => c50j57 (runs ev) (f 0) (f 1) (f 15) s) w_any (fun _ _ => by kernel_rfl)) w_any)) w_any) w_any) w_any)) w_any) s).trans (by kernel_rfl)

noncomputable def c51k20 (e : Ev) (v0 a0 : AV) (s1 : St) : R AV :=
  kNot v0 (fun v2 s3 => kIf v2 (kBind (e (.call (nat_lit 39) [a0, (.int .i64 (.ofNat (nat_lit 12)))])) (fun v4 s5 => .ok (.tuple []) s5) s3) (kNilCheck a0 (fun v6 s7 => kFA (nat_lit 1) v6 (fun v8 s9 => kLoad1 v8 (fun v10 s11 => kAdd Try.prog (nat_lit 3) v10 (.int .i64 (.ofNat (nat_lit 1))) (fun v12 s13 => kNilCheck a0 (fun v14 s15 => kFA (nat_lit 1) v14 (fun v16 s17 => kStore (nat_lit 1) v16 v12 (fun v18 s19 => .ok (.tuple []) s19) s17) s15) s13) s11) s9) s7) s3)) s1

noncomputable def c51 (e : Ev) (a0 a1 : AV) (s9999 : St) : R AV :=
  kBind (e (.call (nat_lit 38) [a0, a1])) (fun v0 s1 => c51k20 e v0 a0 s1) s9999

theorem c51_ok (ev : Task → M AV) (a0 a1 : AV) (s : St) : (stepN Try.prog ev (.call 51 [a0, a1])).run s = c51 (runs ev) a0 a1 s :=
  (call_is Try.prog (nt := (nat_lit 19)) Try.func51 rfl (by kernel_rfl) [a0, a1] (by kernel_rfl) w_any s).trans (by kernel_rfl)

noncomputable def c52k42 (e : Ev) (v20 a0 v2 : AV) (s21 : St) : R AV :=
  kIf v20 (kBind (e (.call (nat_lit 39) [a0, (.int .i64 (.ofNat (nat_lit 12)))])) (fun v22 s23 => .ok (.str (nat_lit 0) (nat_lit 0)) s23) s21) (kNilCheck a0 (fun v24 s25 => kFA (nat_lit 1) v24 (fun v26 s27 => kLoad1 v26 (fun v28 s29 => kAdd Try.prog (nat_lit 3) v28 (.int .i64 (.ofNat (nat_lit 1))) (fun v30 s31 => kNilCheck a0 (fun v32 s33 => kFA (nat_lit 1) v32 (fun v34 s35 => kStore (nat_lit 1) v34 v30 (fun v36 s37 => kFA (nat_lit 1) v2 (fun v38 s39 => kLoad1 v38 (fun v40 s41 => .ok v40 s41) s39) s37) s35) s33) s31) s29) s27) s25) s21)

noncomputable def c52k43 (e : Ev) (v6 v2 a0 : AV) (s7 : St) : R AV :=
  kFA (nat_lit 2) v6 (fun v8 s9 => kLoad1 v8 (fun v10 s11 => kNeq Try.prog (nat_lit 3) v10 (.int .i64 (.ofNat (nat_lit 0))) (fun v12 s13 => kIf0 v12 (fun k s => kFA (nat_lit 0) v2 k s) (fun v14 s15 => kIf0 v12 (fun k s => kLoad1 v14 k s) (fun v16 s17 => kIf0 v12 (fun k s => kNeq Try.prog (nat_lit 3) v16 (.int .i64 (.ofNat (nat_lit 1))) k s) (fun v18 s19 => kPick v12 (.bool true) v18 (fun v20 s21 => c52k42 e v20 a0 v2 s21) s19) s17) s15) s13) s11) s9) s7

noncomputable def c52 (e : Ev) (a0 : AV) (s9999 : St) : R AV :=
  kBind (e (.call (nat_lit 37) [a0])) (fun v0 s1 => kAlloc [(.int .i64 (.ofNat (nat_lit 0))), (.str (nat_lit 0) (nat_lit 0)), (.int .i64 (.ofNat (nat_lit 0))), (.int .i64 (.ofNat (nat_lit 0))), (.int .i64 (.ofNat (nat_lit 0))), (.int .i64 (.ofNat (nat_lit 0)))] (fun v2 s3 => kStore (nat_lit 6) v2 v0 (fun v4 s5 => kNilCheck a0 (fun v6 s7 => c52k43 e v6 v2 a0 s7) s5) s3) s1) s9999

theorem c52_ok (ev : Task → M AV) (a0 : AV) (s : St) : (stepN Try.prog ev (.call 52 [a0])).run s = c52 (runs ev) a0 s :=
  (call_is Try.prog (nt := (nat_lit 27)) Try.func52 rfl (by kernel_rfl) [a0] (by kernel_rfl) w_any s).trans (by kernel_rfl)

noncomputable def c53j2 (e : Ev) (v3 : AV) (s4 : St) : R AV :=
  .ok v3 s4

noncomputable def c53l5b (e : Ev) (w6 : AV → AV → St → R AV) (v8 v9 : AV) (s10 : St) : R AV :=
  kNilCheck v8 (fun v11 s12 => kFA (nat_lit 2) v11 (fun v13 s14 => kLoad1 v13 (fun v15 s16 => kEql Try.prog (nat_lit 3) v15 (.int .i64 (.ofNat (nat_lit 0))) (fun v17 s18 => kIf v17 (kBind (e (.call (nat_lit 54) [v8, (.str (nat_lit 1) (nat_lit 59))])) (fun v19 s20 => kNot v19 (fun v21 s22 => kIf v21 (c53j2 e v9 s22) (kBind (e (.call (nat_lit 65) [v8, v9])) (fun v23 s24 => w6 v8 v23 s24) s22)) s20) s18) (c53j2 e v9 s18)) s16) s14) s12) s10

noncomputable def c53l5 (e : Ev) (n : Nat) : AV → AV → St → R AV :=
  @Nat.rec (fun _ => AV → AV → St → R AV) (fun _ _ _ => .fail) (fun _ w => c53l5b e w) n

noncomputable def c53 (e : Ev) (a0 : AV) (s9999 : St) : R AV :=
  kBind (e (.call (nat_lit 65) [a0, .nilslice])) (fun v0 s1 => c53l5 e fuelN a0 v0 s1) s9999

theorem c53_ok (ev : Task → M AV) (a0 : AV) (s : St) : (stepN Try.prog ev (.call 53 [a0])).run s = c53 (runs ev) a0 s :=
  (call_is Try.prog (nt := (nat_lit 20)) Try.func53 rfl (by kernel_rfl) [a0] (by kernel_rfl) (w_seq (w_seq (w_seq (w_as (fun f s => c53j2 (runs ev) (f 3) s) w_any (fun _ _ => by kernel_rfl)) (w_block (w_loop (fun n f s => c53l5 (runs ev) n (f 0) (f 3) s) (fun _ _ => by kernel_rfl) (fun n7 => w_as _ w_any (fun _ _ => by kernel_rfl))))) w_any) w_any) s).trans (by kernel_rfl)

noncomputable def c54j2 (e : Ev) (v3 : AV) (s4 : St) : R AV :=
  .ok v3 s4

noncomputable def c54 (e : Ev) (a0 a1 : AV) (s9999 : St) : R AV :=
  kBind (e (.call (nat_lit 38) [a0, a1])) (fun v0 s1 => kIf v0 (kNilCheck a0 (fun v5 s6 => kFA (nat_lit 1) v5 (fun v7 s8 => kLoad1 v7 (fun v9 s10 => kAdd Try.prog (nat_lit 3) v9 (.int .i64 (.ofNat (nat_lit 1))) (fun v11 s12 => kNilCheck a0 (fun v13 s14 => kFA (nat_lit 1) v13 (fun v15 s16 => kStore (nat_lit 1) v15 v11 (fun v17 s18 => c54j2 e v0 s18) s16) s14) s12) s10) s8) s6) s1) (c54j2 e v0 s1)) s9999

theorem c54_ok (ev : Task → M AV) (a0 a1 : AV) (s : St) : (stepN Try.prog ev (.call 54 [a0, a1])).run s = c54 (runs ev) a0 a1 s :=
  (call_is Try.prog (nt := (nat_lit 18)) Try.func54 rfl (by kernel_rfl) [a0, a1] (by kernel_rfl) (w_seq (w_seq (w_seq (w_as (fun f s => c54j2 (runs ev) (f 5) s) w_any (fun _ _ => by kernel_rfl)) w_any) w_any) w_any) s).trans (by kernel_rfl)

noncomputable def c55j0 (e : Ev) (v1 : AV) (s2 : St) : R AV :=
  .ok v1 s2

noncomputable def c55k47 (e : Ev) (w4 : AV → AV → St → R AV) (v33 v24 v25 : AV) (s34 : St) : R AV :=
  kNeq Try.prog (nat_lit 3) v33 (.int .i64 (.ofNat (nat_lit 0))) (fun v35 s36 => kIf0 v35 (fun k s => kMv v24 k s) (fun v37 s38 => kIf0 v35 (fun k s => kBind (e (.call (nat_lit 37) [v37])) k s) (fun v39 s40 => kIf0 v35 (fun k s => kPart1 (nat_lit 0) v39 k s) (fun v41 s42 => kIf0 v35 (fun k s => kNeq Try.prog (nat_lit 3) v41 (.int .i64 (.ofNat (nat_lit 1))) k s) (fun v43 s44 => kPick v35 (.bool true) v43 (fun v45 s46 => kIf v45 (c55j0 e v25 s46) (w4 v24 v25 s46)) s44) s42) s40) s38) s36) s34

noncomputable def c55j23 (e : Ev) (w4 : AV → AV → St → R AV) (v24 v25 : AV) (s26 : St) : R AV :=
  kBind (e (.call (nat_lit 51) [v24, (.str (nat_lit 1) (nat_lit 59))])) (fun v27 s28 => kNilCheck v24 (fun v29 s30 => kFA (nat_lit 2) v29 (fun v31 s32 => kLoad1 v31 (fun v33 s34 => c55k47 e w4 v33 v24 v25 s34) s32) s30) s28) s26

noncomputable def c55l50b (e : Ev) (w4 : AV → AV → St → R AV) (w51 : AV → AV → AV → AV → St → R AV) (v53 v54 v55 v56 : AV) (s57 : St) : R AV :=
  kLenL v54 (fun v58 s59 => kLss Try.prog (nat_lit 3) v56 v58 (fun v60 s61 => kIf v60 (kApp (nat_lit 2) (nat_lit 24) .nilslice v55 (fun v62 s63 => kIA (nat_lit 5) v54 v56 (fun v64 s65 => kFA (nat_lit 3) v64 (fun v66 s67 => kStore (nat_lit 1) v66 v62 (fun v68 s69 => kAdd Try.prog (nat_lit 3) v56 (.int .i64 (.ofNat (nat_lit 1))) (fun v70 s71 => w51 v53 v54 v55 v70 s71) s69) s67) s65) s63) s61) (c55j23 e w4 v53 v54 s61)) s59) s57

noncomputable def c55l50 (e : Ev) (w4 : AV → AV → St → R AV) (n : Nat) : AV → AV → AV → AV → St → R AV :=
  @Nat.rec (fun _ => AV → AV → AV → AV → St → R AV) (fun _ _ _ _ _ => .fail) (fun _ w => c55l50b e w4 w) n

noncomputable def c55k72 (e : Ev) (w4 : AV → AV → St → R AV) (v11 v7 v6 : AV) (s12 : St) : R AV :=
  kLoad1 v11 (fun v13 s14 => kEql Try.prog (nat_lit 3) v13 (.int .i64 (.ofNat (nat_lit 0))) (fun v15 s16 => kIf v15 (kLenL v7 (fun v17 s18 => kBind (e (.call (nat_lit 65) [v6, v7])) (fun v19 s20 => kBind (e (.call (nat_lit 54) [v6, (.str (nat_lit 4) (nat_lit 1852139639))])) (fun v21 s22 => kIf v21 (kBind (e (.call (nat_lit 66) [v6])) (fun v48 s49 => c55l50 e w4 fuelN v6 v19 v48 v17 s49) s22) (c55j23 e w4 v6 v19 s22)) s20) s18) s16) (c55j0 e v7 s16)) s14) s12

noncomputable def c55l3b (e : Ev) (w4 : AV → AV → St → R AV) (v6 v7 : AV) (s8 : St) : R AV :=
  kNilCheck v6 (fun v9 s10 => kFA (nat_lit 2) v9 (fun v11 s12 => c55k72 e w4 v11 v7 v6 s12) s10) s8

noncomputable def c55l3 (e : Ev) (n : Nat) : AV → AV → St → R AV :=
  @Nat.rec (fun _ => AV → AV → St → R AV) (fun _ _ _ => .fail) (fun _ w => c55l3b e w) n

noncomputable def c55 (e : Ev) (a0 : AV) (s9999 : St) : R AV :=
  c55l3 e fuelN a0 .nilslice s9999

theorem c55_ok (ev : Task → M AV) (a0 : AV) (s : St) : (stepN Try.prog ev (.call 55 [a0])).run s = c55 (runs ev) a0 s :=
  (call_is Try.prog (nt := (nat_lit 50)) Try.func55 rfl (by kernel_rfl) [a0] (by kernel_rfl) (w_seq (w_seq (w_seq (w_as (fun f s => c55j0 (runs ev) (f 3) s) w_any (fun _ _ => by kernel_rfl)) (w_block (w_loop (fun n f s => c55l3 (runs ev) n (f 0) (f 3) s) (fun _ _ => by kernel_rfl) (fun n5 => w_as _ (w_seq (w_block (w_seq (w_seq (w_seq (w_seq (w_as (fun f s => c55j23 (runs ev) (c55l3 (runs ev) n5) (f 0) (f 3) s) w_any (fun _ _ => by kernel_rfl)) (w_seq (w_cond (w_seq (w_seq (w_block (w_loop (fun n f s => c55l50 (runs ev) (c55l3 (runs ev) n5) n (f 0) (f 3) (f 6) (f 7) s) (fun _ _ => by kernel_rfl) (fun n52 => w_as _ w_any (fun _ _ => by kernel_rfl)))) w_any) w_any) w_any) w_any)) w_any) w_any) w_any)) w_any) (fun _ _ => by kernel_rfl))))) w_any) w_any) s).trans (by kernel_rfl)

noncomputable def c56j18 (e : Ev) (w1 : AV → AV → St → R AV) (v19 : AV) (s20 : St) : R AV :=
  .ok v19 s20

noncomputable def c56k37 (e : Ev) (w1 : AV → AV → St → R AV) (v31 v4 v3 : AV) (s32 : St) : R AV :=
  kBuildSl [.nilslice, (.int .i64 (.ofNat (nat_lit 0))), (.int .i64 (.ofNat (nat_lit 0))), (.str (nat_lit 0) (nat_lit 0)), (.int .i64 (.ofNat (nat_lit 0))), (.int .i64 (.ofNat (nat_lit 0))), (.int .i64 (.ofNat (nat_lit 0))), (.int .i64 (.ofNat (nat_lit 0))), .nilslice, (.int .i64 (.ofNat (nat_lit 0))), .nilslice, (.int .i64 (.ofNat (nat_lit 0)))] (nat_lit 1) [(some ((nat_lit 0), (nat_lit 12)), v31)] (fun v33 s34 => kApp (nat_lit 12) (nat_lit 152) v4 v33 (fun v35 s36 => w1 v3 v35 s36) s34) s32

noncomputable def c56k38 (e : Ev) (w1 : AV → AV → St → R AV) (v16 v4 v3 : AV) (s17 : St) : R AV :=
  kIf v16 (kLenL v4 (fun v21 s22 => kEql Try.prog (nat_lit 3) v21 (.int .i64 (.ofNat (nat_lit 0))) (fun v23 s24 => kIf v23 (kBind (e (.call (nat_lit 39) [v3, (.int .i64 (.ofNat (nat_lit 12)))])) (fun v25 s26 => c56j18 e w1 v4 s26) s24) (c56j18 e w1 v4 s24)) s22) s17) (kLenL v4 (fun v27 s28 => kBind (e (.call (nat_lit 40) [v3, v27, (.int .i64 (.ofNat (nat_lit 200)))])) (fun v29 s30 => kIf v29 (.ok v4 s30) (kBind (e (.call (nat_lit 68) [v3])) (fun v31 s32 => c56k37 e w1 v31 v4 v3 s32) s30)) s28) s17)

noncomputable def c56l0b (e : Ev) (w1 : AV → AV → St → R AV) (v3 v4 : AV) (s5 : St) : R AV :=
  kNilCheck v3 (fun v6 s7 => kFA (nat_lit 2) v6 (fun v8 s9 => kLoad1 v8 (fun v10 s11 => kNeq Try.prog (nat_lit 3) v10 (.int .i64 (.ofNat (nat_lit 0))) (fun v12 s13 => kIf v12 (.ok v4 s13) (kBind (e (.call (nat_lit 67) [v3])) (fun v14 s15 => kNot v14 (fun v16 s17 => c56k38 e w1 v16 v4 v3 s17) s15) s13)) s11) s9) s7) s5

noncomputable def c56l0 (e : Ev) (n : Nat) : AV → AV → St → R AV :=
  @Nat.rec (fun _ => AV → AV → St → R AV) (fun _ _ _ => .fail) (fun _ w => c56l0b e w) n

noncomputable def c56 (e : Ev) (a0 : AV) (s9999 : St) : R AV :=
  c56l0 e fuelN a0 .nilslice s9999

theorem c56_ok (ev : Task → M AV) (a0 : AV) (s : St) : (stepN Try.prog ev (.call 56 [a0])).run s = c56 (runs ev) a0 s :=
  (call_is Try.prog (nt := (nat_lit 33)) Try.func56 rfl (by kernel_rfl) [a0] (by kernel_rfl) (w_seq (w_seq (w_block (w_loop (fun n f s => c56l0 (runs ev) n (f 0) (f 3) s) (fun _ _ => by kernel_rfl) (fun n2 => w_as _ (w_block (w_seq (w_seq (w_seq w_any (w_seq (w_cond (w_seq (w_as (fun f s => c56j18 (runs ev) (c56l0 (runs ev) n2) (f 3) s) w_any (fun _ _ => by kernel_rfl)) w_any) w_any) w_any)) w_any) w_any)) (fun _ _ => by kernel_rfl)))) w_any) w_any) s).trans (by kernel_rfl)

noncomputable def c58j28 (e : Ev) (v29 v30 v31 : AV) (s32 : St) : R AV :=
  kLoad1 v29 (fun v33 s34 => kLoad1 v30 (fun v35 s36 => kNilCheck v33 (fun v37 s38 => kFA (nat_lit 1) v37 (fun v39 s40 => kStore (nat_lit 1) v39 v35 (fun v41 s42 => kLoad1 v31 (fun v43 s44 => .ok (.tuple [v43, (.bool true)]) s44) s42) s40) s38) s36) s34) s32

noncomputable def c58l47b (e : Ev) (w48 : AV → AV → AV → AV → AV → AV → St → R AV) (v50 v51 v52 v53 v54 v55 : AV) (s56 : St) : R AV :=
  kLss Try.prog (nat_lit 3) v55 v54 (fun v57 s58 => kIf v57 (kIA (nat_lit 1) v53 v55 (fun v59 s60 => kLoad1 v59 (fun v61 s62 => kBind (callValR Try.prog e v61 []) (fun v63 s64 => kNot v63 (fun v65 s66 => kIf v65 (.ok (.tuple [.nilmap, (.bool false)]) s66) (kAdd Try.prog (nat_lit 3) v55 (.int .i64 (.ofNat (nat_lit 1))) (fun v67 s68 => w48 v50 v51 v52 v53 v54 v67 s68) s66)) s64) s62) s60) s58) (c58j28 e v50 v51 v52 s58)) s56

noncomputable def c58l47 (e : Ev) (n : Nat) : AV → AV → AV → AV → AV → AV → St → R AV :=
  @Nat.rec (fun _ => AV → AV → AV → AV → AV → AV → St → R AV) (fun _ _ _ _ _ _ _ => .fail) (fun _ w => c58l47b e w) n

noncomputable def c58k69 (e : Ev) (v0 v2 v16 v4 v22 : AV) (s25 : St) : R AV :=
  kBuildSl [.nilfunc, .nilfunc, .nilfunc, .nilfunc, .nilfunc] (nat_lit 5) [(some ((nat_lit 0), (nat_lit 1)), (.func (.func (nat_lit 69)) [] [v0, v2])), (some ((nat_lit 1), (nat_lit 1)), (.func (.func (nat_lit 70)) [] [v0, v16, v2, v4])), (some ((nat_lit 2), (nat_lit 1)), (.func (.func (nat_lit 72)) [] [v0, v2, v22])), (some ((nat_lit 3), (nat_lit 1)), (.func (.func (nat_lit 73)) [] [v2, v22, v0])), (some ((nat_lit 4), (nat_lit 1)), (.func (.func (nat_lit 74)) [] [v0, v2, v4]))] (fun v26 s27 => kLenL v26 (fun v45 s46 => c58l47 e fuelN v0 v16 v22 v26 v45 (.int .i64 (.ofNat (nat_lit 0))) s46) s27) s25

noncomputable def c58k70 (e : Ev) (a1 a2 v0 : AV) (s1 : St) : R AV :=
  kBox a1 (fun v2 s3 => kBox a2 (fun v4 s5 => kLoad1 v0 (fun v6 s7 => kNilCheck v6 (fun v8 s9 => kFA (nat_lit 1) v8 (fun v10 s11 => kLoad1 v10 (fun v12 s13 => kBind (e (.call (nat_lit 44) [v12])) (fun v14 s15 => kAlloc [.nilmap] (fun v16 s17 => kStore (nat_lit 1) v16 v14 (fun v18 s19 => kNewMap (fun v20 s21 => kAlloc [.nilmap] (fun v22 s23 => kStore (nat_lit 1) v22 v20 (fun v24 s25 => c58k69 e v0 v2 v16 v4 v22 s25) s23) s21) s19) s17) s15) s13) s11) s9) s7) s5) s3) s1

noncomputable def c58 (e : Ev) (a0 a1 a2 : AV) (s9999 : St) : R AV :=
  kBox a0 (fun v0 s1 => c58k70 e a1 a2 v0 s1) s9999

theorem c58_ok (ev : Task → M AV) (a0 a1 a2 : AV) (s : St) : (stepN Try.prog ev (.call 58 [a0, a1, a2])).run s = c58 (runs ev) a0 a1 a2 s :=
  (call_is Try.prog (nt := (nat_lit 40)) Try.func58 rfl (by kernel_rfl) [a0, a1, a2] (by kernel_rfl) (w_seq (w_seq (w_seq (w_seq (w_seq (w_as (fun f s => c58j28 (runs ev) (f 3) (f 8) (f 9) s) w_any (fun _ _ => by kernel_rfl)) (w_seq (w_block (w_loop (fun n f s => c58l47 (runs ev) n (f 3) (f 8) (f 9) (f 25) (f 26) (f 27) s) (fun _ _ => by kernel_rfl) (fun n49 => w_as _ w_any (fun _ _ => by kernel_rfl)))) w_any)) w_any) w_any) w_any) w_any) s).trans (by kernel_rfl)

noncomputable def c59j6 (e : Ev) (s7 : St) : R AV :=
  .ok (.bool true) s7

noncomputable def c59k42 (e : Ev) (w11 : AV → AV → St → R AV) (v13 v22 v24 v14 : AV) (s25 : St) : R AV :=
  kLookS (.int .i64 (.ofNat (nat_lit 0))) true v13 v22 (fun v26 s27 => kExt (nat_lit 0) v26 (fun v28 s29 => kExt (nat_lit 1) v26 (fun v30 s31 => kNot v30 (fun v32 s33 => kIf0 v32 (fun k s => kMv v24 k s) (fun v34 s35 => kIf0 v32 (fun k s => kMv v28 k s) (fun v36 s37 => kIf0 v32 (fun k s => kNeq Try.prog (nat_lit 3) v34 v36 k s) (fun v38 s39 => kPick v32 (.bool true) v38 (fun v40 s41 => kIf v40 (.ok (.bool false) s41) (w11 v13 v14 s41)) s39) s37) s35) s33) s31) s29) s27) s25

noncomputable def c59l10b (e : Ev) (w11 : AV → AV → St → R AV) (v13 v14 : AV) (s15 : St) : R AV :=
  kM (nextA v14 false) (fun v16 s17 => kExt (nat_lit 0) v16 (fun v18 s19 => kIf v18 (kM (entryA v14) (fun v20 s21 => kExt (nat_lit 0) v20 (fun v22 s23 => kExt (nat_lit 1) v20 (fun v24 s25 => c59k42 e w11 v13 v22 v24 v14 s25) s23) s21) s19) (c59j6 e s19)) s17) s15

noncomputable def c59l10 (e : Ev) (n : Nat) : AV → AV → St → R AV :=
  @Nat.rec (fun _ => AV → AV → St → R AV) (fun _ _ _ => .fail) (fun _ w => c59l10b e w) n

noncomputable def c59 (e : Ev) (a0 a1 : AV) (s9999 : St) : R AV :=
  kLenM a0 (fun v0 s1 => kLenM a1 (fun v2 s3 => kNeq Try.prog (nat_lit 3) v0 v2 (fun v4 s5 => kIf v4 (.ok (.bool false) s5) (kM (rangeA Try.prog (nat_lit 57) a0) (fun v8 s9 => c59l10 e fuelN a1 v8 s9) s5)) s3) s1) s9999

theorem c59_ok (ev : Task → M AV) (a0 a1 : AV) (s : St) : (stepN Try.prog ev (.call 59 [a0, a1])).run s = c59 (runs ev) a0 a1 s :=
  (call_is Try.prog (nt := (nat_lit 34)) Try.func59 rfl (by kernel_rfl) [a0, a1] (by kernel_rfl) (w_seq (w_seq (w_seq (w_as (fun f s => c59j6 (runs ev) s) w_any (fun _ _ => by kernel_rfl)) (w_seq (w_block (w_loop (fun n f s => c59l10 (runs ev) n (f 1) (f 15) s) (fun _ _ => by kernel_rfl) (fun n12 => w_as _ w_any (fun _ _ => by kernel_rfl)))) w_any)) w_any) w_any) s).trans (by kernel_rfl)

noncomputable def c60l2b (e : Ev) (w3 : AV → AV → St → R AV) (v5 v6 : AV) (s7 : St) : R AV :=
  kM (nextA v6 false) (fun v8 s9 => kExt (nat_lit 0) v8 (fun v10 s11 => kIf v10 (kM (entryA v6) (fun v12 s13 => kExt (nat_lit 0) v12 (fun v14 s15 => kExt (nat_lit 1) v12 (fun v16 s17 => kPutS v5 v14 v16 (fun v18 s19 => w3 v5 v6 s19) s17) s15) s13) s11) (.ok (.tuple []) s11)) s9) s7

noncomputable def c60l2 (e : Ev) (n : Nat) : AV → AV → St → R AV :=
  @Nat.rec (fun _ => AV → AV → St → R AV) (fun _ _ _ => .fail) (fun _ w => c60l2b e w) n

noncomputable def c60 (e : Ev) (a0 a1 : AV) (s9999 : St) : R AV :=
  kM (rangeA Try.prog (nat_lit 57) a1) (fun v0 s1 => c60l2 e fuelN a0 v0 s1) s9999

theorem c60_ok (ev : Task → M AV) (a0 a1 : AV) (s : St) : (stepN Try.prog ev (.call 60 [a0, a1])).run s = c60 (runs ev) a0 a1 s :=
  (call_is Try.prog (nt := (nat_lit 16)) Try.func60 rfl (by kernel_rfl) [a0, a1] (by kernel_rfl) (w_seq (w_block (w_loop (fun n f s => c60l2 (runs ev) n (f 0) (f 7) s) (fun _ _ => by kernel_rfl) (fun n4 => w_as _ w_any (fun _ _ => by kernel_rfl)))) w_any) s).trans (by kernel_rfl)

noncomputable def c62j14 (e : Ev) (v15 : AV) (s16 : St) : R AV :=
  kIf v15 (.ok (.int .i64 (.ofNat (nat_lit 64))) s16) (.ok (.int .i64 (.ofNat (nat_lit 0))) s16)

noncomputable def c62j10 (e : Ev) (v11 v12 : AV) (s13 : St) : R AV :=
  kIf v12 (.ok (.int .i64 (.ofNat (nat_lit 32))) s13) (kEql Try.prog (nat_lit 3) v11 (.int .i64 (.ofNat (nat_lit 5))) (fun v17 s18 => kIf v17 (c62j14 e v17 s18) (kEql Try.prog (nat_lit 3) v11 (.int .i64 (.ofNat (nat_lit 9))) (fun v19 s20 => c62j14 e v19 s20) s18)) s13)

noncomputable def c62j6 (e : Ev) (v7 v8 : AV) (s9 : St) : R AV :=
  kIf v8 (.ok (.int .i64 (.ofNat (nat_lit 16))) s9) (kEql Try.prog (nat_lit 3) v7 (.int .i64 (.ofNat (nat_lit 4))) (fun v21 s22 => kIf v21 (c62j10 e v7 v21 s22) (kEql Try.prog (nat_lit 3) v7 (.int .i64 (.ofNat (nat_lit 8))) (fun v23 s24 => c62j10 e v7 v23 s24) s22)) s9)

noncomputable def c62j2 (e : Ev) (v3 v4 : AV) (s5 : St) : R AV :=
  kIf v4 (.ok (.int .i64 (.ofNat (nat_lit 8))) s5) (kEql Try.prog (nat_lit 3) v3 (.int .i64 (.ofNat (nat_lit 3))) (fun v25 s26 => kIf v25 (c62j6 e v3 v25 s26) (kEql Try.prog (nat_lit 3) v3 (.int .i64 (.ofNat (nat_lit 7))) (fun v27 s28 => c62j6 e v3 v27 s28) s26)) s5)

noncomputable def c62 (e : Ev) (a0 : AV) (s9999 : St) : R AV :=
  kEql Try.prog (nat_lit 3) a0 (.int .i64 (.ofNat (nat_lit 1))) (fun v0 s1 => kIf v0 (.ok (.int .i64 (.ofNat (nat_lit 1))) s1) (kEql Try.prog (nat_lit 3) a0 (.int .i64 (.ofNat (nat_lit 2))) (fun v29 s30 => kIf v29 (c62j2 e a0 v29 s30) (kEql Try.prog (nat_lit 3) a0 (.int .i64 (.ofNat (nat_lit 6))) (fun v31 s32 => c62j2 e a0 v31 s32) s30)) s1)) s9999

theorem c62_ok (ev : Task → M AV) (a0 : AV) (s : St) : (stepN Try.prog ev (.call 62 [a0])).run s = c62 (runs ev) a0 s :=
  (call_is Try.prog (nt := (nat_lit 18)) Try.func62 rfl (by kernel_rfl) [a0] (by kernel_rfl) (w_seq (w_seq w_any (w_seq (w_block (w_seq (w_cond w_any (w_seq (w_as (fun f s => c62j2 (runs ev) (f 3) (f 6) s) (w_cond w_any (w_seq (w_as (fun f s => c62j6 (runs ev) (f 3) (f 9) s) (w_cond w_any (w_seq (w_as (fun f s => c62j10 (runs ev) (f 3) (f 12) s) (w_cond w_any (w_seq (w_as (fun f s => c62j14 (runs ev) (f 15) s) w_any (fun _ _ => by kernel_rfl)) w_any)) (fun _ _ => by kernel_rfl)) w_any)) (fun _ _ => by kernel_rfl)) w_any)) (fun _ _ => by kernel_rfl)) w_any)) w_any)) w_any)) w_any) s).trans (by kernel_rfl)

noncomputable def c63 (e : Ev) (a0 : AV) (s9999 : St) : R AV :=
  kGeq Try.prog (nat_lit 3) a0 (.int .i64 (.ofNat (nat_lit 2))) (fun v0 s1 => kIf1 v0 (fun k s => kMv a0 k s) (fun v2 s3 => kIf1 v0 (fun k s => kLeq Try.prog (nat_lit 3) v2 (.int .i64 (.ofNat (nat_lit 5))) k s) (fun v4 s5 => kPick v0 v4 (.bool false) (fun v6 s7 => .ok v6 s7) s5) s3) s1) s9999

theorem c63_ok (ev : Task → M AV) (a0 : AV) (s : St) : (stepN Try.prog ev (.call 63 [a0])).run s = c63 (runs ev) a0 s :=
  (call_is Try.prog (nt := (nat_lit 9)) Try.func63 rfl (by kernel_rfl) [a0] (by kernel_rfl) w_any s).trans (by kernel_rfl)

noncomputable def c64j15 (e : Ev) (v16 : AV) (s17 : St) : R AV :=
  .ok v16 s17

noncomputable def c64k32 (e : Ev) (v18 v13 v12 : AV) (s19 : St) : R AV :=
  kIf1 v18 (fun k s => kMv v13 k s) (fun v20 s21 => kIf1 v18 (fun k s => kMv v12 k s) (fun v22 s23 => kIf1 v18 (fun k s => kO (binA Try.prog .quo (nat_lit 3) v22 (.int .i64 (.ofNat (nat_lit 2)))) k s) (fun v24 s25 => kIf1 v18 (fun k s => kGeq Try.prog (nat_lit 3) v20 v24 k s) (fun v26 s27 => kPick v18 v26 (.bool false) (fun v28 s29 => kIf v28 (kSub Try.prog (nat_lit 3) v13 v12 (fun v30 s31 => c64j15 e v30 s31) s29) (c64j15 e v13 s29)) s27) s25) s23) s21) s19

noncomputable def c64j10 (e : Ev) (v11 v12 v13 : AV) (s14 : St) : R AV :=
  kBind (e (.call (nat_lit 63) [v11])) (fun v18 s19 => c64k32 e v18 v13 v12 s19) s14

noncomputable def c64k37 (e : Ev) (v2 v0 a1 a0 : AV) (s3 : St) : R AV :=
  kIf v2 (.ok (.int .i64 (.ofNat (nat_lit 0))) s3) (kEql Try.prog (nat_lit 3) v0 (.int .i64 (.ofNat (nat_lit 64))) (fun v4 s5 => kIf v4 (.ok a1 s5) (kBind (e (.call (nat_lit 75) [v0])) (fun v6 s7 => kO (binA Try.prog .rem (nat_lit 3) a1 v6) (fun v8 s9 => kLss Try.prog (nat_lit 3) v8 (.int .i64 (.ofNat (nat_lit 0))) (fun v33 s34 => kIf v33 (kAdd Try.prog (nat_lit 3) v8 v6 (fun v35 s36 => c64j10 e a0 v6 v35 s36) s34) (c64j10 e a0 v6 v8 s34)) s9) s7) s5)) s3)

noncomputable def c64 (e : Ev) (a0 a1 : AV) (s9999 : St) : R AV :=
  kBind (e (.call (nat_lit 62) [a0])) (fun v0 s1 => kEql Try.prog (nat_lit 3) v0 (.int .i64 (.ofNat (nat_lit 0))) (fun v2 s3 => c64k37 e v2 v0 a1 a0 s3) s1) s9999

theorem c64_ok (ev : Task → M AV) (a0 a1 : AV) (s : St) : (stepN Try.prog ev (.call 64 [a0, a1])).run s = c64 (runs ev) a0 a1 s :=
  (call_is Try.prog (nt := (nat_lit 37)) Try.func64 rfl (by kernel_rfl) [a0, a1] (by kernel_rfl) (w_seq (w_seq (w_seq (w_seq (w_seq (w_seq (w_seq (w_as (fun f s => c64j10 (runs ev) (f 0) (f 6) (f 7) s) (w_seq (w_as (fun f s => c64j15 (runs ev) (f 7) s) w_any (fun _ _ => by kernel_rfl)) w_any) (fun _ _ => by kernel_rfl)) w_any) w_any) w_any) w_any) w_any) w_any) w_any) s).trans (by kernel_rfl)

noncomputable def c65j24 (e : Ev) (v25 : AV) (s26 : St) : R AV :=
  .ok v25 s26

noncomputable def c65l27b (e : Ev) (w28 : AV → AV → AV → St → R AV) (v30 v31 v32 : AV) (s33 : St) : R AV :=
  kLenL v30 (fun v34 s35 => kLss Try.prog (nat_lit 3) v32 v34 (fun v36 s37 => kIf v36 (kLoadN (nat_lit 2) v31 (fun v38 s39 => kIA (nat_lit 5) v30 v32 (fun v40 s41 => kFA (nat_lit 1) v40 (fun v42 s43 => kStore (nat_lit 2) v42 v38 (fun v44 s45 => kAdd Try.prog (nat_lit 3) v32 (.int .i64 (.ofNat (nat_lit 1))) (fun v46 s47 => w28 v30 v31 v46 s47) s45) s43) s41) s39) s37) (c65j24 e v30 s37)) s35) s33

noncomputable def c65l27 (e : Ev) (n : Nat) : AV → AV → AV → St → R AV :=
  @Nat.rec (fun _ => AV → AV → AV → St → R AV) (fun _ _ _ _ => .fail) (fun _ w => c65l27b e w) n

noncomputable def c65j19 (e : Ev) (v20 v21 v22 : AV) (s23 : St) : R AV :=
  c65l27 e fuelN v20 v22 v21 s23

noncomputable def c65k54 (e : Ev) (v9 v3 v4 v5 : AV) (s10 : St) : R AV :=
  kBuild [(.int .i64 (.ofNat (nat_lit 0))), (.int .i64 (.ofNat (nat_lit 0)))] [(some ((nat_lit 0), (nat_lit 1)), v9)] (fun v11 s12 => kAlloc [(.int .i64 (.ofNat (nat_lit 0))), (.int .i64 (.ofNat (nat_lit 0)))] (fun v13 s14 => kStore (nat_lit 2) v13 v11 (fun v15 s16 => kBind (e (.call (nat_lit 54) [v3, (.str (nat_lit 1) (nat_lit 94))])) (fun v17 s18 => kIf v17 (kBind (e (.call (nat_lit 77) [v3])) (fun v48 s49 => kFA (nat_lit 1) v13 (fun v50 s51 => kStore (nat_lit 1) v50 v48 (fun v52 s53 => c65j19 e v4 v5 v13 s53) s51) s49) s18) (c65j19 e v4 v5 v13 s18)) s16) s14) s12) s10

noncomputable def c65j2 (e : Ev) (v3 v4 v5 : AV) (s6 : St) : R AV :=
  kBind (e (.call (nat_lit 51) [v3, (.str (nat_lit 1) (nat_lit 58))])) (fun v7 s8 => kBind (e (.call (nat_lit 76) [v3])) (fun v9 s10 => c65k54 e v9 v3 v4 v5 s10) s8) s6

noncomputable def c65k91 (e : Ev) (w56 : AV → AV → AV → St → R AV) (v81 v72 v71 v73 : AV) (s82 : St) : R AV :=
  kBuildSl [(.str (nat_lit 0) (nat_lit 0)), (.int .i64 (.ofNat (nat_lit 0))), (.int .i64 (.ofNat (nat_lit 0))), .nilslice, (.int .i64 (.ofNat (nat_lit 0)))] (nat_lit 1) [(some ((nat_lit 0), (nat_lit 5)), v81)] (fun v83 s84 => kApp (nat_lit 5) (nat_lit 64) v72 v83 (fun v85 s86 => kBind (e (.call (nat_lit 54) [v71, (.str (nat_lit 1) (nat_lit 44))])) (fun v87 s88 => kNot v87 (fun v89 s90 => kIf v89 (c65j2 e v71 v85 v73 s90) (w56 v71 v85 v73 s90)) s88) s86) s84) s82

noncomputable def c65j70 (e : Ev) (w56 : AV → AV → AV → St → R AV) (v71 v72 v73 : AV) (s74 : St) : R AV :=
  kBind (e (.call (nat_lit 37) [v71])) (fun v75 s76 => kPart1 (nat_lit 5) v75 (fun v77 s78 => kBind (e (.call (nat_lit 52) [v71])) (fun v79 s80 => kBuild [(.str (nat_lit 0) (nat_lit 0)), (.int .i64 (.ofNat (nat_lit 0))), (.int .i64 (.ofNat (nat_lit 0))), .nilslice, (.int .i64 (.ofNat (nat_lit 0)))] [(some ((nat_lit 0), (nat_lit 1)), v79), (some ((nat_lit 4), (nat_lit 1)), v77)] (fun v81 s82 => c65k91 e w56 v81 v72 v71 v73 s82) s80) s78) s76) s74

noncomputable def c65k102 (e : Ev) (w56 : AV → AV → AV → St → R AV) (v66 v58 v59 v60 : AV) (s67 : St) : R AV :=
  kEql Try.prog (nat_lit 3) v66 (.int .i64 (.ofNat (nat_lit 0))) (fun v68 s69 => kIf v68 (kBind (e (.call (nat_lit 37) [v58])) (fun v92 s93 => kPart1 (nat_lit 0) v92 (fun v94 s95 => kEql Try.prog (nat_lit 3) v94 (.int .i64 (.ofNat (nat_lit 1))) (fun v96 s97 => kIf v96 (kLenL v59 (fun v98 s99 => kBind (e (.call (nat_lit 40) [v58, v98, (.int .i64 (.ofNat (nat_lit 200)))])) (fun v100 s101 => kIf v100 (.ok v59 s101) (c65j70 e w56 v58 v59 v60 s101)) s99) s97) (c65j70 e w56 v58 v59 v60 s97)) s95) s93) s69) (c65j2 e v58 v59 v60 s69)) s67

noncomputable def c65l55b (e : Ev) (w56 : AV → AV → AV → St → R AV) (v58 v59 v60 : AV) (s61 : St) : R AV :=
  kNilCheck v58 (fun v62 s63 => kFA (nat_lit 2) v62 (fun v64 s65 => kLoad1 v64 (fun v66 s67 => c65k102 e w56 v66 v58 v59 v60 s67) s65) s63) s61

noncomputable def c65l55 (e : Ev) (n : Nat) : AV → AV → AV → St → R AV :=
  @Nat.rec (fun _ => AV → AV → AV → St → R AV) (fun _ _ _ _ => .fail) (fun _ w => c65l55b e w) n

noncomputable def c65 (e : Ev) (a0 a1 : AV) (s9999 : St) : R AV :=
  kLenL a1 (fun v0 s1 => c65l55 e fuelN a0 a1 v0 s1) s9999

theorem c65_ok (ev : Task → M AV) (a0 a1 : AV) (s : St) : (stepN Try.prog ev (.call 65 [a0, a1])).run s = c65 (runs ev) a0 a1 s :=
  (call_is Try.prog (nt := (nat_lit 69)) Try.func65 rfl (by kernel_rfl) [a0, a1] (by kernel_rfl) (w_seq (w_seq (w_seq (w_as (fun f s => c65j2 (runs ev) (f 0) (f 1) (f 5) s) (w_seq (w_seq (w_seq (w_seq (w_as (fun f s => c65j19 (runs ev) (f 1) (f 5) (f 10) s) (w_seq (w_as (fun f s => c65j24 (runs ev) (f 1) s) w_any (fun _ _ => by kernel_rfl)) (w_seq (w_block (w_loop (fun n f s => c65l27 (runs ev) n (f 1) (f 10) (f 12) s) (fun _ _ => by kernel_rfl) (fun n29 => w_as _ w_any (fun _ _ => by kernel_rfl)))) w_any)) (fun _ _ => by kernel_rfl)) w_any) w_any) w_any) w_any) (fun _ _ => by kernel_rfl)) (w_block (w_loop (fun n f s => c65l55 (runs ev) n (f 0) (f 1) (f 5) s) (fun _ _ => by kernel_rfl) (fun n57 => w_as _ (w_seq (w_block (w_seq (w_as (fun f s => c65j70 (runs ev) (c65l55 (runs ev) n57) (f 0) (f 1) (f 5) s) w_any (fun _ _ => by kernel_rfl)) w_any)) w_any) (fun _ _ => by kernel_rfl))))) w_any) w_any) s).trans (by kernel_rfl)

noncomputable def c66j0 (e : Ev) (v1 : AV) (s2 : St) : R AV :=
  .ok v1 s2

noncomputable def c66k45 (e : Ev) (w4 : AV → AV → St → R AV) (v6 v21 : AV) (s26 : St) : R AV :=
  kNilCheck v6 (fun v27 s28 => kFA (nat_lit 1) v27 (fun v29 s30 => kLoad1 v29 (fun v31 s32 => kAdd Try.prog (nat_lit 3) v31 (.int .i64 (.ofNat (nat_lit 1))) (fun v33 s34 => kNilCheck v6 (fun v35 s36 => kFA (nat_lit 1) v35 (fun v37 s38 => kStore (nat_lit 1) v37 v33 (fun v39 s40 => kLenL v21 (fun v41 s42 => kBind (e (.call (nat_lit 40) [v6, v41, (.int .i64 (.ofNat (nat_lit 16)))])) (fun v43 s44 => kIf v43 (c66j0 e v21 s44) (w4 v6 v21 s44)) s42) s40) s38) s36) s34) s32) s30) s28) s26

noncomputable def c66k46 (e : Ev) (w4 : AV → AV → St → R AV) (v13 v6 v7 : AV) (s14 : St) : R AV :=
  kEql Try.prog (nat_lit 3) v13 (.int .i64 (.ofNat (nat_lit 0))) (fun v15 s16 => kIf v15 (kBind (e (.call (nat_lit 78) [v6])) (fun v17 s18 => kBuildSl [(.str (nat_lit 0) (nat_lit 0)), (.bool false)] (nat_lit 1) [(some ((nat_lit 0), (nat_lit 2)), v17)] (fun v19 s20 => kApp (nat_lit 2) (nat_lit 24) v7 v19 (fun v21 s22 => kBind (e (.call (nat_lit 38) [v6, (.str (nat_lit 3) (nat_lit 6581857))])) (fun v23 s24 => kNot v23 (fun v25 s26 => kIf v25 (c66j0 e v21 s26) (c66k45 e w4 v6 v21 s26)) s24) s22) s20) s18) s16) (c66j0 e v7 s16)) s14

noncomputable def c66l3b (e : Ev) (w4 : AV → AV → St → R AV) (v6 v7 : AV) (s8 : St) : R AV :=
  kNilCheck v6 (fun v9 s10 => kFA (nat_lit 2) v9 (fun v11 s12 => kLoad1 v11 (fun v13 s14 => c66k46 e w4 v13 v6 v7 s14) s12) s10) s8

noncomputable def c66l3 (e : Ev) (n : Nat) : AV → AV → St → R AV :=
  @Nat.rec (fun _ => AV → AV → St → R AV) (fun _ _ _ => .fail) (fun _ w => c66l3b e w) n

noncomputable def c66 (e : Ev) (a0 : AV) (s9999 : St) : R AV :=
  c66l3 e fuelN a0 .nilslice s9999

theorem c66_ok (ev : Task → M AV) (a0 : AV) (s : St) : (stepN Try.prog ev (.call 66 [a0])).run s = c66 (runs ev) a0 s :=
  (call_is Try.prog (nt := (nat_lit 33)) Try.func66 rfl (by kernel_rfl) [a0] (by kernel_rfl) (w_seq (w_seq (w_seq (w_as (fun f s => c66j0 (runs ev) (f 3) s) w_any (fun _ _ => by kernel_rfl)) (w_block (w_loop (fun n f s => c66l3 (runs ev) n (f 0) (f 3) s) (fun _ _ => by kernel_rfl) (fun n5 => w_as _ w_any (fun _ _ => by kernel_rfl))))) w_any) w_any) s).trans (by kernel_rfl)

noncomputable def c67k26 (e : Ev) (v8 v10 a0 : AV) (s11 : St) : R AV :=
  kIf0 v8 (fun k s => kMv v10 k s) (fun v12 s13 => kPick v8 (.bool true) v12 (fun v14 s15 => kIf0 v14 (fun k s => kMv a0 k s) (fun v16 s17 => kIf0 v14 (fun k s => kBind (e (.call (nat_lit 37) [v16])) k s) (fun v18 s19 => kIf0 v14 (fun k s => kPart1 (nat_lit 0) v18 k s) (fun v20 s21 => kIf0 v14 (fun k s => kEql Try.prog (nat_lit 3) v20 (.int .i64 (.ofNat (nat_lit 1))) k s) (fun v22 s23 => kPick v14 (.bool true) v22 (fun v24 s25 => .ok v24 s25) s23) s21) s19) s17) s15) s13) s11

noncomputable def c67 (e : Ev) (a0 : AV) (s9999 : St) : R AV :=
  kNilCheck a0 (fun v0 s1 => kFA (nat_lit 2) v0 (fun v2 s3 => kLoad1 v2 (fun v4 s5 => kNeq Try.prog (nat_lit 3) v4 (.int .i64 (.ofNat (nat_lit 0))) (fun v6 s7 => kIf v6 (.ok (.bool false) s7) (kBind (e (.call (nat_lit 38) [a0, (.str (nat_lit 9) (nat_lit 2037172999266208347489))])) (fun v8 s9 => kBind (e (.call (nat_lit 38) [a0, (.str (nat_lit 1) (nat_lit 40))])) (fun v10 s11 => c67k26 e v8 v10 a0 s11) s9) s7)) s5) s3) s1) s9999

theorem c67_ok (ev : Task → M AV) (a0 : AV) (s : St) : (stepN Try.prog ev (.call 67 [a0])).run s = c67 (runs ev) a0 s :=
  (call_is Try.prog (nt := (nat_lit 24)) Try.func67 rfl (by kernel_rfl) [a0] (by kernel_rfl) w_any s).trans (by kernel_rfl)

noncomputable def c68k85 (e : Ev) (v59 v61 v60 : AV) (s64 : St) : R AV :=
  kNilCheck v59 (fun v65 s66 => kFA (nat_lit 4) v65 (fun v67 s68 => kLoad1 v67 (fun v69 s70 => kSub Try.prog (nat_lit 3) v69 (.int .i64 (.ofNat (nat_lit 1))) (fun v71 s72 => kNilCheck v59 (fun v73 s74 => kFA (nat_lit 4) v73 (fun v75 s76 => kStore (nat_lit 1) v75 v71 (fun v77 s78 => kLoadN (nat_lit 12) v61 (fun v79 s80 => kStore (nat_lit 12) v60 v79 (fun v81 s82 => kLoadN (nat_lit 12) v60 (fun v83 s84 => .ok v83 s84) s82) s80) s78) s76) s74) s72) s70) s68) s66) s64

noncomputable def c68j58 (e : Ev) (v59 v60 v61 : AV) (s62 : St) : R AV :=
  kBind (e (.call (nat_lit 51) [v59, (.str (nat_lit 3) (nat_lit 6581861))])) (fun v63 s64 => c68k85 e v59 v61 v60 s64) s62

noncomputable def c68j105 (e : Ev) (w87 : AV → AV → AV → St → R AV) (v106 v107 v108 : AV) (s109 : St) : R AV :=
  c68j58 e v106 v107 v108 s109

noncomputable def c68k152 (e : Ev) (w87 : AV → AV → AV → St → R AV) (v134 v130 v91 v89 v90 : AV) (r131 u132 r135 u136 : Nat) (s137 : St) : R AV :=
  kLg (fun k s => kBuildSl [(.str (nat_lit 0) (nat_lit 0)), .nilslice, .nilslice, .nilslice, .nilslice, (.int .i64 (.ofNat (nat_lit 0)))] (nat_lit 1) [(some ((nat_lit 0), (nat_lit 6)), v134)] k s) (fun v138 r139 u140 s141 => kLg (fun k s => kApp (nat_lit 6) (nat_lit 120) v130 v138 k s) (fun v142 r143 u144 s145 => kFA (nat_lit 10) v91 (fun v146 s147 => kLg (fun k s => kStore (nat_lit 1) v146 v142 k s) (fun v148 r149 u150 s151 => ifb (kClash r131 u132 r135 u136 (kClash r131 u132 r139 u140 false)) .fail (w87 v89 v90 v91 s151)) s147) s145) s141) s137

noncomputable def c68k153 (e : Ev) (w87 : AV → AV → AV → St → R AV) (v120 v89 v90 v91 : AV) (s121 : St) : R AV :=
  kLoad1 v120 (fun v122 s123 => kLenL v122 (fun v124 s125 => kBind (e (.call (nat_lit 40) [v89, v124, (.int .i64 (.ofNat (nat_lit 16)))])) (fun v126 s127 => kIf v126 (c68j58 e v89 v90 v91 s127) (kFA (nat_lit 10) v91 (fun v128 s129 => kLg (fun k s => kLoad1 v128 k s) (fun v130 r131 u132 s133 => kLg (fun k s => kBind (e (.call (nat_lit 79) [v89])) k s) (fun v134 r135 u136 s137 => c68k152 e w87 v134 v130 v91 v89 v90 r131 u132 r135 u136 s137) s133) s129) s127)) s125) s123) s121

noncomputable def c68k154 (e : Ev) (w87 : AV → AV → AV → St → R AV) (v103 v91 v89 v90 : AV) (s104 : St) : R AV :=
  kIf v103 (kFA (nat_lit 10) v91 (fun v110 s111 => kLoad1 v110 (fun v112 s113 => kLenL v112 (fun v114 s115 => kEql Try.prog (nat_lit 3) v114 (.int .i64 (.ofNat (nat_lit 0))) (fun v116 s117 => kIf v116 (kBind (e (.call (nat_lit 39) [v89, (.int .i64 (.ofNat (nat_lit 12)))])) (fun v118 s119 => c68j105 e w87 v89 v90 v91 s119) s117) (c68j105 e w87 v89 v90 v91 s117)) s115) s113) s111) s104) (kFA (nat_lit 10) v91 (fun v120 s121 => c68k153 e w87 v120 v89 v90 v91 s121) s104)

noncomputable def c68l86b (e : Ev) (w87 : AV → AV → AV → St → R AV) (v89 v90 v91 : AV) (s92 : St) : R AV :=
  kNilCheck v89 (fun v93 s94 => kFA (nat_lit 2) v93 (fun v95 s96 => kLoad1 v95 (fun v97 s98 => kEql Try.prog (nat_lit 3) v97 (.int .i64 (.ofNat (nat_lit 0))) (fun v99 s100 => kIf v99 (kBind (e (.call (nat_lit 38) [v89, (.str (nat_lit 5) (nat_lit 435744240755))])) (fun v101 s102 => kNot v101 (fun v103 s104 => c68k154 e w87 v103 v91 v89 v90 s104) s102) s100) (c68j58 e v89 v90 v91 s100)) s98) s96) s94) s92

noncomputable def c68l86 (e : Ev) (n : Nat) : AV → AV → AV → St → R AV :=
  @Nat.rec (fun _ => AV → AV → AV → St → R AV) (fun _ _ _ _ => .fail) (fun _ w => c68l86b e w) n

noncomputable def c68k155 (e : Ev) (v34 a0 v8 v0 : AV) (s35 : St) : R AV :=
  kIf v34 (kBind (e (.call (nat_lit 39) [a0, (.int .i64 (.ofNat (nat_lit 2)))])) (fun v36 s37 => kLoadN (nat_lit 12) v8 (fun v38 s39 => kStore (nat_lit 12) v0 v38 (fun v40 s41 => kLoadN (nat_lit 12) v0 (fun v42 s43 => .ok v42 s43) s41) s39) s37) s35) (kNilCheck a0 (fun v44 s45 => kFA (nat_lit 1) v44 (fun v46 s47 => kLoad1 v46 (fun v48 s49 => kAdd Try.prog (nat_lit 3) v48 (.int .i64 (.ofNat (nat_lit 1))) (fun v50 s51 => kNilCheck a0 (fun v52 s53 => kFA (nat_lit 1) v52 (fun v54 s55 => kStore (nat_lit 1) v54 v50 (fun v56 s57 => c68l86 e fuelN a0 v0 v8 s57) s55) s53) s51) s49) s47) s45) s35)

noncomputable def c68k156 (e : Ev) (v16 a0 v8 v0 : AV) (s17 : St) : R AV :=
  kLoad1 v16 (fun v18 s19 => kAdd Try.prog (nat_lit 3) v18 (.int .i64 (.ofNat (nat_lit 1))) (fun v20 s21 => kNilCheck a0 (fun v22 s23 => kFA (nat_lit 4) v22 (fun v24 s25 => kStore (nat_lit 1) v24 v20 (fun v26 s27 => kNilCheck a0 (fun v28 s29 => kFA (nat_lit 4) v28 (fun v30 s31 => kLoad1 v30 (fun v32 s33 => kGtr Try.prog (nat_lit 3) v32 (.int .i64 (.ofNat (nat_lit 40))) (fun v34 s35 => c68k155 e v34 a0 v8 v0 s35) s33) s31) s29) s27) s25) s23) s21) s19) s17

noncomputable def c68j159 (e : Ev) (v160 v161 v162 : AV) (s163 : St) : R AV :=
  kBind (e (.call (nat_lit 51) [v160, (.str (nat_lit 1) (nat_lit 61))])) (fun v164 s165 => kBind (e (.call (nat_lit 80) [v160])) (fun v166 s167 => kFA (nat_lit 1) v162 (fun v168 s169 => kStore (nat_lit 9) v168 v166 (fun v170 s171 => kBind (e (.call (nat_lit 51) [v160, (.str (nat_lit 1) (nat_lit 59))])) (fun v172 s173 => kLoadN (nat_lit 12) v162 (fun v174 s175 => kStore (nat_lit 12) v161 v174 (fun v176 s177 => kLoadN (nat_lit 12) v161 (fun v178 s179 => .ok v178 s179) s177) s175) s173) s171) s169) s167) s165) s163

noncomputable def c68j190 (e : Ev) (v191 v192 v193 : AV) (s194 : St) : R AV :=
  kBind (e (.call (nat_lit 51) [v191, (.str (nat_lit 1) (nat_lit 41))])) (fun v195 s196 => c68j159 e v191 v192 v193 s196) s194

noncomputable def c68k245 (e : Ev) (w198 : AV → AV → AV → St → R AV) (v219 v227 v215 v213 v214 : AV) (r220 u221 r224 u225 r228 u229 : Nat) (s230 : St) : R AV :=
  kLg (fun k s => kApp (nat_lit 1) (nat_lit 16) v219 v227 k s) (fun v231 r232 u233 s234 => kFA (nat_lit 0) v215 (fun v235 s236 => kLg (fun k s => kStore (nat_lit 1) v235 v231 k s) (fun v237 r238 u239 s240 => ifb (kClash r220 u221 r224 u225 (kClash r220 u221 r228 u229 false)) .fail (kBind (e (.call (nat_lit 54) [v213, (.str (nat_lit 1) (nat_lit 44))])) (fun v241 s242 => kNot v241 (fun v243 s244 => kIf v243 (c68j190 e v213 v214 v215 s244) (w198 v213 v214 v215 s244)) s242) s240)) s236) s234) s230

noncomputable def c68j212 (e : Ev) (w198 : AV → AV → AV → St → R AV) (v213 v214 v215 : AV) (s216 : St) : R AV :=
  kFA (nat_lit 0) v215 (fun v217 s218 => kLg (fun k s => kLoad1 v217 k s) (fun v219 r220 u221 s222 => kLg (fun k s => kBind (e (.call (nat_lit 52) [v213])) k s) (fun v223 r224 u225 s226 => kLg (fun k s => kBuildSl [(.str (nat_lit 0) (nat_lit 0))] (nat_lit 1) [(some ((nat_lit 0), (nat_lit 1)), v223)] k s) (fun v227 r228 u229 s230 => c68k245 e w198 v219 v227 v215 v213 v214 r220 u221 r224 u225 r228 u229 s230) s226) s222) s218) s216

noncomputable def c68k266 (e : Ev) (w198 : AV → AV → AV → St → R AV) (v250 v202 v200 v201 : AV) (s251 : St) : R AV :=
  kIf v250 (kFA (nat_lit 0) v202 (fun v252 s253 => kLoad1 v252 (fun v254 s255 => kLenL v254 (fun v256 s257 => kBind (e (.call (nat_lit 40) [v200, v256, (.int .i64 (.ofNat (nat_lit 16)))])) (fun v258 s259 => kIf v258 (kLoadN (nat_lit 12) v202 (fun v260 s261 => kStore (nat_lit 12) v201 v260 (fun v262 s263 => kLoadN (nat_lit 12) v201 (fun v264 s265 => .ok v264 s265) s263) s261) s259) (c68j212 e w198 v200 v201 v202 s259)) s257) s255) s253) s251) (c68j212 e w198 v200 v201 v202 s251)

noncomputable def c68l197b (e : Ev) (w198 : AV → AV → AV → St → R AV) (v200 v201 v202 : AV) (s203 : St) : R AV :=
  kNilCheck v200 (fun v204 s205 => kFA (nat_lit 2) v204 (fun v206 s207 => kLoad1 v206 (fun v208 s209 => kEql Try.prog (nat_lit 3) v208 (.int .i64 (.ofNat (nat_lit 0))) (fun v210 s211 => kIf v210 (kBind (e (.call (nat_lit 37) [v200])) (fun v246 s247 => kPart1 (nat_lit 0) v246 (fun v248 s249 => kEql Try.prog (nat_lit 3) v248 (.int .i64 (.ofNat (nat_lit 1))) (fun v250 s251 => c68k266 e w198 v250 v202 v200 v201 s251) s249) s247) s211) (c68j190 e v200 v201 v202 s211)) s209) s207) s205) s203

noncomputable def c68l197 (e : Ev) (n : Nat) : AV → AV → AV → St → R AV :=
  @Nat.rec (fun _ => AV → AV → AV → St → R AV) (fun _ _ _ _ => .fail) (fun _ w => c68l197b e w) n

noncomputable def c68k267 (e : Ev) (a0 v8 v0 : AV) (s13 : St) : R AV :=
  kBind (e (.call (nat_lit 54) [a0, (.str (nat_lit 1) (nat_lit 40))])) (fun v157 s158 => kNot v157 (fun v180 s181 => kIf v180 (kBind (e (.call (nat_lit 52) [a0])) (fun v182 s183 => kBuildSl [(.str (nat_lit 0) (nat_lit 0))] (nat_lit 1) [(some ((nat_lit 0), (nat_lit 1)), v182)] (fun v184 s185 => kFA (nat_lit 0) v8 (fun v186 s187 => kStore (nat_lit 1) v186 v184 (fun v188 s189 => c68j159 e a0 v0 v8 s189) s187) s185) s183) s181) (c68l197 e fuelN a0 v0 v8 s181)) s158) s13

noncomputable def c68k268 (e : Ev) (v6 a0 v0 : AV) (s7 : St) : R AV :=
  kAlloc [.nilslice, (.int .i64 (.ofNat (nat_lit 0))), (.int .i64 (.ofNat (nat_lit 0))), (.str (nat_lit 0) (nat_lit 0)), (.int .i64 (.ofNat (nat_lit 0))), (.int .i64 (.ofNat (nat_lit 0))), (.int .i64 (.ofNat (nat_lit 0))), (.int .i64 (.ofNat (nat_lit 0))), .nilslice, (.int .i64 (.ofNat (nat_lit 0))), .nilslice, (.int .i64 (.ofNat (nat_lit 0)))] (fun v8 s9 => kStore (nat_lit 12) v8 v6 (fun v10 s11 => kBind (e (.call (nat_lit 38) [a0, (.str (nat_lit 9) (nat_lit 2037172999266208347489))])) (fun v12 s13 => kIf v12 (kNilCheck a0 (fun v14 s15 => kFA (nat_lit 4) v14 (fun v16 s17 => c68k156 e v16 a0 v8 v0 s17) s15) s13) (c68k267 e a0 v8 v0 s13)) s11) s9) s7

noncomputable def c68k269 (e : Ev) (v2 a0 v0 : AV) (s3 : St) : R AV :=
  kPart1 (nat_lit 5) v2 (fun v4 s5 => kBuild [.nilslice, (.int .i64 (.ofNat (nat_lit 0))), (.int .i64 (.ofNat (nat_lit 0))), (.str (nat_lit 0) (nat_lit 0)), (.int .i64 (.ofNat (nat_lit 0))), (.int .i64 (.ofNat (nat_lit 0))), (.int .i64 (.ofNat (nat_lit 0))), (.int .i64 (.ofNat (nat_lit 0))), .nilslice, (.int .i64 (.ofNat (nat_lit 0))), .nilslice, (.int .i64 (.ofNat (nat_lit 0)))] [(some ((nat_lit 11), (nat_lit 1)), v4)] (fun v6 s7 => c68k268 e v6 a0 v0 s7) s5) s3

noncomputable def c68 (e : Ev) (a0 : AV) (s9999 : St) : R AV :=
  kAlloc [.nilslice, (.int .i64 (.ofNat (nat_lit 0))), (.int .i64 (.ofNat (nat_lit 0))), (.str (nat_lit 0) (nat_lit 0)), (.int .i64 (.ofNat (nat_lit 0))), (.int .i64 (.ofNat (nat_lit 0))), (.int .i64 (.ofNat (nat_lit 0))), (.int .i64 (.ofNat (nat_lit 0))), .nilslice, (.int .i64 (.ofNat (nat_lit 0))), .nilslice, (.int .i64 (.ofNat (nat_lit 0)))] (fun v0 s1 => kBind (e (.call (nat_lit 37) [a0])) (fun v2 s3 => c68k269 e v2 a0 v0 s3) s1) s9999

theorem c68_ok (ev : Task → M AV) (a0 : AV) (s : St) : (stepN Try.prog ev (.call 68 [a0])).run s = c68 (runs ev) a0 s :=
  (call_is Try.prog (nt := (nat_lit 122)) Try.func68 rfl (by kernel_rfl) [a0] (by kernel_rfl) (w_seq (w_seq (w_seq (w_seq (w_seq (w_seq (w_as (fun f s => c68j159 (runs ev) (f 0) (f 2) (f 3) s) w_any (fun _ _ => by kernel_rfl)) (w_seq (w_cond w_any (w_seq (w_as (fun f s => c68j190 (runs ev) (f 0) (f 2) (f 3) s) w_any (fun _ _ => by kernel_rfl)) (w_block (w_loop (fun n f s => c68l197 (runs ev) n (f 0) (f 2) (f 3) s) (fun _ _ => by kernel_rfl) (fun n199 => w_as _ (w_seq (w_block (w_seq (w_as (fun f s => c68j212 (runs ev) (c68l197 (runs ev) n199) (f 0) (f 2) (f 3) s) w_any (fun _ _ => by kernel_rfl)) w_any)) w_any) (fun _ _ => by kernel_rfl)))))) w_any)) w_any) (w_seq (w_cond (w_seq (w_seq (w_seq (w_seq (w_as (fun f s => c68j58 (runs ev) (f 0) (f 2) (f 3) s) w_any (fun _ _ => by kernel_rfl)) (w_block (w_loop (fun n f s => c68l86 (runs ev) n (f 0) (f 2) (f 3) s) (fun _ _ => by kernel_rfl) (fun n88 => w_as _ (w_seq (w_block (w_seq (w_seq w_any (w_seq (w_cond (w_seq (w_as (fun f s => c68j105 (runs ev) (c68l86 (runs ev) n88) (f 0) (f 2) (f 3) s) w_any (fun _ _ => by kernel_rfl)) w_any) w_any) w_any)) w_any)) w_any) (fun _ _ => by kernel_rfl))))) w_any) w_any) w_any) w_any) w_any)) w_any) w_any) w_any) s).trans (by kernel_rfl)

noncomputable def c69 (e : Ev) (a0 a1 : AV) (s9999 : St) : R AV :=
  kLoad1 a0 (fun v0 s1 => kFA (nat_lit 3) a1 (fun v2 s3 => kLoad1 v2 (fun v4 s5 => kBind (e (.call (nat_lit 30) [v0, v4, (.int .i64 (.ofNat (nat_lit 2)))])) (fun v6 s7 => .ok v6 s7) s5) s3) s1) s9999

theorem c69_ok (ev : Task → M AV) (a0 a1 : AV) (s : St) : (stepN Try.prog ev (.call 69 [a0, a1])).run s = c69 (runs ev) a0 a1 s :=
  (call_is Try.prog (nt := (nat_lit 7)) Try.func69 rfl (by kernel_rfl) [a0, a1] (by kernel_rfl) w_any s).trans (by kernel_rfl)

noncomputable def c70k36 (e : Ev) (v12 v10 a0 a2 a3 v6 : AV) (s13 : St) : R AV :=
  kFA (nat_lit 1) v12 (fun v14 s15 => kStore (nat_lit 1) v14 v10 (fun v16 s17 => kLoad1 a0 (fun v18 s19 => kFA (nat_lit 1) a2 (fun v20 s21 => kLoad1 v20 (fun v22 s23 => kLoad1 a3 (fun v24 s25 => kBind (e (.call (nat_lit 71) [v18, v22, v24])) (fun v26 s27 => kLoad1 a0 (fun v28 s29 => kNilCheck v28 (fun v30 s31 => kFA (nat_lit 1) v30 (fun v32 s33 => kStore (nat_lit 1) v32 v6 (fun v34 s35 => .ok v26 s35) s33) s31) s29) s27) s25) s23) s21) s19) s17) s15) s13

noncomputable def c70 (e : Ev) (a0 a1 a2 a3 : AV) (s9999 : St) : R AV :=
  kLoad1 a0 (fun v0 s1 => kNilCheck v0 (fun v2 s3 => kFA (nat_lit 1) v2 (fun v4 s5 => kLoad1 v4 (fun v6 s7 => kLoad1 a0 (fun v8 s9 => kLoad1 a1 (fun v10 s11 => kNilCheck v8 (fun v12 s13 => c70k36 e v12 v10 a0 a2 a3 v6 s13) s11) s9) s7) s5) s3) s1) s9999

theorem c70_ok (ev : Task → M AV) (a0 a1 a2 a3 : AV) (s : St) : (stepN Try.prog ev (.call 70 [a0, a1, a2, a3])).run s = c70 (runs ev) a0 a1 a2 a3 s :=
  (call_is Try.prog (nt := (nat_lit 25)) Try.func70 rfl (by kernel_rfl) [a0, a1, a2, a3] (by kernel_rfl) w_any s).trans (by kernel_rfl)

noncomputable def c71j0 (e : Ev) (s1 : St) : R AV :=
  .ok (.bool true) s1

noncomputable def c71k59 (e : Ev) (w5 : AV → AV → AV → AV → AV → St → R AV) (v43 v19 v7 v11 v8 v9 v10 : AV) (s44 : St) : R AV :=
  kIf v43 (.ok (.bool false) s44) (kFA (nat_lit 0) v19 (fun v45 s46 => kLoadN (nat_lit 9) v45 (fun v47 s48 => kBind (e (.call (nat_lit 18) [v47])) (fun v49 s50 => kIf v49 (kFA (nat_lit 11) v19 (fun v51 s52 => kLoad1 v51 (fun v53 s54 => kBind (e (.call (nat_lit 29) [v7, v53, (.int .i64 (.ofNat (nat_lit 26)))])) (fun v55 s56 => .ok v55 s56) s54) s52) s50) (kAdd Try.prog (nat_lit 3) v11 (.int .i64 (.ofNat (nat_lit 1))) (fun v57 s58 => w5 v7 v8 v9 v10 v57 s58) s50)) s48) s46) s44)

noncomputable def c71k60 (e : Ev) (w5 : AV → AV → AV → AV → AV → St → R AV) (v27 v19 v7 v11 v8 v9 v10 : AV) (s28 : St) : R AV :=
  kEql Try.prog (nat_lit 3) v27 (.int .i64 (.ofNat (nat_lit 0))) (fun v29 s30 => kIf v29 (kFA (nat_lit 11) v19 (fun v31 s32 => kLoad1 v31 (fun v33 s34 => kBind (e (.call (nat_lit 29) [v7, v33, (.int .i64 (.ofNat (nat_lit 21)))])) (fun v35 s36 => .ok v35 s36) s34) s32) s30) (kFA (nat_lit 0) v19 (fun v37 s38 => kLoadN (nat_lit 9) v37 (fun v39 s40 => kBind (e (.call (nat_lit 57) [v7, v39])) (fun v41 s42 => kNot v41 (fun v43 s44 => c71k59 e w5 v43 v19 v7 v11 v8 v9 v10 s44) s42) s40) s38) s30)) s28

noncomputable def c71k61 (e : Ev) (w5 : AV → AV → AV → AV → AV → St → R AV) (v17 v8 v7 v11 v9 v10 : AV) (s18 : St) : R AV :=
  kAlloc [(.int .i64 (.ofNat (nat_lit 0))), (.int .i64 (.ofNat (nat_lit 0))), (.str (nat_lit 0) (nat_lit 0)), (.int .i64 (.ofNat (nat_lit 0))), (.int .i64 (.ofNat (nat_lit 0))), (.int .i64 (.ofNat (nat_lit 0))), (.int .i64 (.ofNat (nat_lit 0))), .nilslice, (.int .i64 (.ofNat (nat_lit 0))), (.str (nat_lit 0) (nat_lit 0)), (.bool false), (.int .i64 (.ofNat (nat_lit 0)))] (fun v19 s20 => kStore (nat_lit 12) v19 v17 (fun v21 s22 => kFA (nat_lit 9) v19 (fun v23 s24 => kLoad1 v23 (fun v25 s26 => kLookS (.int .i64 (.ofNat (nat_lit 0))) false v8 v25 (fun v27 s28 => c71k60 e w5 v27 v19 v7 v11 v8 v9 v10 s28) s26) s24) s22) s20) s18

noncomputable def c71l4b (e : Ev) (w5 : AV → AV → AV → AV → AV → St → R AV) (v7 v8 v9 v10 v11 : AV) (s12 : St) : R AV :=
  kLss Try.prog (nat_lit 3) v11 v10 (fun v13 s14 => kIf v13 (kIA (nat_lit 12) v9 v11 (fun v15 s16 => kLoadN (nat_lit 12) v15 (fun v17 s18 => c71k61 e w5 v17 v8 v7 v11 v9 v10 s18) s16) s14) (c71j0 e s14)) s12

noncomputable def c71l4 (e : Ev) (n : Nat) : AV → AV → AV → AV → AV → St → R AV :=
  @Nat.rec (fun _ => AV → AV → AV → AV → AV → St → R AV) (fun _ _ _ _ _ _ => .fail) (fun _ w => c71l4b e w) n

noncomputable def c71 (e : Ev) (a0 a1 a2 : AV) (s9999 : St) : R AV :=
  kLenL a1 (fun v2 s3 => c71l4 e fuelN a0 a2 a1 v2 (.int .i64 (.ofNat (nat_lit 0))) s3) s9999

theorem c71_ok (ev : Task → M AV) (a0 a1 a2 : AV) (s : St) : (stepN Try.prog ev (.call 71 [a0, a1, a2])).run s = c71 (runs ev) a0 a1 a2 s :=
  (call_is Try.prog (nt := (nat_lit 37)) Try.func71 rfl (by kernel_rfl) [a0, a1, a2] (by kernel_rfl) (w_seq (w_seq (w_as (fun f s => c71j0 (runs ev) s) w_any (fun _ _ => by kernel_rfl)) (w_seq (w_block (w_loop (fun n f s => c71l4 (runs ev) n (f 0) (f 2) (f 9) (f 10) (f 11) s) (fun _ _ => by kernel_rfl) (fun n6 => w_as _ w_any (fun _ _ => by kernel_rfl)))) w_any)) w_any) s).trans (by kernel_rfl)

noncomputable def c72 (e : Ev) (a0 a1 a2 : AV) (s9999 : St) : R AV :=
  kLoad1 a0 (fun v0 s1 => kFA (nat_lit 4) a1 (fun v2 s3 => kLoad1 v2 (fun v4 s5 => kLoad1 a2 (fun v6 s7 => kBind (e (.call (nat_lit 31) [v0, v4, v6])) (fun v8 s9 => .ok v8 s9) s7) s5) s3) s1) s9999

theorem c72_ok (ev : Task → M AV) (a0 a1 a2 : AV) (s : St) : (stepN Try.prog ev (.call 72 [a0, a1, a2])).run s = c72 (runs ev) a0 a1 a2 s :=
  (call_is Try.prog (nt := (nat_lit 9)) Try.func72 rfl (by kernel_rfl) [a0, a1, a2] (by kernel_rfl) w_any s).trans (by kernel_rfl)

noncomputable def c73j0 (e : Ev) (s1 : St) : R AV :=
  .ok (.bool true) s1

noncomputable def c73k55 (e : Ev) (w9 : AV → AV → AV → AV → AV → St → R AV) (v35 v12 v23 v11 v15 v13 v14 : AV) (s36 : St) : R AV :=
  kIf v35 (kLoad1 v12 (fun v37 s38 => kFA (nat_lit 4) v23 (fun v39 s40 => kLoad1 v39 (fun v41 s42 => kBind (e (.call (nat_lit 29) [v37, v41, (.int .i64 (.ofNat (nat_lit 24)))])) (fun v43 s44 => .ok v43 s44) s42) s40) s38) s36) (kLoad1 v11 (fun v45 s46 => kFA (nat_lit 0) v23 (fun v47 s48 => kLoad1 v47 (fun v49 s50 => kM (builtinA Try.prog .delete (List.toArray [(nat_lit 57), (nat_lit 9)]) [v45, v49]) (fun v51 s52 => kAdd Try.prog (nat_lit 3) v15 (.int .i64 (.ofNat (nat_lit 1))) (fun v53 s54 => w9 v11 v12 v13 v14 v53 s54) s52) s50) s48) s46) s36)

noncomputable def c73k56 (e : Ev) (w9 : AV → AV → AV → AV → AV → St → R AV) (v21 v11 v12 v15 v13 v14 : AV) (s22 : St) : R AV :=
  kAlloc [(.str (nat_lit 0) (nat_lit 0)), (.int .i64 (.ofNat (nat_lit 0))), (.int .i64 (.ofNat (nat_lit 0))), .nilslice, (.int .i64 (.ofNat (nat_lit 0)))] (fun v23 s24 => kStore (nat_lit 5) v23 v21 (fun v25 s26 => kLoad1 v11 (fun v27 s28 => kFA (nat_lit 0) v23 (fun v29 s30 => kLoad1 v29 (fun v31 s32 => kLookS (.int .i64 (.ofNat (nat_lit 0))) false v27 v31 (fun v33 s34 => kEql Try.prog (nat_lit 3) v33 (.int .i64 (.ofNat (nat_lit 0))) (fun v35 s36 => c73k55 e w9 v35 v12 v23 v11 v15 v13 v14 s36) s34) s32) s30) s28) s26) s24) s22

noncomputable def c73l8b (e : Ev) (w9 : AV → AV → AV → AV → AV → St → R AV) (v11 v12 v13 v14 v15 : AV) (s16 : St) : R AV :=
  kLss Try.prog (nat_lit 3) v15 v14 (fun v17 s18 => kIf v17 (kIA (nat_lit 5) v13 v15 (fun v19 s20 => kLoadN (nat_lit 5) v19 (fun v21 s22 => c73k56 e w9 v21 v11 v12 v15 v13 v14 s22) s20) s18) (c73j0 e s18)) s16

noncomputable def c73l8 (e : Ev) (n : Nat) : AV → AV → AV → AV → AV → St → R AV :=
  @Nat.rec (fun _ => AV → AV → AV → AV → AV → St → R AV) (fun _ _ _ _ _ _ => .fail) (fun _ w => c73l8b e w) n

noncomputable def c73 (e : Ev) (a0 a1 a2 : AV) (s9999 : St) : R AV :=
  kFA (nat_lit 3) a0 (fun v2 s3 => kLoad1 v2 (fun v4 s5 => kLenL v4 (fun v6 s7 => c73l8 e fuelN a1 a2 v4 v6 (.int .i64 (.ofNat (nat_lit 0))) s7) s5) s3) s9999

theorem c73_ok (ev : Task → M AV) (a0 a1 a2 : AV) (s : St) : (stepN Try.prog ev (.call 73 [a0, a1, a2])).run s = c73 (runs ev) a0 a1 a2 s :=
  (call_is Try.prog (nt := (nat_lit 26)) Try.func73 rfl (by kernel_rfl) [a0, a1, a2] (by kernel_rfl) (w_seq (w_seq (w_as (fun f s => c73j0 (runs ev) s) w_any (fun _ _ => by kernel_rfl)) (w_seq (w_block (w_loop (fun n f s => c73l8 (runs ev) n (f 1) (f 2) (f 7) (f 8) (f 9) s) (fun _ _ => by kernel_rfl) (fun n10 => w_as _ w_any (fun _ _ => by kernel_rfl)))) w_any)) w_any) s).trans (by kernel_rfl)

noncomputable def c74 (e : Ev) (a0 a1 a2 : AV) (s9999 : St) : R AV :=
  kLoad1 a0 (fun v0 s1 => kFA (nat_lit 2) a1 (fun v2 s3 => kLoad1 v2 (fun v4 s5 => kLoad1 a2 (fun v6 s7 => kBind (e (.call (nat_lit 71) [v0, v4, v6])) (fun v8 s9 => .ok v8 s9) s7) s5) s3) s1) s9999

theorem c74_ok (ev : Task → M AV) (a0 a1 a2 : AV) (s : St) : (stepN Try.prog ev (.call 74 [a0, a1, a2])).run s = c74 (runs ev) a0 a1 a2 s :=
  (call_is Try.prog (nt := (nat_lit 9)) Try.func74 rfl (by kernel_rfl) [a0, a1, a2] (by kernel_rfl) w_any s).trans (by kernel_rfl)

noncomputable def c75j0 (e : Ev) (v1 : AV) (s2 : St) : R AV :=
  .ok v1 s2

noncomputable def c75l3b (e : Ev) (w4 : AV → AV → AV → St → R AV) (v6 v7 v8 : AV) (s9 : St) : R AV :=
  kLss Try.prog (nat_lit 3) v8 v6 (fun v10 s11 => kIf v10 (kMul Try.prog (nat_lit 3) (.int .i64 (.ofNat (nat_lit 2))) v7 (fun v12 s13 => kAdd Try.prog (nat_lit 3) v8 (.int .i64 (.ofNat (nat_lit 1))) (fun v14 s15 => w4 v6 v12 v14 s15) s13) s11) (c75j0 e v7 s11)) s9

noncomputable def c75l3 (e : Ev) (n : Nat) : AV → AV → AV → St → R AV :=
  @Nat.rec (fun _ => AV → AV → AV → St → R AV) (fun _ _ _ _ => .fail) (fun _ w => c75l3b e w) n

noncomputable def c75 (e : Ev) (a0 : AV) (s9999 : St) : R AV :=
  c75l3 e fuelN a0 (.int .i64 (.ofNat (nat_lit 1))) (.int .i64 (.ofNat (nat_lit 0))) s9999

theorem c75_ok (ev : Task → M AV) (a0 : AV) (s : St) : (stepN Try.prog ev (.call 75 [a0])).run s = c75 (runs ev) a0 s :=
  (call_is Try.prog (nt := (nat_lit 13)) Try.func75 rfl (by kernel_rfl) [a0] (by kernel_rfl) (w_seq (w_seq (w_seq (w_as (fun f s => c75j0 (runs ev) (f 3) s) w_any (fun _ _ => by kernel_rfl)) (w_seq (w_block (w_loop (fun n f s => c75l3 (runs ev) n (f 0) (f 3) (f 4) s) (fun _ _ => by kernel_rfl) (fun n5 => w_as _ w_any (fun _ _ => by kernel_rfl)))) w_any)) w_any) w_any) s).trans (by kernel_rfl)

noncomputable def c76k54 (e : Ev) (a0 v2 : AV) (s31 : St) : R AV :=
  kNilCheck a0 (fun v34 s35 => kFA (nat_lit 1) v34 (fun v36 s37 => kLoad1 v36 (fun v38 s39 => kAdd Try.prog (nat_lit 3) v38 (.int .i64 (.ofNat (nat_lit 1))) (fun v40 s41 => kNilCheck a0 (fun v42 s43 => kFA (nat_lit 1) v42 (fun v44 s45 => kStore (nat_lit 1) v44 v40 (fun v46 s47 => kFA (nat_lit 1) v2 (fun v48 s49 => kLoad1 v48 (fun v50 s51 => kBind (e (.call (nat_lit 48) [v50])) (fun v52 s53 => .ok v52 s53) s51) s49) s47) s45) s43) s41) s39) s37) s35) s31

noncomputable def c76k55 (e : Ev) (v20 v22 a0 v2 : AV) (s23 : St) : R AV :=
  kIf0 v20 (fun k s => kLoad1 v22 k s) (fun v24 s25 => kIf0 v20 (fun k s => kBind (e (.call (nat_lit 48) [v24])) k s) (fun v26 s27 => kIf0 v20 (fun k s => kEql Try.prog (nat_lit 3) v26 (.int .i64 (.ofNat (nat_lit 0))) k s) (fun v28 s29 => kPick v20 (.bool true) v28 (fun v30 s31 => kIf v30 (kBind (e (.call (nat_lit 39) [a0, (.int .i64 (.ofNat (nat_lit 12)))])) (fun v32 s33 => .ok (.int .i64 (.ofNat (nat_lit 0))) s33) s31) (c76k54 e a0 v2 s31)) s29) s27) s25) s23

noncomputable def c76k56 (e : Ev) (v10 v2 a0 : AV) (s11 : St) : R AV :=
  kNeq Try.prog (nat_lit 3) v10 (.int .i64 (.ofNat (nat_lit 0))) (fun v12 s13 => kIf0 v12 (fun k s => kFA (nat_lit 0) v2 k s) (fun v14 s15 => kIf0 v12 (fun k s => kLoad1 v14 k s) (fun v16 s17 => kIf0 v12 (fun k s => kNeq Try.prog (nat_lit 3) v16 (.int .i64 (.ofNat (nat_lit 3))) k s) (fun v18 s19 => kPick v12 (.bool true) v18 (fun v20 s21 => kIf0 v20 (fun k s => kFA (nat_lit 1) v2 k s) (fun v22 s23 => c76k55 e v20 v22 a0 v2 s23) s21) s19) s17) s15) s13) s11

noncomputable def c76 (e : Ev) (a0 : AV) (s9999 : St) : R AV :=
  kBind (e (.call (nat_lit 37) [a0])) (fun v0 s1 => kAlloc [(.int .i64 (.ofNat (nat_lit 0))), (.str (nat_lit 0) (nat_lit 0)), (.int .i64 (.ofNat (nat_lit 0))), (.int .i64 (.ofNat (nat_lit 0))), (.int .i64 (.ofNat (nat_lit 0))), (.int .i64 (.ofNat (nat_lit 0)))] (fun v2 s3 => kStore (nat_lit 6) v2 v0 (fun v4 s5 => kNilCheck a0 (fun v6 s7 => kFA (nat_lit 2) v6 (fun v8 s9 => kLoad1 v8 (fun v10 s11 => c76k56 e v10 v2 a0 s11) s9) s7) s5) s3) s1) s9999

theorem c76_ok (ev : Task → M AV) (a0 : AV) (s : St) : (stepN Try.prog ev (.call 76 [a0])).run s = c76 (runs ev) a0 s :=
  (call_is Try.prog (nt := (nat_lit 34)) Try.func76 rfl (by kernel_rfl) [a0] (by kernel_rfl) w_any s).trans (by kernel_rfl)

noncomputable def c77k52 (e : Ev) (v30 a0 v2 : AV) (s31 : St) : R AV :=
  kIf v30 (kBind (e (.call (nat_lit 39) [a0, (.int .i64 (.ofNat (nat_lit 12)))])) (fun v32 s33 => .ok (.int .i64 (.ofNat (nat_lit 0))) s33) s31) (kNilCheck a0 (fun v34 s35 => kFA (nat_lit 1) v34 (fun v36 s37 => kLoad1 v36 (fun v38 s39 => kAdd Try.prog (nat_lit 3) v38 (.int .i64 (.ofNat (nat_lit 1))) (fun v40 s41 => kNilCheck a0 (fun v42 s43 => kFA (nat_lit 1) v42 (fun v44 s45 => kStore (nat_lit 1) v44 v40 (fun v46 s47 => kFA (nat_lit 2) v2 (fun v48 s49 => kLoad1 v48 (fun v50 s51 => .ok v50 s51) s49) s47) s45) s43) s41) s39) s37) s35) s31)

noncomputable def c77k53 (e : Ev) (v12 v16 v2 a0 : AV) (s17 : St) : R AV :=
  kIf0 v12 (fun k s => kNeq Try.prog (nat_lit 3) v16 (.int .i64 (.ofNat (nat_lit 2))) k s) (fun v18 s19 => kPick v12 (.bool true) v18 (fun v20 s21 => kIf0 v20 (fun k s => kFA (nat_lit 3) v2 k s) (fun v22 s23 => kIf0 v20 (fun k s => kFA (nat_lit 0) v22 k s) (fun v24 s25 => kIf0 v20 (fun k s => kLoad1 v24 k s) (fun v26 s27 => kIf0 v20 (fun k s => kNeq Try.prog (nat_lit 3) v26 (.int .i64 (.ofNat (nat_lit 0))) k s) (fun v28 s29 => kPick v20 (.bool true) v28 (fun v30 s31 => c77k52 e v30 a0 v2 s31) s29) s27) s25) s23) s21) s19) s17

noncomputable def c77k54 (e : Ev) (v0 a0 : AV) (s1 : St) : R AV :=
  kAlloc [(.int .i64 (.ofNat (nat_lit 0))), (.str (nat_lit 0) (nat_lit 0)), (.int .i64 (.ofNat (nat_lit 0))), (.int .i64 (.ofNat (nat_lit 0))), (.int .i64 (.ofNat (nat_lit 0))), (.int .i64 (.ofNat (nat_lit 0)))] (fun v2 s3 => kStore (nat_lit 6) v2 v0 (fun v4 s5 => kNilCheck a0 (fun v6 s7 => kFA (nat_lit 2) v6 (fun v8 s9 => kLoad1 v8 (fun v10 s11 => kNeq Try.prog (nat_lit 3) v10 (.int .i64 (.ofNat (nat_lit 0))) (fun v12 s13 => kIf0 v12 (fun k s => kFA (nat_lit 0) v2 k s) (fun v14 s15 => kIf0 v12 (fun k s => kLoad1 v14 k s) (fun v16 s17 => c77k53 e v12 v16 v2 a0 s17) s15) s13) s11) s9) s7) s5) s3) s1

noncomputable def c77 (e : Ev) (a0 : AV) (s9999 : St) : R AV :=
  kBind (e (.call (nat_lit 37) [a0])) (fun v0 s1 => c77k54 e v0 a0 s1) s9999

theorem c77_ok (ev : Task → M AV) (a0 : AV) (s : St) : (stepN Try.prog ev (.call 77 [a0])).run s = c77 (runs ev) a0 s :=
  (call_is Try.prog (nt := (nat_lit 33)) Try.func77 rfl (by kernel_rfl) [a0] (by kernel_rfl) w_any s).trans (by kernel_rfl)

noncomputable def c78 (e : Ev) (a0 : AV) (s9999 : St) : R AV :=
  kAlloc [(.str (nat_lit 0) (nat_lit 0)), (.bool false)] (fun v0 s1 => kBind (e (.call (nat_lit 54) [a0, (.str (nat_lit 3) (nat_lit 7630702))])) (fun v2 s3 => kNot v2 (fun v4 s5 => kBind (e (.call (nat_lit 52) [a0])) (fun v6 s7 => kBuild [(.str (nat_lit 0) (nat_lit 0)), (.bool false)] [(some ((nat_lit 1), (nat_lit 1)), v4), (some ((nat_lit 0), (nat_lit 1)), v6)] (fun v8 s9 => kStore (nat_lit 2) v0 v8 (fun v10 s11 => kLoadN (nat_lit 2) v0 (fun v12 s13 => .ok v12 s13) s11) s9) s7) s5) s3) s1) s9999

theorem c78_ok (ev : Task → M AV) (a0 : AV) (s : St) : (stepN Try.prog ev (.call 78 [a0])).run s = c78 (runs ev) a0 s :=
  (call_is Try.prog (nt := (nat_lit 11)) Try.func78 rfl (by kernel_rfl) [a0] (by kernel_rfl) w_any s).trans (by kernel_rfl)

noncomputable def c79k53 (e : Ev) (v29 v31 v30 : AV) (s34 : St) : R AV :=
  kBind (e (.call (nat_lit 56) [v29])) (fun v35 s36 => kFA (nat_lit 4) v31 (fun v37 s38 => kStore (nat_lit 1) v37 v35 (fun v39 s40 => kBind (e (.call (nat_lit 81) [v29, (.str (nat_lit 5) (nat_lit 465625706101))])) (fun v41 s42 => kFA (nat_lit 2) v31 (fun v43 s44 => kStore (nat_lit 1) v43 v41 (fun v45 s46 => kLoadN (nat_lit 6) v31 (fun v47 s48 => kStore (nat_lit 6) v30 v47 (fun v49 s50 => kLoadN (nat_lit 6) v30 (fun v51 s52 => .ok v51 s52) s50) s48) s46) s44) s42) s40) s38) s36) s34

noncomputable def c79j28 (e : Ev) (v29 v30 v31 : AV) (s32 : St) : R AV :=
  kBind (e (.call (nat_lit 51) [v29, (.str (nat_lit 2) (nat_lit 28516))])) (fun v33 s34 => c79k53 e v29 v31 v30 s34) s32

noncomputable def c79k60 (e : Ev) (a0 v8 v0 : AV) (s19 : St) : R AV :=
  kBind (e (.call (nat_lit 81) [a0, (.str (nat_lit 6) (nat_lit 126939460038261))])) (fun v20 s21 => kFA (nat_lit 1) v8 (fun v22 s23 => kStore (nat_lit 1) v22 v20 (fun v24 s25 => kBind (e (.call (nat_lit 54) [a0, (.str (nat_lit 3) (nat_lit 7496054))])) (fun v26 s27 => kIf v26 (kBind (e (.call (nat_lit 55) [a0])) (fun v54 s55 => kFA (nat_lit 3) v8 (fun v56 s57 => kStore (nat_lit 1) v56 v54 (fun v58 s59 => c79j28 e a0 v0 v8 s59) s57) s55) s27) (c79j28 e a0 v0 v8 s27)) s25) s23) s21) s19

noncomputable def c79k61 (e : Ev) (v4 a0 v0 : AV) (s5 : St) : R AV :=
  kBuild [(.str (nat_lit 0) (nat_lit 0)), .nilslice, .nilslice, .nilslice, .nilslice, (.int .i64 (.ofNat (nat_lit 0)))] [(some ((nat_lit 5), (nat_lit 1)), v4)] (fun v6 s7 => kAlloc [(.str (nat_lit 0) (nat_lit 0)), .nilslice, .nilslice, .nilslice, .nilslice, (.int .i64 (.ofNat (nat_lit 0)))] (fun v8 s9 => kStore (nat_lit 6) v8 v6 (fun v10 s11 => kBind (e (.call (nat_lit 51) [a0, (.str (nat_lit 5) (nat_lit 435744240755))])) (fun v12 s13 => kBind (e (.call (nat_lit 52) [a0])) (fun v14 s15 => kFA (nat_lit 0) v8 (fun v16 s17 => kStore (nat_lit 1) v16 v14 (fun v18 s19 => c79k60 e a0 v8 v0 s19) s17) s15) s13) s11) s9) s7) s5

noncomputable def c79 (e : Ev) (a0 : AV) (s9999 : St) : R AV :=
  kAlloc [(.str (nat_lit 0) (nat_lit 0)), .nilslice, .nilslice, .nilslice, .nilslice, (.int .i64 (.ofNat (nat_lit 0)))] (fun v0 s1 => kBind (e (.call (nat_lit 37) [a0])) (fun v2 s3 => kPart1 (nat_lit 5) v2 (fun v4 s5 => c79k61 e v4 a0 v0 s5) s3) s1) s9999

theorem c79_ok (ev : Task → M AV) (a0 : AV) (s : St) : (stepN Try.prog ev (.call 79 [a0])).run s = c79 (runs ev) a0 s :=
  (call_is Try.prog (nt := (nat_lit 32)) Try.func79 rfl (by kernel_rfl) [a0] (by kernel_rfl) (w_seq (w_seq (w_seq (w_seq (w_seq (w_seq (w_seq (w_as (fun f s => c79j28 (runs ev) (f 0) (f 2) (f 3) s) w_any (fun _ _ => by kernel_rfl)) w_any) w_any) w_any) w_any) w_any) w_any) w_any) s).trans (by kernel_rfl)

noncomputable def c80k38 (e : Ev) (a0 v14 v0 : AV) (s17 : St) : R AV :=
  kNilCheck a0 (fun v18 s19 => kFA (nat_lit 4) v18 (fun v20 s21 => kLoad1 v20 (fun v22 s23 => kSub Try.prog (nat_lit 3) v22 (.int .i64 (.ofNat (nat_lit 1))) (fun v24 s25 => kNilCheck a0 (fun v26 s27 => kFA (nat_lit 4) v26 (fun v28 s29 => kStore (nat_lit 1) v28 v24 (fun v30 s31 => kLoadN (nat_lit 9) v14 (fun v32 s33 => kStore (nat_lit 9) v0 v32 (fun v34 s35 => kLoadN (nat_lit 9) v0 (fun v36 s37 => .ok v36 s37) s35) s33) s31) s29) s27) s25) s23) s21) s19) s17

noncomputable def c80k39 (e : Ev) (v4 v0 a0 : AV) (s5 : St) : R AV :=
  kIf v4 (kBuild [(.int .i64 (.ofNat (nat_lit 0))), (.int .i64 (.ofNat (nat_lit 0))), (.str (nat_lit 0) (nat_lit 0)), (.int .i64 (.ofNat (nat_lit 0))), (.int .i64 (.ofNat (nat_lit 0))), (.int .i64 (.ofNat (nat_lit 0))), (.int .i64 (.ofNat (nat_lit 0))), .nilslice, (.int .i64 (.ofNat (nat_lit 0)))] [] (fun v6 s7 => kStore (nat_lit 9) v0 v6 (fun v8 s9 => kLoadN (nat_lit 9) v0 (fun v10 s11 => .ok v10 s11) s9) s7) s5) (kBind (e (.call (nat_lit 83) [a0])) (fun v12 s13 => kAlloc [(.int .i64 (.ofNat (nat_lit 0))), (.int .i64 (.ofNat (nat_lit 0))), (.str (nat_lit 0) (nat_lit 0)), (.int .i64 (.ofNat (nat_lit 0))), (.int .i64 (.ofNat (nat_lit 0))), (.int .i64 (.ofNat (nat_lit 0))), (.int .i64 (.ofNat (nat_lit 0))), .nilslice, (.int .i64 (.ofNat (nat_lit 0)))] (fun v14 s15 => kStore (nat_lit 9) v14 v12 (fun v16 s17 => c80k38 e a0 v14 v0 s17) s15) s13) s5)

noncomputable def c80 (e : Ev) (a0 : AV) (s9999 : St) : R AV :=
  kAlloc [(.int .i64 (.ofNat (nat_lit 0))), (.int .i64 (.ofNat (nat_lit 0))), (.str (nat_lit 0) (nat_lit 0)), (.int .i64 (.ofNat (nat_lit 0))), (.int .i64 (.ofNat (nat_lit 0))), (.int .i64 (.ofNat (nat_lit 0))), (.int .i64 (.ofNat (nat_lit 0))), .nilslice, (.int .i64 (.ofNat (nat_lit 0)))] (fun v0 s1 => kBind (e (.call (nat_lit 82) [a0])) (fun v2 s3 => kNot v2 (fun v4 s5 => c80k39 e v4 v0 a0 s5) s3) s1) s9999

theorem c80_ok (ev : Task → M AV) (a0 : AV) (s : St) : (stepN Try.prog ev (.call 80 [a0])).run s = c80 (runs ev) a0 s :=
  (call_is Try.prog (nt := (nat_lit 20)) Try.func80 rfl (by kernel_rfl) [a0] (by kernel_rfl) w_any s).trans (by kernel_rfl)

noncomputable def c81k71 (e : Ev) (w1 : AV → AV → AV → St → R AV) (v65 v54 v52 v53 : AV) (s66 : St) : R AV :=
  kBuildSl [(.int .i64 (.ofNat (nat_lit 0))), (.int .i64 (.ofNat (nat_lit 0))), (.str (nat_lit 0) (nat_lit 0)), (.int .i64 (.ofNat (nat_lit 0))), (.int .i64 (.ofNat (nat_lit 0))), (.int .i64 (.ofNat (nat_lit 0))), (.int .i64 (.ofNat (nat_lit 0))), .nilslice, (.int .i64 (.ofNat (nat_lit 0))), (.str (nat_lit 0) (nat_lit 0)), (.bool false), (.int .i64 (.ofNat (nat_lit 0)))] (nat_lit 1) [(some ((nat_lit 0), (nat_lit 12)), v65)] (fun v67 s68 => kApp (nat_lit 12) (nat_lit 128) v54 v67 (fun v69 s70 => w1 v52 v53 v69 s70) s68) s66

noncomputable def c81j51 (e : Ev) (w1 : AV → AV → AV → St → R AV) (v52 v53 v54 v55 : AV) (s56 : St) : R AV :=
  kBind (e (.call (nat_lit 52) [v52])) (fun v57 s58 => kFA (nat_lit 9) v55 (fun v59 s60 => kStore (nat_lit 1) v59 v57 (fun v61 s62 => kBind (e (.call (nat_lit 51) [v52, (.str (nat_lit 1) (nat_lit 59))])) (fun v63 s64 => kLoadN (nat_lit 12) v55 (fun v65 s66 => c81k71 e w1 v65 v54 v52 v53 s66) s64) s62) s60) s58) s56

noncomputable def c81k80 (e : Ev) (w1 : AV → AV → AV → St → R AV) (v3 v35 v4 v5 : AV) (s44 : St) : R AV :=
  kBind (e (.call (nat_lit 54) [v3, (.str (nat_lit 8) (nat_lit 7310870969309884259))])) (fun v45 s46 => kFA (nat_lit 10) v35 (fun v47 s48 => kStore (nat_lit 1) v47 v45 (fun v49 s50 => kFA (nat_lit 10) v35 (fun v72 s73 => kLoad1 v72 (fun v74 s75 => kNot v74 (fun v76 s77 => kIf v76 (kBind (e (.call (nat_lit 51) [v3, (.str (nat_lit 4) (nat_lit 1852139636))])) (fun v78 s79 => c81j51 e w1 v3 v4 v5 v35 s79) s77) (c81j51 e w1 v3 v4 v5 v35 s77)) s75) s73) s50) s48) s46) s44

noncomputable def c81k81 (e : Ev) (w1 : AV → AV → AV → St → R AV) (v33 v3 v4 v5 : AV) (s34 : St) : R AV :=
  kAlloc [(.int .i64 (.ofNat (nat_lit 0))), (.int .i64 (.ofNat (nat_lit 0))), (.str (nat_lit 0) (nat_lit 0)), (.int .i64 (.ofNat (nat_lit 0))), (.int .i64 (.ofNat (nat_lit 0))), (.int .i64 (.ofNat (nat_lit 0))), (.int .i64 (.ofNat (nat_lit 0))), .nilslice, (.int .i64 (.ofNat (nat_lit 0))), (.str (nat_lit 0) (nat_lit 0)), (.bool false), (.int .i64 (.ofNat (nat_lit 0)))] (fun v35 s36 => kStore (nat_lit 12) v35 v33 (fun v37 s38 => kBind (e (.call (nat_lit 80) [v3])) (fun v39 s40 => kFA (nat_lit 0) v35 (fun v41 s42 => kStore (nat_lit 9) v41 v39 (fun v43 s44 => c81k80 e w1 v3 v35 v4 v5 s44) s42) s40) s38) s36) s34

noncomputable def c81k82 (e : Ev) (w1 : AV → AV → AV → St → R AV) (v31 v3 v4 v5 : AV) (s32 : St) : R AV :=
  kBuild [(.int .i64 (.ofNat (nat_lit 0))), (.int .i64 (.ofNat (nat_lit 0))), (.str (nat_lit 0) (nat_lit 0)), (.int .i64 (.ofNat (nat_lit 0))), (.int .i64 (.ofNat (nat_lit 0))), (.int .i64 (.ofNat (nat_lit 0))), (.int .i64 (.ofNat (nat_lit 0))), .nilslice, (.int .i64 (.ofNat (nat_lit 0))), (.str (nat_lit 0) (nat_lit 0)), (.bool false), (.int .i64 (.ofNat (nat_lit 0)))] [(some ((nat_lit 11), (nat_lit 1)), v31)] (fun v33 s34 => c81k81 e w1 v33 v3 v4 v5 s34) s32

noncomputable def c81k83 (e : Ev) (w1 : AV → AV → AV → St → R AV) (v13 v5 v3 v4 : AV) (s14 : St) : R AV :=
  kIf v13 (.ok v5 s14) (kNilCheck v3 (fun v15 s16 => kFA (nat_lit 1) v15 (fun v17 s18 => kLoad1 v17 (fun v19 s20 => kAdd Try.prog (nat_lit 3) v19 (.int .i64 (.ofNat (nat_lit 1))) (fun v21 s22 => kNilCheck v3 (fun v23 s24 => kFA (nat_lit 1) v23 (fun v25 s26 => kStore (nat_lit 1) v25 v21 (fun v27 s28 => kBind (e (.call (nat_lit 37) [v3])) (fun v29 s30 => kPart1 (nat_lit 5) v29 (fun v31 s32 => c81k82 e w1 v31 v3 v4 v5 s32) s30) s28) s26) s24) s22) s20) s18) s16) s14)

noncomputable def c81l0b (e : Ev) (w1 : AV → AV → AV → St → R AV) (v3 v4 v5 : AV) (s6 : St) : R AV :=
  kBind (e (.call (nat_lit 38) [v3, v4])) (fun v7 s8 => kNot v7 (fun v9 s10 => kIf v9 (.ok v5 s10) (kLenL v5 (fun v11 s12 => kBind (e (.call (nat_lit 40) [v3, v11, (.int .i64 (.ofNat (nat_lit 16)))])) (fun v13 s14 => c81k83 e w1 v13 v5 v3 v4 s14) s12) s10)) s8) s6

noncomputable def c81l0 (e : Ev) (n : Nat) : AV → AV → AV → St → R AV :=
  @Nat.rec (fun _ => AV → AV → AV → St → R AV) (fun _ _ _ _ => .fail) (fun _ w => c81l0b e w) n

noncomputable def c81 (e : Ev) (a0 a1 : AV) (s9999 : St) : R AV :=
  c81l0 e fuelN a0 a1 .nilslice s9999

theorem c81_ok (ev : Task → M AV) (a0 a1 : AV) (s : St) : (stepN Try.prog ev (.call 81 [a0, a1])).run s = c81 (runs ev) a0 a1 s :=
  (call_is Try.prog (nt := (nat_lit 52)) Try.func81 rfl (by kernel_rfl) [a0, a1] (by kernel_rfl) (w_seq (w_seq (w_block (w_loop (fun n f s => c81l0 (runs ev) n (f 0) (f 1) (f 5) s) (fun _ _ => by kernel_rfl) (fun n2 => w_as _ (w_block (w_seq (w_seq (w_seq (w_seq (w_seq (w_seq (w_seq (w_seq (w_seq (w_as (fun f s => c81j51 (runs ev) (c81l0 (runs ev) n2) (f 0) (f 1) (f 5) (f 8) s) w_any (fun _ _ => by kernel_rfl)) w_any) w_any) w_any) w_any) w_any) w_any) w_any) w_any) w_any)) (fun _ _ => by kernel_rfl)))) w_any) w_any) s).trans (by kernel_rfl)

noncomputable def c82k24 (e : Ev) (a0 v6 : AV) (s7 : St) : R AV :=
  kNilCheck a0 (fun v8 s9 => kFA (nat_lit 4) v8 (fun v10 s11 => kStore (nat_lit 1) v10 v6 (fun v12 s13 => kNilCheck a0 (fun v14 s15 => kFA (nat_lit 4) v14 (fun v16 s17 => kLoad1 v16 (fun v18 s19 => kGtr Try.prog (nat_lit 3) v18 (.int .i64 (.ofNat (nat_lit 40))) (fun v20 s21 => kIf v20 (kBind (e (.call (nat_lit 39) [a0, (.int .i64 (.ofNat (nat_lit 2)))])) (fun v22 s23 => .ok (.bool false) s23) s21) (.ok (.bool true) s21)) s19) s17) s15) s13) s11) s9) s7

noncomputable def c82 (e : Ev) (a0 : AV) (s9999 : St) : R AV :=
  kNilCheck a0 (fun v0 s1 => kFA (nat_lit 4) v0 (fun v2 s3 => kLoad1 v2 (fun v4 s5 => kAdd Try.prog (nat_lit 3) v4 (.int .i64 (.ofNat (nat_lit 1))) (fun v6 s7 => c82k24 e a0 v6 s7) s5) s3) s1) s9999

theorem c82_ok (ev : Task → M AV) (a0 : AV) (s : St) : (stepN Try.prog ev (.call 82 [a0])).run s = c82 (runs ev) a0 s :=
  (call_is Try.prog (nt := (nat_lit 17)) Try.func82 rfl (by kernel_rfl) [a0] (by kernel_rfl) w_any s).trans (by kernel_rfl)

noncomputable def c83k34 (e : Ev) (v18 v4 v0 : AV) (s19 : St) : R AV :=
  kAlloc [(.int .i64 (.ofNat (nat_lit 0))), (.int .i64 (.ofNat (nat_lit 0))), (.str (nat_lit 0) (nat_lit 0)), (.int .i64 (.ofNat (nat_lit 0))), (.int .i64 (.ofNat (nat_lit 0))), (.int .i64 (.ofNat (nat_lit 0))), (.int .i64 (.ofNat (nat_lit 0))), .nilslice, (.int .i64 (.ofNat (nat_lit 0)))] (fun v20 s21 => kStore (nat_lit 9) v20 v18 (fun v22 s23 => kLoadN (nat_lit 9) v4 (fun v24 s25 => kLoadN (nat_lit 9) v20 (fun v26 s27 => kBind (e (.call (nat_lit 85) [(.int .i64 (.ofNat (nat_lit 7))), (.int .i64 (.ofNat (nat_lit 0))), v24, v26])) (fun v28 s29 => kStore (nat_lit 9) v0 v28 (fun v30 s31 => kLoadN (nat_lit 9) v0 (fun v32 s33 => .ok v32 s33) s31) s29) s27) s25) s23) s21) s19

noncomputable def c83k35 (e : Ev) (v2 a0 v0 : AV) (s3 : St) : R AV :=
  kAlloc [(.int .i64 (.ofNat (nat_lit 0))), (.int .i64 (.ofNat (nat_lit 0))), (.str (nat_lit 0) (nat_lit 0)), (.int .i64 (.ofNat (nat_lit 0))), (.int .i64 (.ofNat (nat_lit 0))), (.int .i64 (.ofNat (nat_lit 0))), (.int .i64 (.ofNat (nat_lit 0))), .nilslice, (.int .i64 (.ofNat (nat_lit 0)))] (fun v4 s5 => kStore (nat_lit 9) v4 v2 (fun v6 s7 => kBind (e (.call (nat_lit 54) [a0, (.str (nat_lit 2) (nat_lit 15917))])) (fun v8 s9 => kNot v8 (fun v10 s11 => kIf v10 (kLoadN (nat_lit 9) v4 (fun v12 s13 => kStore (nat_lit 9) v0 v12 (fun v14 s15 => kLoadN (nat_lit 9) v0 (fun v16 s17 => .ok v16 s17) s15) s13) s11) (kBind (e (.call (nat_lit 83) [a0])) (fun v18 s19 => c83k34 e v18 v4 v0 s19) s11)) s9) s7) s5) s3

noncomputable def c83 (e : Ev) (a0 : AV) (s9999 : St) : R AV :=
  kAlloc [(.int .i64 (.ofNat (nat_lit 0))), (.int .i64 (.ofNat (nat_lit 0))), (.str (nat_lit 0) (nat_lit 0)), (.int .i64 (.ofNat (nat_lit 0))), (.int .i64 (.ofNat (nat_lit 0))), (.int .i64 (.ofNat (nat_lit 0))), (.int .i64 (.ofNat (nat_lit 0))), .nilslice, (.int .i64 (.ofNat (nat_lit 0)))] (fun v0 s1 => kBind (e (.call (nat_lit 84) [a0])) (fun v2 s3 => c83k35 e v2 a0 v0 s3) s1) s9999

theorem c83_ok (ev : Task → M AV) (a0 : AV) (s : St) : (stepN Try.prog ev (.call 83 [a0])).run s = c83 (runs ev) a0 s :=
  (call_is Try.prog (nt := (nat_lit 18)) Try.func83 rfl (by kernel_rfl) [a0] (by kernel_rfl) w_any s).trans (by kernel_rfl)

noncomputable def c84k34 (e : Ev) (v18 v4 v0 : AV) (s19 : St) : R AV :=
  kAlloc [(.int .i64 (.ofNat (nat_lit 0))), (.int .i64 (.ofNat (nat_lit 0))), (.str (nat_lit 0) (nat_lit 0)), (.int .i64 (.ofNat (nat_lit 0))), (.int .i64 (.ofNat (nat_lit 0))), (.int .i64 (.ofNat (nat_lit 0))), (.int .i64 (.ofNat (nat_lit 0))), .nilslice, (.int .i64 (.ofNat (nat_lit 0)))] (fun v20 s21 => kStore (nat_lit 9) v20 v18 (fun v22 s23 => kLoadN (nat_lit 9) v4 (fun v24 s25 => kLoadN (nat_lit 9) v20 (fun v26 s27 => kBind (e (.call (nat_lit 85) [(.int .i64 (.ofNat (nat_lit 8))), (.int .i64 (.ofNat (nat_lit 0))), v24, v26])) (fun v28 s29 => kStore (nat_lit 9) v0 v28 (fun v30 s31 => kLoadN (nat_lit 9) v0 (fun v32 s33 => .ok v32 s33) s31) s29) s27) s25) s23) s21) s19

noncomputable def c84k35 (e : Ev) (v2 a0 v0 : AV) (s3 : St) : R AV :=
  kAlloc [(.int .i64 (.ofNat (nat_lit 0))), (.int .i64 (.ofNat (nat_lit 0))), (.str (nat_lit 0) (nat_lit 0)), (.int .i64 (.ofNat (nat_lit 0))), (.int .i64 (.ofNat (nat_lit 0))), (.int .i64 (.ofNat (nat_lit 0))), (.int .i64 (.ofNat (nat_lit 0))), .nilslice, (.int .i64 (.ofNat (nat_lit 0)))] (fun v4 s5 => kStore (nat_lit 9) v4 v2 (fun v6 s7 => kBind (e (.call (nat_lit 54) [a0, (.str (nat_lit 3) (nat_lit 7955046))])) (fun v8 s9 => kNot v8 (fun v10 s11 => kIf v10 (kLoadN (nat_lit 9) v4 (fun v12 s13 => kStore (nat_lit 9) v0 v12 (fun v14 s15 => kLoadN (nat_lit 9) v0 (fun v16 s17 => .ok v16 s17) s15) s13) s11) (kBind (e (.call (nat_lit 84) [a0])) (fun v18 s19 => c84k34 e v18 v4 v0 s19) s11)) s9) s7) s5) s3

noncomputable def c84 (e : Ev) (a0 : AV) (s9999 : St) : R AV :=
  kAlloc [(.int .i64 (.ofNat (nat_lit 0))), (.int .i64 (.ofNat (nat_lit 0))), (.str (nat_lit 0) (nat_lit 0)), (.int .i64 (.ofNat (nat_lit 0))), (.int .i64 (.ofNat (nat_lit 0))), (.int .i64 (.ofNat (nat_lit 0))), (.int .i64 (.ofNat (nat_lit 0))), .nilslice, (.int .i64 (.ofNat (nat_lit 0)))] (fun v0 s1 => kBind (e (.call (nat_lit 86) [a0])) (fun v2 s3 => c84k35 e v2 a0 v0 s3) s1) s9999

theorem c84_ok (ev : Task → M AV) (a0 : AV) (s : St) : (stepN Try.prog ev (.call 84 [a0])).run s = c84 (runs ev) a0 s :=
  (call_is Try.prog (nt := (nat_lit 18)) Try.func84 rfl (by kernel_rfl) [a0] (by kernel_rfl) w_any s).trans (by kernel_rfl)

noncomputable def c85k22 (e : Ev) (a0 a1 v10 v14 v4 : AV) (s15 : St) : R AV :=
  kBuild [(.int .i64 (.ofNat (nat_lit 0))), (.int .i64 (.ofNat (nat_lit 0))), (.str (nat_lit 0) (nat_lit 0)), (.int .i64 (.ofNat (nat_lit 0))), (.int .i64 (.ofNat (nat_lit 0))), (.int .i64 (.ofNat (nat_lit 0))), (.int .i64 (.ofNat (nat_lit 0))), .nilslice, (.int .i64 (.ofNat (nat_lit 0)))] [(some ((nat_lit 0), (nat_lit 1)), a0), (some ((nat_lit 1), (nat_lit 1)), a1), (some ((nat_lit 7), (nat_lit 1)), v10), (some ((nat_lit 8), (nat_lit 1)), v14)] (fun v16 s17 => kStore (nat_lit 9) v4 v16 (fun v18 s19 => kLoadN (nat_lit 9) v4 (fun v20 s21 => .ok v20 s21) s19) s17) s15

noncomputable def c85k23 (e : Ev) (v6 v8 v0 a0 a1 v4 : AV) (s9 : St) : R AV :=
  kBuildSl [(.int .i64 (.ofNat (nat_lit 0))), (.int .i64 (.ofNat (nat_lit 0))), (.str (nat_lit 0) (nat_lit 0)), (.int .i64 (.ofNat (nat_lit 0))), (.int .i64 (.ofNat (nat_lit 0))), (.int .i64 (.ofNat (nat_lit 0))), (.int .i64 (.ofNat (nat_lit 0))), .nilslice, (.int .i64 (.ofNat (nat_lit 0))), (.int .i64 (.ofNat (nat_lit 0))), (.int .i64 (.ofNat (nat_lit 0))), (.str (nat_lit 0) (nat_lit 0)), (.int .i64 (.ofNat (nat_lit 0))), (.int .i64 (.ofNat (nat_lit 0))), (.int .i64 (.ofNat (nat_lit 0))), (.int .i64 (.ofNat (nat_lit 0))), .nilslice, (.int .i64 (.ofNat (nat_lit 0)))] (nat_lit 2) [(some ((nat_lit 0), (nat_lit 9)), v6), (some ((nat_lit 9), (nat_lit 9)), v8)] (fun v10 s11 => kFA (nat_lit 8) v0 (fun v12 s13 => kLoad1 v12 (fun v14 s15 => c85k22 e a0 a1 v10 v14 v4 s15) s13) s11) s9

noncomputable def c85 (e : Ev) (a0 a1 a2 a3 : AV) (s9999 : St) : R AV :=
  kBox a2 (fun v0 s1 => kBox a3 (fun v2 s3 => kAlloc [(.int .i64 (.ofNat (nat_lit 0))), (.int .i64 (.ofNat (nat_lit 0))), (.str (nat_lit 0) (nat_lit 0)), (.int .i64 (.ofNat (nat_lit 0))), (.int .i64 (.ofNat (nat_lit 0))), (.int .i64 (.ofNat (nat_lit 0))), (.int .i64 (.ofNat (nat_lit 0))), .nilslice, (.int .i64 (.ofNat (nat_lit 0)))] (fun v4 s5 => kLoadN (nat_lit 9) v0 (fun v6 s7 => kLoadN (nat_lit 9) v2 (fun v8 s9 => c85k23 e v6 v8 v0 a0 a1 v4 s9) s7) s5) s3) s1) s9999

theorem c85_ok (ev : Task → M AV) (a0 a1 a2 a3 : AV) (s : St) : (stepN Try.prog ev (.call 85 [a0, a1, a2, a3])).run s = c85 (runs ev) a0 a1 a2 a3 s :=
  (call_is Try.prog (nt := (nat_lit 17)) Try.func85 rfl (by kernel_rfl) [a0, a1, a2, a3] (by kernel_rfl) w_any s).trans (by kernel_rfl)


end Go.Proofs.YtlonlfiaclacdaaK
