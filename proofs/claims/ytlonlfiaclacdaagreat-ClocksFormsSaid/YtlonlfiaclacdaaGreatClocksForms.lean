/-
  ClocksForms: the law returns true, whatever it is called at; no condition.
  The walk is by a verified evaluator of the translated code (YtlonlfiaclacdaaGreatAb1 .. YtlonlfiaclacdaaGreatAb24, and the functions written out for the kernel, YtlonlfiaclacdaaGreatK1 ..: own work), which the kernel runs, case by case.
-/
import Derived.Test.YtlonlfiaclacdaaGreatRows
import Derived.WalkKit
import Derived.ProofKit
import Derived.OpenShut
import Derived.Test.YtlonlfiaclacdaaGreatClocksFormsC1
import Derived.Test.YtlonlfiaclacdaaGreatClocksFormsC2
import Derived.Test.YtlonlfiaclacdaaGreatClocksFormsC3
import Derived.Test.YtlonlfiaclacdaaGreatClocksFormsC4
import Derived.KernelRfl
namespace Go.Proofs.YtlonlfiaclacdaaGreat.clocksForms
open Go.ChangeShapes Go.WideShapes Go.ChangeAt Go.RowKit
set_option linter.unusedVariables false      -- a walk need not use every 'w<i>' (that an integer argument fits its kind)

theorem own : ownKnob Tryz.prog.godebug = none := by kernel_rfl

/-! ### STEP 1: THE WALK, by the evaluator -/
theorem ext : Go.Ab.ExtOk Tryz.prog := Go.Ab.extOk_of_noClone (by kernel_rfl)
theorem run {avs : List Go.Ab.AV} {cargs : List Value} {w : World} (h : Go.Ab.evalsK YtlonlfiaclacdaaGreatK.table memo (nat_lit 300) (nat_lit 8) avs = true) (ha : Go.Ab.VRs (fun _ _ => none) avs cargs) :
    Calls Tryz.prog 8 cargs.toArray w fun e w' => e = .returned (.bool true) ∧ Grown w w' :=
  Go.Ab.calls_of_evalsK YtlonlfiaclacdaaGreatK.table memo ext h ha
theorem walk (a0 : Int) (a1 : Int) (w0 : (Lit.int .i64 a0).wf = true) (w1 : (Lit.int .i64 a1).wf = true) (w : World) :
    Calls Tryz.prog 8 #[.int .i64 a0, .int .i64 a1] w fun e w' => e = .returned (.bool true) ∧ Grown w w' := by
  have b0 : (-9223372036854775808 : Int) ≤ a0 ∧ a0 ≤ 9223372036854775807 := by simpa [Lit.wf, IntKind.min, IntKind.max, IntKind.signed, IntKind.bits] using w0
  have b1 : (-9223372036854775808 : Int) ≤ a1 ∧ a1 ≤ 9223372036854775807 := by simpa [Lit.wf, IntKind.min, IntKind.max, IntKind.signed, IntKind.bits] using w1
  have d0 : ((-9223372036854775808) ≤ a0 ∧ a0 ≤ (-1)) ∨ (28 ≤ a0 ∧ a0 ≤ 9223372036854775807) ∨ a0 = 0 ∨ a0 = 1 ∨ a0 = 2 ∨ a0 = 3 ∨ a0 = 4 ∨ a0 = 5 ∨ a0 = 6 ∨ a0 = 7 ∨ a0 = 8 ∨ a0 = 9 ∨ a0 = 10 ∨ a0 = 11 ∨ a0 = 12 ∨ a0 = 13 ∨ a0 = 14 ∨ a0 = 15 ∨ a0 = 16 ∨ a0 = 17 ∨ a0 = 18 ∨ a0 = 19 ∨ a0 = 20 ∨ a0 = 21 ∨ a0 = 22 ∨ a0 = 23 ∨ a0 = 24 ∨ a0 = 25 ∨ a0 = 26 ∨ a0 = 27 := by omega
  rcases d0 with h0 | h0 | rfl | rfl | rfl | rfl | rfl | rfl | rfl | rfl | rfl | rfl | rfl | rfl | rfl | rfl | rfl | rfl | rfl | rfl | rfl | rfl | rfl | rfl | rfl | rfl | rfl | rfl | rfl | rfl
  · have h1 : ((-9223372036854775808) ≤ a1 ∧ a1 ≤ 9223372036854775807) := by omega
    exact run e0 (.cons _ _ _ _ (.rng _ _ _ _ h0.1 h0.2) (.cons _ _ _ _ (.rng _ _ _ _ h1.1 h1.2) .nil))
  · have h1 : ((-9223372036854775808) ≤ a1 ∧ a1 ≤ 9223372036854775807) := by omega
    exact run e1 (.cons _ _ _ _ (.rng _ _ _ _ h0.1 h0.2) (.cons _ _ _ _ (.rng _ _ _ _ h1.1 h1.2) .nil))
  · have d1 : ((-9223372036854775808) ≤ a1 ∧ a1 ≤ (-1)) ∨ (3 ≤ a1 ∧ a1 ≤ 9223372036854775807) ∨ a1 = 0 ∨ a1 = 1 ∨ a1 = 2 := by omega
    rcases d1 with h1 | h1 | rfl | rfl | rfl
    · exact run e2 (.cons _ _ _ _ (.int _ _) (.cons _ _ _ _ (.rng _ _ _ _ h1.1 h1.2) .nil))
    · exact run e3 (.cons _ _ _ _ (.int _ _) (.cons _ _ _ _ (.rng _ _ _ _ h1.1 h1.2) .nil))
    · exact run e4 (.cons _ _ _ _ (.int _ _) (.cons _ _ _ _ (.int _ _) .nil))
    · exact run e5 (.cons _ _ _ _ (.int _ _) (.cons _ _ _ _ (.int _ _) .nil))
    · exact run e6 (.cons _ _ _ _ (.int _ _) (.cons _ _ _ _ (.int _ _) .nil))
  · have d1 : ((-9223372036854775808) ≤ a1 ∧ a1 ≤ (-1)) ∨ (3 ≤ a1 ∧ a1 ≤ 9223372036854775807) ∨ a1 = 0 ∨ a1 = 1 ∨ a1 = 2 := by omega
    rcases d1 with h1 | h1 | rfl | rfl | rfl
    · exact run e7 (.cons _ _ _ _ (.int _ _) (.cons _ _ _ _ (.rng _ _ _ _ h1.1 h1.2) .nil))
    · exact run e8 (.cons _ _ _ _ (.int _ _) (.cons _ _ _ _ (.rng _ _ _ _ h1.1 h1.2) .nil))
    · exact run e9 (.cons _ _ _ _ (.int _ _) (.cons _ _ _ _ (.int _ _) .nil))
    · exact run e10 (.cons _ _ _ _ (.int _ _) (.cons _ _ _ _ (.int _ _) .nil))
    · exact run e11 (.cons _ _ _ _ (.int _ _) (.cons _ _ _ _ (.int _ _) .nil))
  · have d1 : ((-9223372036854775808) ≤ a1 ∧ a1 ≤ (-1)) ∨ (3 ≤ a1 ∧ a1 ≤ 9223372036854775807) ∨ a1 = 0 ∨ a1 = 1 ∨ a1 = 2 := by omega
    rcases d1 with h1 | h1 | rfl | rfl | rfl
    · exact run e12 (.cons _ _ _ _ (.int _ _) (.cons _ _ _ _ (.rng _ _ _ _ h1.1 h1.2) .nil))
    · exact run e13 (.cons _ _ _ _ (.int _ _) (.cons _ _ _ _ (.rng _ _ _ _ h1.1 h1.2) .nil))
    · exact run e14 (.cons _ _ _ _ (.int _ _) (.cons _ _ _ _ (.int _ _) .nil))
    · exact run e15 (.cons _ _ _ _ (.int _ _) (.cons _ _ _ _ (.int _ _) .nil))
    · exact run e16 (.cons _ _ _ _ (.int _ _) (.cons _ _ _ _ (.int _ _) .nil))
  · have d1 : ((-9223372036854775808) ≤ a1 ∧ a1 ≤ (-1)) ∨ (3 ≤ a1 ∧ a1 ≤ 9223372036854775807) ∨ a1 = 0 ∨ a1 = 1 ∨ a1 = 2 := by omega
    rcases d1 with h1 | h1 | rfl | rfl | rfl
    · exact run e17 (.cons _ _ _ _ (.int _ _) (.cons _ _ _ _ (.rng _ _ _ _ h1.1 h1.2) .nil))
    · exact run e18 (.cons _ _ _ _ (.int _ _) (.cons _ _ _ _ (.rng _ _ _ _ h1.1 h1.2) .nil))
    · exact run e19 (.cons _ _ _ _ (.int _ _) (.cons _ _ _ _ (.int _ _) .nil))
    · exact run e20 (.cons _ _ _ _ (.int _ _) (.cons _ _ _ _ (.int _ _) .nil))
    · exact run e21 (.cons _ _ _ _ (.int _ _) (.cons _ _ _ _ (.int _ _) .nil))
  · have d1 : ((-9223372036854775808) ≤ a1 ∧ a1 ≤ (-1)) ∨ (3 ≤ a1 ∧ a1 ≤ 9223372036854775807) ∨ a1 = 0 ∨ a1 = 1 ∨ a1 = 2 := by omega
    rcases d1 with h1 | h1 | rfl | rfl | rfl
    · exact run e22 (.cons _ _ _ _ (.int _ _) (.cons _ _ _ _ (.rng _ _ _ _ h1.1 h1.2) .nil))
    · exact run e23 (.cons _ _ _ _ (.int _ _) (.cons _ _ _ _ (.rng _ _ _ _ h1.1 h1.2) .nil))
    · exact run e24 (.cons _ _ _ _ (.int _ _) (.cons _ _ _ _ (.int _ _) .nil))
    · exact run e25 (.cons _ _ _ _ (.int _ _) (.cons _ _ _ _ (.int _ _) .nil))
    · exact run e26 (.cons _ _ _ _ (.int _ _) (.cons _ _ _ _ (.int _ _) .nil))
  · have d1 : ((-9223372036854775808) ≤ a1 ∧ a1 ≤ (-1)) ∨ (3 ≤ a1 ∧ a1 ≤ 9223372036854775807) ∨ a1 = 0 ∨ a1 = 1 ∨ a1 = 2 := by omega
    rcases d1 with h1 | h1 | rfl | rfl | rfl
    · exact run e27 (.cons _ _ _ _ (.int _ _) (.cons _ _ _ _ (.rng _ _ _ _ h1.1 h1.2) .nil))
    · exact run e28 (.cons _ _ _ _ (.int _ _) (.cons _ _ _ _ (.rng _ _ _ _ h1.1 h1.2) .nil))
    · exact run e29 (.cons _ _ _ _ (.int _ _) (.cons _ _ _ _ (.int _ _) .nil))
    · exact run e30 (.cons _ _ _ _ (.int _ _) (.cons _ _ _ _ (.int _ _) .nil))
    · exact run e31 (.cons _ _ _ _ (.int _ _) (.cons _ _ _ _ (.int _ _) .nil))
  · have d1 : ((-9223372036854775808) ≤ a1 ∧ a1 ≤ (-1)) ∨ (3 ≤ a1 ∧ a1 ≤ 9223372036854775807) ∨ a1 = 0 ∨ a1 = 1 ∨ a1 = 2 := by omega
    rcases d1 with h1 | h1 | rfl | rfl | rfl
    · exact run e32 (.cons _ _ _ _ (.int _ _) (.cons _ _ _ _ (.rng _ _ _ _ h1.1 h1.2) .nil))
    · exact run e33 (.cons _ _ _ _ (.int _ _) (.cons _ _ _ _ (.rng _ _ _ _ h1.1 h1.2) .nil))
    · exact run e34 (.cons _ _ _ _ (.int _ _) (.cons _ _ _ _ (.int _ _) .nil))
    · exact run e35 (.cons _ _ _ _ (.int _ _) (.cons _ _ _ _ (.int _ _) .nil))
    · exact run e36 (.cons _ _ _ _ (.int _ _) (.cons _ _ _ _ (.int _ _) .nil))
  · have d1 : ((-9223372036854775808) ≤ a1 ∧ a1 ≤ (-1)) ∨ (3 ≤ a1 ∧ a1 ≤ 9223372036854775807) ∨ a1 = 0 ∨ a1 = 1 ∨ a1 = 2 := by omega
    rcases d1 with h1 | h1 | rfl | rfl | rfl
    · exact run e37 (.cons _ _ _ _ (.int _ _) (.cons _ _ _ _ (.rng _ _ _ _ h1.1 h1.2) .nil))
    · exact run e38 (.cons _ _ _ _ (.int _ _) (.cons _ _ _ _ (.rng _ _ _ _ h1.1 h1.2) .nil))
    · exact run e39 (.cons _ _ _ _ (.int _ _) (.cons _ _ _ _ (.int _ _) .nil))
    · exact run e40 (.cons _ _ _ _ (.int _ _) (.cons _ _ _ _ (.int _ _) .nil))
    · exact run e41 (.cons _ _ _ _ (.int _ _) (.cons _ _ _ _ (.int _ _) .nil))
  · have d1 : ((-9223372036854775808) ≤ a1 ∧ a1 ≤ (-1)) ∨ (3 ≤ a1 ∧ a1 ≤ 9223372036854775807) ∨ a1 = 0 ∨ a1 = 1 ∨ a1 = 2 := by omega
    rcases d1 with h1 | h1 | rfl | rfl | rfl
    · exact run e42 (.cons _ _ _ _ (.int _ _) (.cons _ _ _ _ (.rng _ _ _ _ h1.1 h1.2) .nil))
    · exact run e43 (.cons _ _ _ _ (.int _ _) (.cons _ _ _ _ (.rng _ _ _ _ h1.1 h1.2) .nil))
    · exact run e44 (.cons _ _ _ _ (.int _ _) (.cons _ _ _ _ (.int _ _) .nil))
    · exact run e45 (.cons _ _ _ _ (.int _ _) (.cons _ _ _ _ (.int _ _) .nil))
    · exact run e46 (.cons _ _ _ _ (.int _ _) (.cons _ _ _ _ (.int _ _) .nil))
  · have d1 : ((-9223372036854775808) ≤ a1 ∧ a1 ≤ (-1)) ∨ (3 ≤ a1 ∧ a1 ≤ 9223372036854775807) ∨ a1 = 0 ∨ a1 = 1 ∨ a1 = 2 := by omega
    rcases d1 with h1 | h1 | rfl | rfl | rfl
    · exact run e47 (.cons _ _ _ _ (.int _ _) (.cons _ _ _ _ (.rng _ _ _ _ h1.1 h1.2) .nil))
    · exact run e48 (.cons _ _ _ _ (.int _ _) (.cons _ _ _ _ (.rng _ _ _ _ h1.1 h1.2) .nil))
    · exact run e49 (.cons _ _ _ _ (.int _ _) (.cons _ _ _ _ (.int _ _) .nil))
    · exact run e50 (.cons _ _ _ _ (.int _ _) (.cons _ _ _ _ (.int _ _) .nil))
    · exact run e51 (.cons _ _ _ _ (.int _ _) (.cons _ _ _ _ (.int _ _) .nil))
  · have d1 : ((-9223372036854775808) ≤ a1 ∧ a1 ≤ (-1)) ∨ (3 ≤ a1 ∧ a1 ≤ 9223372036854775807) ∨ a1 = 0 ∨ a1 = 1 ∨ a1 = 2 := by omega
    rcases d1 with h1 | h1 | rfl | rfl | rfl
    · exact run e52 (.cons _ _ _ _ (.int _ _) (.cons _ _ _ _ (.rng _ _ _ _ h1.1 h1.2) .nil))
    · exact run e53 (.cons _ _ _ _ (.int _ _) (.cons _ _ _ _ (.rng _ _ _ _ h1.1 h1.2) .nil))
    · exact run e54 (.cons _ _ _ _ (.int _ _) (.cons _ _ _ _ (.int _ _) .nil))
    · exact run e55 (.cons _ _ _ _ (.int _ _) (.cons _ _ _ _ (.int _ _) .nil))
    · exact run e56 (.cons _ _ _ _ (.int _ _) (.cons _ _ _ _ (.int _ _) .nil))
  · have d1 : ((-9223372036854775808) ≤ a1 ∧ a1 ≤ (-1)) ∨ (3 ≤ a1 ∧ a1 ≤ 9223372036854775807) ∨ a1 = 0 ∨ a1 = 1 ∨ a1 = 2 := by omega
    rcases d1 with h1 | h1 | rfl | rfl | rfl
    · exact run e57 (.cons _ _ _ _ (.int _ _) (.cons _ _ _ _ (.rng _ _ _ _ h1.1 h1.2) .nil))
    · exact run e58 (.cons _ _ _ _ (.int _ _) (.cons _ _ _ _ (.rng _ _ _ _ h1.1 h1.2) .nil))
    · exact run e59 (.cons _ _ _ _ (.int _ _) (.cons _ _ _ _ (.int _ _) .nil))
    · exact run e60 (.cons _ _ _ _ (.int _ _) (.cons _ _ _ _ (.int _ _) .nil))
    · exact run e61 (.cons _ _ _ _ (.int _ _) (.cons _ _ _ _ (.int _ _) .nil))
  · have d1 : ((-9223372036854775808) ≤ a1 ∧ a1 ≤ (-1)) ∨ (3 ≤ a1 ∧ a1 ≤ 9223372036854775807) ∨ a1 = 0 ∨ a1 = 1 ∨ a1 = 2 := by omega
    rcases d1 with h1 | h1 | rfl | rfl | rfl
    · exact run e62 (.cons _ _ _ _ (.int _ _) (.cons _ _ _ _ (.rng _ _ _ _ h1.1 h1.2) .nil))
    · exact run e63 (.cons _ _ _ _ (.int _ _) (.cons _ _ _ _ (.rng _ _ _ _ h1.1 h1.2) .nil))
    · exact run e64 (.cons _ _ _ _ (.int _ _) (.cons _ _ _ _ (.int _ _) .nil))
    · exact run e65 (.cons _ _ _ _ (.int _ _) (.cons _ _ _ _ (.int _ _) .nil))
    · exact run e66 (.cons _ _ _ _ (.int _ _) (.cons _ _ _ _ (.int _ _) .nil))
  · have d1 : ((-9223372036854775808) ≤ a1 ∧ a1 ≤ (-1)) ∨ (3 ≤ a1 ∧ a1 ≤ 9223372036854775807) ∨ a1 = 0 ∨ a1 = 1 ∨ a1 = 2 := by omega
    rcases d1 with h1 | h1 | rfl | rfl | rfl
    · exact run e67 (.cons _ _ _ _ (.int _ _) (.cons _ _ _ _ (.rng _ _ _ _ h1.1 h1.2) .nil))
    · exact run e68 (.cons _ _ _ _ (.int _ _) (.cons _ _ _ _ (.rng _ _ _ _ h1.1 h1.2) .nil))
    · exact run e69 (.cons _ _ _ _ (.int _ _) (.cons _ _ _ _ (.int _ _) .nil))
    · exact run e70 (.cons _ _ _ _ (.int _ _) (.cons _ _ _ _ (.int _ _) .nil))
    · exact run e71 (.cons _ _ _ _ (.int _ _) (.cons _ _ _ _ (.int _ _) .nil))
  · have d1 : ((-9223372036854775808) ≤ a1 ∧ a1 ≤ (-1)) ∨ (3 ≤ a1 ∧ a1 ≤ 9223372036854775807) ∨ a1 = 0 ∨ a1 = 1 ∨ a1 = 2 := by omega
    rcases d1 with h1 | h1 | rfl | rfl | rfl
    · exact run e72 (.cons _ _ _ _ (.int _ _) (.cons _ _ _ _ (.rng _ _ _ _ h1.1 h1.2) .nil))
    · exact run e73 (.cons _ _ _ _ (.int _ _) (.cons _ _ _ _ (.rng _ _ _ _ h1.1 h1.2) .nil))
    · exact run e74 (.cons _ _ _ _ (.int _ _) (.cons _ _ _ _ (.int _ _) .nil))
    · exact run e75 (.cons _ _ _ _ (.int _ _) (.cons _ _ _ _ (.int _ _) .nil))
    · exact run e76 (.cons _ _ _ _ (.int _ _) (.cons _ _ _ _ (.int _ _) .nil))
  · have d1 : ((-9223372036854775808) ≤ a1 ∧ a1 ≤ (-1)) ∨ (3 ≤ a1 ∧ a1 ≤ 9223372036854775807) ∨ a1 = 0 ∨ a1 = 1 ∨ a1 = 2 := by omega
    rcases d1 with h1 | h1 | rfl | rfl | rfl
    · exact run e77 (.cons _ _ _ _ (.int _ _) (.cons _ _ _ _ (.rng _ _ _ _ h1.1 h1.2) .nil))
    · exact run e78 (.cons _ _ _ _ (.int _ _) (.cons _ _ _ _ (.rng _ _ _ _ h1.1 h1.2) .nil))
    · exact run e79 (.cons _ _ _ _ (.int _ _) (.cons _ _ _ _ (.int _ _) .nil))
    · exact run e80 (.cons _ _ _ _ (.int _ _) (.cons _ _ _ _ (.int _ _) .nil))
    · exact run e81 (.cons _ _ _ _ (.int _ _) (.cons _ _ _ _ (.int _ _) .nil))
  · have d1 : ((-9223372036854775808) ≤ a1 ∧ a1 ≤ (-1)) ∨ (3 ≤ a1 ∧ a1 ≤ 9223372036854775807) ∨ a1 = 0 ∨ a1 = 1 ∨ a1 = 2 := by omega
    rcases d1 with h1 | h1 | rfl | rfl | rfl
    · exact run e82 (.cons _ _ _ _ (.int _ _) (.cons _ _ _ _ (.rng _ _ _ _ h1.1 h1.2) .nil))
    · exact run e83 (.cons _ _ _ _ (.int _ _) (.cons _ _ _ _ (.rng _ _ _ _ h1.1 h1.2) .nil))
    · exact run e84 (.cons _ _ _ _ (.int _ _) (.cons _ _ _ _ (.int _ _) .nil))
    · exact run e85 (.cons _ _ _ _ (.int _ _) (.cons _ _ _ _ (.int _ _) .nil))
    · exact run e86 (.cons _ _ _ _ (.int _ _) (.cons _ _ _ _ (.int _ _) .nil))
  · have d1 : ((-9223372036854775808) ≤ a1 ∧ a1 ≤ (-1)) ∨ (3 ≤ a1 ∧ a1 ≤ 9223372036854775807) ∨ a1 = 0 ∨ a1 = 1 ∨ a1 = 2 := by omega
    rcases d1 with h1 | h1 | rfl | rfl | rfl
    · exact run e87 (.cons _ _ _ _ (.int _ _) (.cons _ _ _ _ (.rng _ _ _ _ h1.1 h1.2) .nil))
    · exact run e88 (.cons _ _ _ _ (.int _ _) (.cons _ _ _ _ (.rng _ _ _ _ h1.1 h1.2) .nil))
    · exact run e89 (.cons _ _ _ _ (.int _ _) (.cons _ _ _ _ (.int _ _) .nil))
    · exact run e90 (.cons _ _ _ _ (.int _ _) (.cons _ _ _ _ (.int _ _) .nil))
    · exact run e91 (.cons _ _ _ _ (.int _ _) (.cons _ _ _ _ (.int _ _) .nil))
  · have d1 : ((-9223372036854775808) ≤ a1 ∧ a1 ≤ (-1)) ∨ (3 ≤ a1 ∧ a1 ≤ 9223372036854775807) ∨ a1 = 0 ∨ a1 = 1 ∨ a1 = 2 := by omega
    rcases d1 with h1 | h1 | rfl | rfl | rfl
    · exact run e92 (.cons _ _ _ _ (.int _ _) (.cons _ _ _ _ (.rng _ _ _ _ h1.1 h1.2) .nil))
    · exact run e93 (.cons _ _ _ _ (.int _ _) (.cons _ _ _ _ (.rng _ _ _ _ h1.1 h1.2) .nil))
    · exact run e94 (.cons _ _ _ _ (.int _ _) (.cons _ _ _ _ (.int _ _) .nil))
    · exact run e95 (.cons _ _ _ _ (.int _ _) (.cons _ _ _ _ (.int _ _) .nil))
    · exact run e96 (.cons _ _ _ _ (.int _ _) (.cons _ _ _ _ (.int _ _) .nil))
  · have d1 : ((-9223372036854775808) ≤ a1 ∧ a1 ≤ (-1)) ∨ (3 ≤ a1 ∧ a1 ≤ 9223372036854775807) ∨ a1 = 0 ∨ a1 = 1 ∨ a1 = 2 := by omega
    rcases d1 with h1 | h1 | rfl | rfl | rfl
    · exact run e97 (.cons _ _ _ _ (.int _ _) (.cons _ _ _ _ (.rng _ _ _ _ h1.1 h1.2) .nil))
    · exact run e98 (.cons _ _ _ _ (.int _ _) (.cons _ _ _ _ (.rng _ _ _ _ h1.1 h1.2) .nil))
    · exact run e99 (.cons _ _ _ _ (.int _ _) (.cons _ _ _ _ (.int _ _) .nil))
    · exact run e100 (.cons _ _ _ _ (.int _ _) (.cons _ _ _ _ (.int _ _) .nil))
    · exact run e101 (.cons _ _ _ _ (.int _ _) (.cons _ _ _ _ (.int _ _) .nil))
  · have d1 : ((-9223372036854775808) ≤ a1 ∧ a1 ≤ (-1)) ∨ (3 ≤ a1 ∧ a1 ≤ 9223372036854775807) ∨ a1 = 0 ∨ a1 = 1 ∨ a1 = 2 := by omega
    rcases d1 with h1 | h1 | rfl | rfl | rfl
    · exact run e102 (.cons _ _ _ _ (.int _ _) (.cons _ _ _ _ (.rng _ _ _ _ h1.1 h1.2) .nil))
    · exact run e103 (.cons _ _ _ _ (.int _ _) (.cons _ _ _ _ (.rng _ _ _ _ h1.1 h1.2) .nil))
    · exact run e104 (.cons _ _ _ _ (.int _ _) (.cons _ _ _ _ (.int _ _) .nil))
    · exact run e105 (.cons _ _ _ _ (.int _ _) (.cons _ _ _ _ (.int _ _) .nil))
    · exact run e106 (.cons _ _ _ _ (.int _ _) (.cons _ _ _ _ (.int _ _) .nil))
  · have d1 : ((-9223372036854775808) ≤ a1 ∧ a1 ≤ (-1)) ∨ (3 ≤ a1 ∧ a1 ≤ 9223372036854775807) ∨ a1 = 0 ∨ a1 = 1 ∨ a1 = 2 := by omega
    rcases d1 with h1 | h1 | rfl | rfl | rfl
    · exact run e107 (.cons _ _ _ _ (.int _ _) (.cons _ _ _ _ (.rng _ _ _ _ h1.1 h1.2) .nil))
    · exact run e108 (.cons _ _ _ _ (.int _ _) (.cons _ _ _ _ (.rng _ _ _ _ h1.1 h1.2) .nil))
    · exact run e109 (.cons _ _ _ _ (.int _ _) (.cons _ _ _ _ (.int _ _) .nil))
    · exact run e110 (.cons _ _ _ _ (.int _ _) (.cons _ _ _ _ (.int _ _) .nil))
    · exact run e111 (.cons _ _ _ _ (.int _ _) (.cons _ _ _ _ (.int _ _) .nil))
  · have d1 : ((-9223372036854775808) ≤ a1 ∧ a1 ≤ (-1)) ∨ (3 ≤ a1 ∧ a1 ≤ 9223372036854775807) ∨ a1 = 0 ∨ a1 = 1 ∨ a1 = 2 := by omega
    rcases d1 with h1 | h1 | rfl | rfl | rfl
    · exact run e112 (.cons _ _ _ _ (.int _ _) (.cons _ _ _ _ (.rng _ _ _ _ h1.1 h1.2) .nil))
    · exact run e113 (.cons _ _ _ _ (.int _ _) (.cons _ _ _ _ (.rng _ _ _ _ h1.1 h1.2) .nil))
    · exact run e114 (.cons _ _ _ _ (.int _ _) (.cons _ _ _ _ (.int _ _) .nil))
    · exact run e115 (.cons _ _ _ _ (.int _ _) (.cons _ _ _ _ (.int _ _) .nil))
    · exact run e116 (.cons _ _ _ _ (.int _ _) (.cons _ _ _ _ (.int _ _) .nil))
  · have d1 : ((-9223372036854775808) ≤ a1 ∧ a1 ≤ (-1)) ∨ (3 ≤ a1 ∧ a1 ≤ 9223372036854775807) ∨ a1 = 0 ∨ a1 = 1 ∨ a1 = 2 := by omega
    rcases d1 with h1 | h1 | rfl | rfl | rfl
    · exact run e117 (.cons _ _ _ _ (.int _ _) (.cons _ _ _ _ (.rng _ _ _ _ h1.1 h1.2) .nil))
    · exact run e118 (.cons _ _ _ _ (.int _ _) (.cons _ _ _ _ (.rng _ _ _ _ h1.1 h1.2) .nil))
    · exact run e119 (.cons _ _ _ _ (.int _ _) (.cons _ _ _ _ (.int _ _) .nil))
    · exact run e120 (.cons _ _ _ _ (.int _ _) (.cons _ _ _ _ (.int _ _) .nil))
    · exact run e121 (.cons _ _ _ _ (.int _ _) (.cons _ _ _ _ (.int _ _) .nil))
  · have d1 : ((-9223372036854775808) ≤ a1 ∧ a1 ≤ (-1)) ∨ (3 ≤ a1 ∧ a1 ≤ 9223372036854775807) ∨ a1 = 0 ∨ a1 = 1 ∨ a1 = 2 := by omega
    rcases d1 with h1 | h1 | rfl | rfl | rfl
    · exact run e122 (.cons _ _ _ _ (.int _ _) (.cons _ _ _ _ (.rng _ _ _ _ h1.1 h1.2) .nil))
    · exact run e123 (.cons _ _ _ _ (.int _ _) (.cons _ _ _ _ (.rng _ _ _ _ h1.1 h1.2) .nil))
    · exact run e124 (.cons _ _ _ _ (.int _ _) (.cons _ _ _ _ (.int _ _) .nil))
    · exact run e125 (.cons _ _ _ _ (.int _ _) (.cons _ _ _ _ (.int _ _) .nil))
    · exact run e126 (.cons _ _ _ _ (.int _ _) (.cons _ _ _ _ (.int _ _) .nil))
  · have d1 : ((-9223372036854775808) ≤ a1 ∧ a1 ≤ (-1)) ∨ (3 ≤ a1 ∧ a1 ≤ 9223372036854775807) ∨ a1 = 0 ∨ a1 = 1 ∨ a1 = 2 := by omega
    rcases d1 with h1 | h1 | rfl | rfl | rfl
    · exact run e127 (.cons _ _ _ _ (.int _ _) (.cons _ _ _ _ (.rng _ _ _ _ h1.1 h1.2) .nil))
    · exact run e128 (.cons _ _ _ _ (.int _ _) (.cons _ _ _ _ (.rng _ _ _ _ h1.1 h1.2) .nil))
    · exact run e129 (.cons _ _ _ _ (.int _ _) (.cons _ _ _ _ (.int _ _) .nil))
    · exact run e130 (.cons _ _ _ _ (.int _ _) (.cons _ _ _ _ (.int _ _) .nil))
    · exact run e131 (.cons _ _ _ _ (.int _ _) (.cons _ _ _ _ (.int _ _) .nil))
  · have d1 : ((-9223372036854775808) ≤ a1 ∧ a1 ≤ (-1)) ∨ (3 ≤ a1 ∧ a1 ≤ 9223372036854775807) ∨ a1 = 0 ∨ a1 = 1 ∨ a1 = 2 := by omega
    rcases d1 with h1 | h1 | rfl | rfl | rfl
    · exact run e132 (.cons _ _ _ _ (.int _ _) (.cons _ _ _ _ (.rng _ _ _ _ h1.1 h1.2) .nil))
    · exact run e133 (.cons _ _ _ _ (.int _ _) (.cons _ _ _ _ (.rng _ _ _ _ h1.1 h1.2) .nil))
    · exact run e134 (.cons _ _ _ _ (.int _ _) (.cons _ _ _ _ (.int _ _) .nil))
    · exact run e135 (.cons _ _ _ _ (.int _ _) (.cons _ _ _ _ (.int _ _) .nil))
    · exact run e136 (.cons _ _ _ _ (.int _ _) (.cons _ _ _ _ (.int _ _) .nil))
  · have d1 : ((-9223372036854775808) ≤ a1 ∧ a1 ≤ (-1)) ∨ (3 ≤ a1 ∧ a1 ≤ 9223372036854775807) ∨ a1 = 0 ∨ a1 = 1 ∨ a1 = 2 := by omega
    rcases d1 with h1 | h1 | rfl | rfl | rfl
    · exact run e137 (.cons _ _ _ _ (.int _ _) (.cons _ _ _ _ (.rng _ _ _ _ h1.1 h1.2) .nil))
    · exact run e138 (.cons _ _ _ _ (.int _ _) (.cons _ _ _ _ (.rng _ _ _ _ h1.1 h1.2) .nil))
    · exact run e139 (.cons _ _ _ _ (.int _ _) (.cons _ _ _ _ (.int _ _) .nil))
    · exact run e140 (.cons _ _ _ _ (.int _ _) (.cons _ _ _ _ (.int _ _) .nil))
    · exact run e141 (.cons _ _ _ _ (.int _ _) (.cons _ _ _ _ (.int _ _) .nil))

/-! ### THE ROW's STEP: WRITTEN OUT: LEAVE IT -/
set_option maxRecDepth 100000 in
theorem lifted (os : Os) (started : os.Started) (H : Type) (enc : TypeId × Value → H) :
    ReturnsInHanded {} Tryz.checked os 8 .any (Rows.clocksFormsSpec.pre6 enc Tryz.prog Tryz.f8 Rows.clocksFormsRow.domain false) (Rows.clocksFormsSpec.post enc Tryz.prog Tryz.f8 false true false false) := by
  refine returnsInHanded_of_change (C := Tryz.checked) own started (by kernel_rfl) Tryz.func8
    (ChangeSpec.witness6 (enc := enc) (C := Tryz.checked) false ⟨#[], #[.int .i64 0, .int .i64 0], []⟩ 8 (by kernel_rfl) (by kernel_rfl) (by kernel_rfl) (by kernel_rfl)) ?_
  intro W base args ds gs before hval0 hW hcnd _
  have hval : ∀ (j : Nat) t v, Tryz.f8.params[j]? = some t → args[j]? = some v → Value.okWide Tryz.prog W .any base t v := hval0
  have hW' := hW
  obtain ⟨p, q, hA0, hV, rfl, hfz, hnd⟩ := hW
  have hA : DataW.TrodAll enc Tryz.prog W 0 (fun _ => true) true Tryz.f8.params.toList args.toList ds p := hA0
  rw [Tryz.params8] at hA hval
  obtain ⟨v0, vs0, d0, ds0, p0, q0, hargs, rfl, rfl, h0, r0⟩ := trodAll_cons hA
  obtain ⟨v1, vs1, d1, ds1, p1, q1, rfl, rfl, rfl, h1, r1⟩ := trodAll_cons r0
  obtain ⟨rfl, rfl, rfl⟩ := trodAll_nil r1
  obtain rfl : args = #[v0, v1] := by cases args; simp_all
  obtain ⟨rfl, rfl⟩ := trodVars_none hV
  obtain ⟨a0, rfl, rfl, rfl, w0⟩ := open_int Tryz.underlying3 (hval 0 3 v0 rfl rfl) h0
  obtain ⟨a1, rfl, rfl, rfl, w1⟩ := open_int Tryz.underlying3 (hval 1 3 v1 rfl rfl) h1
  clear hA0 hval0
  simp only [List.append_nil] at hW'
  refine (walk a0 a1 w0 w1 W).mono fun e W' ⟨he, hg⟩ => ?_
  subst he
  exact ⟨_, rfl, post_of_same (pa := []) (pv := []) hW' (fun _ _ _ => (trodAll_cons_mk (shut_bool Tryz.underlying4 _) trodAll_mk0)) (fun sp _ => (trodAll_cons_mk (shut_int Tryz.underlying3 w0) (trodAll_cons_mk (shut_int Tryz.underlying3 w1) trodAll_mk0))) (fun _ _ => rfl) rfl
    (hg.frame _) hg.2.1 (ok_one (by kernel_rfl) rfl (okWide_bool_mk Tryz.underlying4 _))⟩

theorem over : Rows.clocksFormsRow.holds Tryz.pinned (OpenSpec.ofChange Rows.clocksFormsSpec) :=
  OpenClaim.holds_of_wide 8 Tryz.f8 rfl rfl rfl rfl rfl rfl rfl ⟨rfl, rfl, rfl, rfl, rfl⟩ rfl rfl rfl rfl rfl (by kernel_rfl) Tryz.func8 (by kernel_rfl)
    (of_decide_eq_true (by kernel_rfl)) (by unfold Func.isWrapper; first | (rw [if_pos (by decide +kernel)]; kernel_rfl) | (rw [if_neg (by decide +kernel)]; exact ⟨rfl, rfl⟩))
    (fun os started H enc _ => lifted os started H enc)

/-- ████ THE STATEMENT ████ -/
theorem proved : Rows.ClocksFormsSaid :=
  over
#print axioms proved
end Go.Proofs.YtlonlfiaclacdaaGreat.clocksForms
