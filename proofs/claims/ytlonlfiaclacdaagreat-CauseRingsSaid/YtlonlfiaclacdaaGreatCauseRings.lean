/-
  CauseRings: the law returns true, whatever it is called at; no condition.
  The walk is by a verified evaluator of the translated code (YtlonlfiaclacdaaGreatAb1 .. YtlonlfiaclacdaaGreatAb24, and the functions written out for the kernel, YtlonlfiaclacdaaGreatK1 ..: own work), which the kernel runs, case by case.
-/
import Derived.Test.YtlonlfiaclacdaaGreatRows
import Derived.WalkKit
import Derived.ProofKit
import Derived.OpenShut
import Derived.Test.YtlonlfiaclacdaaGreatCauseRingsC1
import Derived.Test.YtlonlfiaclacdaaGreatCauseRingsC2
import Derived.Test.YtlonlfiaclacdaaGreatCauseRingsC3
import Derived.Test.YtlonlfiaclacdaaGreatCauseRingsC4
import Derived.KernelRfl
namespace Go.Proofs.YtlonlfiaclacdaaGreat.causeRings
open Go.ChangeShapes Go.WideShapes Go.ChangeAt Go.RowKit
set_option linter.unusedVariables false      -- a walk need not use every 'w<i>' (that an integer argument fits its kind)

theorem own : ownKnob Tryz.prog.godebug = none := by kernel_rfl

/-! ### STEP 1: THE WALK, by the evaluator -/
theorem ext : Go.Ab.ExtOk Tryz.prog := Go.Ab.extOk_of_noClone (by kernel_rfl)
theorem run {avs : List Go.Ab.AV} {cargs : List Value} {w : World} (h : Go.Ab.evalsK YtlonlfiaclacdaaGreatK.table memo (nat_lit 300) (nat_lit 11) avs = true) (ha : Go.Ab.VRs (fun _ _ => none) avs cargs) :
    Calls Tryz.prog 11 cargs.toArray w fun e w' => e = .returned (.bool true) ∧ Grown w w' :=
  Go.Ab.calls_of_evalsK YtlonlfiaclacdaaGreatK.table memo ext h ha
theorem walk (a0 : Int) (a1 : Int) (a2 : Int) (w0 : (Lit.int .i64 a0).wf = true) (w1 : (Lit.int .i64 a1).wf = true) (w2 : (Lit.int .i64 a2).wf = true) (w : World) :
    Calls Tryz.prog 11 #[.int .i64 a0, .int .i64 a1, .int .i64 a2] w fun e w' => e = .returned (.bool true) ∧ Grown w w' := by
  have b0 : (-9223372036854775808 : Int) ≤ a0 ∧ a0 ≤ 9223372036854775807 := by simpa [Lit.wf, IntKind.min, IntKind.max, IntKind.signed, IntKind.bits] using w0
  have b1 : (-9223372036854775808 : Int) ≤ a1 ∧ a1 ≤ 9223372036854775807 := by simpa [Lit.wf, IntKind.min, IntKind.max, IntKind.signed, IntKind.bits] using w1
  have b2 : (-9223372036854775808 : Int) ≤ a2 ∧ a2 ≤ 9223372036854775807 := by simpa [Lit.wf, IntKind.min, IntKind.max, IntKind.signed, IntKind.bits] using w2
  have d0 : ((-9223372036854775808) ≤ a0 ∧ a0 ≤ 0) ∨ (10 ≤ a0 ∧ a0 ≤ 9223372036854775807) ∨ a0 = 1 ∨ a0 = 2 ∨ a0 = 3 ∨ a0 = 4 ∨ a0 = 5 ∨ a0 = 6 ∨ a0 = 7 ∨ a0 = 8 ∨ a0 = 9 := by omega
  rcases d0 with h0 | h0 | rfl | rfl | rfl | rfl | rfl | rfl | rfl | rfl | rfl
  · have h1 : ((-9223372036854775808) ≤ a1 ∧ a1 ≤ 9223372036854775807) := by omega
    have h2 : ((-9223372036854775808) ≤ a2 ∧ a2 ≤ 9223372036854775807) := by omega
    exact run e0 (.cons _ _ _ _ (.rng _ _ _ _ h0.1 h0.2) (.cons _ _ _ _ (.rng _ _ _ _ h1.1 h1.2) (.cons _ _ _ _ (.rng _ _ _ _ h2.1 h2.2) .nil)))
  · have h1 : ((-9223372036854775808) ≤ a1 ∧ a1 ≤ 9223372036854775807) := by omega
    have h2 : ((-9223372036854775808) ≤ a2 ∧ a2 ≤ 9223372036854775807) := by omega
    exact run e1 (.cons _ _ _ _ (.rng _ _ _ _ h0.1 h0.2) (.cons _ _ _ _ (.rng _ _ _ _ h1.1 h1.2) (.cons _ _ _ _ (.rng _ _ _ _ h2.1 h2.2) .nil)))
  · have d1 : ((-9223372036854775808) ≤ a1 ∧ a1 ≤ (-1)) ∨ (2 ≤ a1 ∧ a1 ≤ 9223372036854775807) ∨ a1 = 0 ∨ a1 = 1 := by omega
    rcases d1 with h1 | h1 | rfl | rfl
    · have h2 : ((-9223372036854775808) ≤ a2 ∧ a2 ≤ 9223372036854775807) := by omega
      exact run e2 (.cons _ _ _ _ (.int _ _) (.cons _ _ _ _ (.rng _ _ _ _ h1.1 h1.2) (.cons _ _ _ _ (.rng _ _ _ _ h2.1 h2.2) .nil)))
    · have h2 : ((-9223372036854775808) ≤ a2 ∧ a2 ≤ 9223372036854775807) := by omega
      exact run e3 (.cons _ _ _ _ (.int _ _) (.cons _ _ _ _ (.rng _ _ _ _ h1.1 h1.2) (.cons _ _ _ _ (.rng _ _ _ _ h2.1 h2.2) .nil)))
    · have d2 : ((-9223372036854775808) ≤ a2 ∧ a2 ≤ (-1)) ∨ (2 ≤ a2 ∧ a2 ≤ 9223372036854775807) ∨ a2 = 0 ∨ a2 = 1 := by omega
      rcases d2 with h2 | h2 | rfl | rfl
      · exact run e4 (.cons _ _ _ _ (.int _ _) (.cons _ _ _ _ (.int _ _) (.cons _ _ _ _ (.rng _ _ _ _ h2.1 h2.2) .nil)))
      · exact run e5 (.cons _ _ _ _ (.int _ _) (.cons _ _ _ _ (.int _ _) (.cons _ _ _ _ (.rng _ _ _ _ h2.1 h2.2) .nil)))
      · exact run e6 (.cons _ _ _ _ (.int _ _) (.cons _ _ _ _ (.int _ _) (.cons _ _ _ _ (.int _ _) .nil)))
      · exact run e7 (.cons _ _ _ _ (.int _ _) (.cons _ _ _ _ (.int _ _) (.cons _ _ _ _ (.int _ _) .nil)))
    · have d2 : ((-9223372036854775808) ≤ a2 ∧ a2 ≤ (-1)) ∨ (2 ≤ a2 ∧ a2 ≤ 9223372036854775807) ∨ a2 = 0 ∨ a2 = 1 := by omega
      rcases d2 with h2 | h2 | rfl | rfl
      · exact run e8 (.cons _ _ _ _ (.int _ _) (.cons _ _ _ _ (.int _ _) (.cons _ _ _ _ (.rng _ _ _ _ h2.1 h2.2) .nil)))
      · exact run e9 (.cons _ _ _ _ (.int _ _) (.cons _ _ _ _ (.int _ _) (.cons _ _ _ _ (.rng _ _ _ _ h2.1 h2.2) .nil)))
      · exact run e10 (.cons _ _ _ _ (.int _ _) (.cons _ _ _ _ (.int _ _) (.cons _ _ _ _ (.int _ _) .nil)))
      · exact run e11 (.cons _ _ _ _ (.int _ _) (.cons _ _ _ _ (.int _ _) (.cons _ _ _ _ (.int _ _) .nil)))
  · have d1 : ((-9223372036854775808) ≤ a1 ∧ a1 ≤ (-1)) ∨ (3 ≤ a1 ∧ a1 ≤ 9223372036854775807) ∨ a1 = 0 ∨ a1 = 1 ∨ a1 = 2 := by omega
    rcases d1 with h1 | h1 | rfl | rfl | rfl
    · have h2 : ((-9223372036854775808) ≤ a2 ∧ a2 ≤ 9223372036854775807) := by omega
      exact run e12 (.cons _ _ _ _ (.int _ _) (.cons _ _ _ _ (.rng _ _ _ _ h1.1 h1.2) (.cons _ _ _ _ (.rng _ _ _ _ h2.1 h2.2) .nil)))
    · have h2 : ((-9223372036854775808) ≤ a2 ∧ a2 ≤ 9223372036854775807) := by omega
      exact run e13 (.cons _ _ _ _ (.int _ _) (.cons _ _ _ _ (.rng _ _ _ _ h1.1 h1.2) (.cons _ _ _ _ (.rng _ _ _ _ h2.1 h2.2) .nil)))
    · have d2 : ((-9223372036854775808) ≤ a2 ∧ a2 ≤ (-1)) ∨ (2 ≤ a2 ∧ a2 ≤ 9223372036854775807) ∨ a2 = 0 ∨ a2 = 1 := by omega
      rcases d2 with h2 | h2 | rfl | rfl
      · exact run e14 (.cons _ _ _ _ (.int _ _) (.cons _ _ _ _ (.int _ _) (.cons _ _ _ _ (.rng _ _ _ _ h2.1 h2.2) .nil)))
      · exact run e15 (.cons _ _ _ _ (.int _ _) (.cons _ _ _ _ (.int _ _) (.cons _ _ _ _ (.rng _ _ _ _ h2.1 h2.2) .nil)))
      · exact run e16 (.cons _ _ _ _ (.int _ _) (.cons _ _ _ _ (.int _ _) (.cons _ _ _ _ (.int _ _) .nil)))
      · exact run e17 (.cons _ _ _ _ (.int _ _) (.cons _ _ _ _ (.int _ _) (.cons _ _ _ _ (.int _ _) .nil)))
    · have d2 : ((-9223372036854775808) ≤ a2 ∧ a2 ≤ (-1)) ∨ (2 ≤ a2 ∧ a2 ≤ 9223372036854775807) ∨ a2 = 0 ∨ a2 = 1 := by omega
      rcases d2 with h2 | h2 | rfl | rfl
      · exact run e18 (.cons _ _ _ _ (.int _ _) (.cons _ _ _ _ (.int _ _) (.cons _ _ _ _ (.rng _ _ _ _ h2.1 h2.2) .nil)))
      · exact run e19 (.cons _ _ _ _ (.int _ _) (.cons _ _ _ _ (.int _ _) (.cons _ _ _ _ (.rng _ _ _ _ h2.1 h2.2) .nil)))
      · exact run e20 (.cons _ _ _ _ (.int _ _) (.cons _ _ _ _ (.int _ _) (.cons _ _ _ _ (.int _ _) .nil)))
      · exact run e21 (.cons _ _ _ _ (.int _ _) (.cons _ _ _ _ (.int _ _) (.cons _ _ _ _ (.int _ _) .nil)))
    · have d2 : ((-9223372036854775808) ≤ a2 ∧ a2 ≤ (-1)) ∨ (2 ≤ a2 ∧ a2 ≤ 9223372036854775807) ∨ a2 = 0 ∨ a2 = 1 := by omega
      rcases d2 with h2 | h2 | rfl | rfl
      · exact run e22 (.cons _ _ _ _ (.int _ _) (.cons _ _ _ _ (.int _ _) (.cons _ _ _ _ (.rng _ _ _ _ h2.1 h2.2) .nil)))
      · exact run e23 (.cons _ _ _ _ (.int _ _) (.cons _ _ _ _ (.int _ _) (.cons _ _ _ _ (.rng _ _ _ _ h2.1 h2.2) .nil)))
      · exact run e24 (.cons _ _ _ _ (.int _ _) (.cons _ _ _ _ (.int _ _) (.cons _ _ _ _ (.int _ _) .nil)))
      · exact run e25 (.cons _ _ _ _ (.int _ _) (.cons _ _ _ _ (.int _ _) (.cons _ _ _ _ (.int _ _) .nil)))
  · have d1 : ((-9223372036854775808) ≤ a1 ∧ a1 ≤ (-1)) ∨ (4 ≤ a1 ∧ a1 ≤ 9223372036854775807) ∨ a1 = 0 ∨ a1 = 1 ∨ a1 = 2 ∨ a1 = 3 := by omega
    rcases d1 with h1 | h1 | rfl | rfl | rfl | rfl
    · have h2 : ((-9223372036854775808) ≤ a2 ∧ a2 ≤ 9223372036854775807) := by omega
      exact run e26 (.cons _ _ _ _ (.int _ _) (.cons _ _ _ _ (.rng _ _ _ _ h1.1 h1.2) (.cons _ _ _ _ (.rng _ _ _ _ h2.1 h2.2) .nil)))
    · have h2 : ((-9223372036854775808) ≤ a2 ∧ a2 ≤ 9223372036854775807) := by omega
      exact run e27 (.cons _ _ _ _ (.int _ _) (.cons _ _ _ _ (.rng _ _ _ _ h1.1 h1.2) (.cons _ _ _ _ (.rng _ _ _ _ h2.1 h2.2) .nil)))
    · have d2 : ((-9223372036854775808) ≤ a2 ∧ a2 ≤ (-1)) ∨ (2 ≤ a2 ∧ a2 ≤ 9223372036854775807) ∨ a2 = 0 ∨ a2 = 1 := by omega
      rcases d2 with h2 | h2 | rfl | rfl
      · exact run e28 (.cons _ _ _ _ (.int _ _) (.cons _ _ _ _ (.int _ _) (.cons _ _ _ _ (.rng _ _ _ _ h2.1 h2.2) .nil)))
      · exact run e29 (.cons _ _ _ _ (.int _ _) (.cons _ _ _ _ (.int _ _) (.cons _ _ _ _ (.rng _ _ _ _ h2.1 h2.2) .nil)))
      · exact run e30 (.cons _ _ _ _ (.int _ _) (.cons _ _ _ _ (.int _ _) (.cons _ _ _ _ (.int _ _) .nil)))
      · exact run e31 (.cons _ _ _ _ (.int _ _) (.cons _ _ _ _ (.int _ _) (.cons _ _ _ _ (.int _ _) .nil)))
    · have d2 : ((-9223372036854775808) ≤ a2 ∧ a2 ≤ (-1)) ∨ (2 ≤ a2 ∧ a2 ≤ 9223372036854775807) ∨ a2 = 0 ∨ a2 = 1 := by omega
      rcases d2 with h2 | h2 | rfl | rfl
      · exact run e32 (.cons _ _ _ _ (.int _ _) (.cons _ _ _ _ (.int _ _) (.cons _ _ _ _ (.rng _ _ _ _ h2.1 h2.2) .nil)))
      · exact run e33 (.cons _ _ _ _ (.int _ _) (.cons _ _ _ _ (.int _ _) (.cons _ _ _ _ (.rng _ _ _ _ h2.1 h2.2) .nil)))
      · exact run e34 (.cons _ _ _ _ (.int _ _) (.cons _ _ _ _ (.int _ _) (.cons _ _ _ _ (.int _ _) .nil)))
      · exact run e35 (.cons _ _ _ _ (.int _ _) (.cons _ _ _ _ (.int _ _) (.cons _ _ _ _ (.int _ _) .nil)))
    · have d2 : ((-9223372036854775808) ≤ a2 ∧ a2 ≤ (-1)) ∨ (2 ≤ a2 ∧ a2 ≤ 9223372036854775807) ∨ a2 = 0 ∨ a2 = 1 := by omega
      rcases d2 with h2 | h2 | rfl | rfl
      · exact run e36 (.cons _ _ _ _ (.int _ _) (.cons _ _ _ _ (.int _ _) (.cons _ _ _ _ (.rng _ _ _ _ h2.1 h2.2) .nil)))
      · exact run e37 (.cons _ _ _ _ (.int _ _) (.cons _ _ _ _ (.int _ _) (.cons _ _ _ _ (.rng _ _ _ _ h2.1 h2.2) .nil)))
      · exact run e38 (.cons _ _ _ _ (.int _ _) (.cons _ _ _ _ (.int _ _) (.cons _ _ _ _ (.int _ _) .nil)))
      · exact run e39 (.cons _ _ _ _ (.int _ _) (.cons _ _ _ _ (.int _ _) (.cons _ _ _ _ (.int _ _) .nil)))
    · have d2 : ((-9223372036854775808) ≤ a2 ∧ a2 ≤ (-1)) ∨ (2 ≤ a2 ∧ a2 ≤ 9223372036854775807) ∨ a2 = 0 ∨ a2 = 1 := by omega
      rcases d2 with h2 | h2 | rfl | rfl
      · exact run e40 (.cons _ _ _ _ (.int _ _) (.cons _ _ _ _ (.int _ _) (.cons _ _ _ _ (.rng _ _ _ _ h2.1 h2.2) .nil)))
      · exact run e41 (.cons _ _ _ _ (.int _ _) (.cons _ _ _ _ (.int _ _) (.cons _ _ _ _ (.rng _ _ _ _ h2.1 h2.2) .nil)))
      · exact run e42 (.cons _ _ _ _ (.int _ _) (.cons _ _ _ _ (.int _ _) (.cons _ _ _ _ (.int _ _) .nil)))
      · exact run e43 (.cons _ _ _ _ (.int _ _) (.cons _ _ _ _ (.int _ _) (.cons _ _ _ _ (.int _ _) .nil)))
  · have d1 : ((-9223372036854775808) ≤ a1 ∧ a1 ≤ (-1)) ∨ (5 ≤ a1 ∧ a1 ≤ 9223372036854775807) ∨ a1 = 0 ∨ a1 = 1 ∨ a1 = 2 ∨ a1 = 3 ∨ a1 = 4 := by omega
    rcases d1 with h1 | h1 | rfl | rfl | rfl | rfl | rfl
    · have h2 : ((-9223372036854775808) ≤ a2 ∧ a2 ≤ 9223372036854775807) := by omega
      exact run e44 (.cons _ _ _ _ (.int _ _) (.cons _ _ _ _ (.rng _ _ _ _ h1.1 h1.2) (.cons _ _ _ _ (.rng _ _ _ _ h2.1 h2.2) .nil)))
    · have h2 : ((-9223372036854775808) ≤ a2 ∧ a2 ≤ 9223372036854775807) := by omega
      exact run e45 (.cons _ _ _ _ (.int _ _) (.cons _ _ _ _ (.rng _ _ _ _ h1.1 h1.2) (.cons _ _ _ _ (.rng _ _ _ _ h2.1 h2.2) .nil)))
    · have d2 : ((-9223372036854775808) ≤ a2 ∧ a2 ≤ (-1)) ∨ (2 ≤ a2 ∧ a2 ≤ 9223372036854775807) ∨ a2 = 0 ∨ a2 = 1 := by omega
      rcases d2 with h2 | h2 | rfl | rfl
      · exact run e46 (.cons _ _ _ _ (.int _ _) (.cons _ _ _ _ (.int _ _) (.cons _ _ _ _ (.rng _ _ _ _ h2.1 h2.2) .nil)))
      · exact run e47 (.cons _ _ _ _ (.int _ _) (.cons _ _ _ _ (.int _ _) (.cons _ _ _ _ (.rng _ _ _ _ h2.1 h2.2) .nil)))
      · exact run e48 (.cons _ _ _ _ (.int _ _) (.cons _ _ _ _ (.int _ _) (.cons _ _ _ _ (.int _ _) .nil)))
      · exact run e49 (.cons _ _ _ _ (.int _ _) (.cons _ _ _ _ (.int _ _) (.cons _ _ _ _ (.int _ _) .nil)))
    · have d2 : ((-9223372036854775808) ≤ a2 ∧ a2 ≤ (-1)) ∨ (2 ≤ a2 ∧ a2 ≤ 9223372036854775807) ∨ a2 = 0 ∨ a2 = 1 := by omega
      rcases d2 with h2 | h2 | rfl | rfl
      · exact run e50 (.cons _ _ _ _ (.int _ _) (.cons _ _ _ _ (.int _ _) (.cons _ _ _ _ (.rng _ _ _ _ h2.1 h2.2) .nil)))
      · exact run e51 (.cons _ _ _ _ (.int _ _) (.cons _ _ _ _ (.int _ _) (.cons _ _ _ _ (.rng _ _ _ _ h2.1 h2.2) .nil)))
      · exact run e52 (.cons _ _ _ _ (.int _ _) (.cons _ _ _ _ (.int _ _) (.cons _ _ _ _ (.int _ _) .nil)))
      · exact run e53 (.cons _ _ _ _ (.int _ _) (.cons _ _ _ _ (.int _ _) (.cons _ _ _ _ (.int _ _) .nil)))
    · have d2 : ((-9223372036854775808) ≤ a2 ∧ a2 ≤ (-1)) ∨ (2 ≤ a2 ∧ a2 ≤ 9223372036854775807) ∨ a2 = 0 ∨ a2 = 1 := by omega
      rcases d2 with h2 | h2 | rfl | rfl
      · exact run e54 (.cons _ _ _ _ (.int _ _) (.cons _ _ _ _ (.int _ _) (.cons _ _ _ _ (.rng _ _ _ _ h2.1 h2.2) .nil)))
      · exact run e55 (.cons _ _ _ _ (.int _ _) (.cons _ _ _ _ (.int _ _) (.cons _ _ _ _ (.rng _ _ _ _ h2.1 h2.2) .nil)))
      · exact run e56 (.cons _ _ _ _ (.int _ _) (.cons _ _ _ _ (.int _ _) (.cons _ _ _ _ (.int _ _) .nil)))
      · exact run e57 (.cons _ _ _ _ (.int _ _) (.cons _ _ _ _ (.int _ _) (.cons _ _ _ _ (.int _ _) .nil)))
    · have d2 : ((-9223372036854775808) ≤ a2 ∧ a2 ≤ (-1)) ∨ (2 ≤ a2 ∧ a2 ≤ 9223372036854775807) ∨ a2 = 0 ∨ a2 = 1 := by omega
      rcases d2 with h2 | h2 | rfl | rfl
      · exact run e58 (.cons _ _ _ _ (.int _ _) (.cons _ _ _ _ (.int _ _) (.cons _ _ _ _ (.rng _ _ _ _ h2.1 h2.2) .nil)))
      · exact run e59 (.cons _ _ _ _ (.int _ _) (.cons _ _ _ _ (.int _ _) (.cons _ _ _ _ (.rng _ _ _ _ h2.1 h2.2) .nil)))
      · exact run e60 (.cons _ _ _ _ (.int _ _) (.cons _ _ _ _ (.int _ _) (.cons _ _ _ _ (.int _ _) .nil)))
      · exact run e61 (.cons _ _ _ _ (.int _ _) (.cons _ _ _ _ (.int _ _) (.cons _ _ _ _ (.int _ _) .nil)))
    · have d2 : ((-9223372036854775808) ≤ a2 ∧ a2 ≤ (-1)) ∨ (2 ≤ a2 ∧ a2 ≤ 9223372036854775807) ∨ a2 = 0 ∨ a2 = 1 := by omega
      rcases d2 with h2 | h2 | rfl | rfl
      · exact run e62 (.cons _ _ _ _ (.int _ _) (.cons _ _ _ _ (.int _ _) (.cons _ _ _ _ (.rng _ _ _ _ h2.1 h2.2) .nil)))
      · exact run e63 (.cons _ _ _ _ (.int _ _) (.cons _ _ _ _ (.int _ _) (.cons _ _ _ _ (.rng _ _ _ _ h2.1 h2.2) .nil)))
      · exact run e64 (.cons _ _ _ _ (.int _ _) (.cons _ _ _ _ (.int _ _) (.cons _ _ _ _ (.int _ _) .nil)))
      · exact run e65 (.cons _ _ _ _ (.int _ _) (.cons _ _ _ _ (.int _ _) (.cons _ _ _ _ (.int _ _) .nil)))
  · have d1 : ((-9223372036854775808) ≤ a1 ∧ a1 ≤ (-1)) ∨ (6 ≤ a1 ∧ a1 ≤ 9223372036854775807) ∨ a1 = 0 ∨ a1 = 1 ∨ a1 = 2 ∨ a1 = 3 ∨ a1 = 4 ∨ a1 = 5 := by omega
    rcases d1 with h1 | h1 | rfl | rfl | rfl | rfl | rfl | rfl
    · have h2 : ((-9223372036854775808) ≤ a2 ∧ a2 ≤ 9223372036854775807) := by omega
      exact run e66 (.cons _ _ _ _ (.int _ _) (.cons _ _ _ _ (.rng _ _ _ _ h1.1 h1.2) (.cons _ _ _ _ (.rng _ _ _ _ h2.1 h2.2) .nil)))
    · have h2 : ((-9223372036854775808) ≤ a2 ∧ a2 ≤ 9223372036854775807) := by omega
      exact run e67 (.cons _ _ _ _ (.int _ _) (.cons _ _ _ _ (.rng _ _ _ _ h1.1 h1.2) (.cons _ _ _ _ (.rng _ _ _ _ h2.1 h2.2) .nil)))
    · have d2 : ((-9223372036854775808) ≤ a2 ∧ a2 ≤ (-1)) ∨ (2 ≤ a2 ∧ a2 ≤ 9223372036854775807) ∨ a2 = 0 ∨ a2 = 1 := by omega
      rcases d2 with h2 | h2 | rfl | rfl
      · exact run e68 (.cons _ _ _ _ (.int _ _) (.cons _ _ _ _ (.int _ _) (.cons _ _ _ _ (.rng _ _ _ _ h2.1 h2.2) .nil)))
      · exact run e69 (.cons _ _ _ _ (.int _ _) (.cons _ _ _ _ (.int _ _) (.cons _ _ _ _ (.rng _ _ _ _ h2.1 h2.2) .nil)))
      · exact run e70 (.cons _ _ _ _ (.int _ _) (.cons _ _ _ _ (.int _ _) (.cons _ _ _ _ (.int _ _) .nil)))
      · exact run e71 (.cons _ _ _ _ (.int _ _) (.cons _ _ _ _ (.int _ _) (.cons _ _ _ _ (.int _ _) .nil)))
    · have d2 : ((-9223372036854775808) ≤ a2 ∧ a2 ≤ (-1)) ∨ (2 ≤ a2 ∧ a2 ≤ 9223372036854775807) ∨ a2 = 0 ∨ a2 = 1 := by omega
      rcases d2 with h2 | h2 | rfl | rfl
      · exact run e72 (.cons _ _ _ _ (.int _ _) (.cons _ _ _ _ (.int _ _) (.cons _ _ _ _ (.rng _ _ _ _ h2.1 h2.2) .nil)))
      · exact run e73 (.cons _ _ _ _ (.int _ _) (.cons _ _ _ _ (.int _ _) (.cons _ _ _ _ (.rng _ _ _ _ h2.1 h2.2) .nil)))
      · exact run e74 (.cons _ _ _ _ (.int _ _) (.cons _ _ _ _ (.int _ _) (.cons _ _ _ _ (.int _ _) .nil)))
      · exact run e75 (.cons _ _ _ _ (.int _ _) (.cons _ _ _ _ (.int _ _) (.cons _ _ _ _ (.int _ _) .nil)))
    · have d2 : ((-9223372036854775808) ≤ a2 ∧ a2 ≤ (-1)) ∨ (2 ≤ a2 ∧ a2 ≤ 9223372036854775807) ∨ a2 = 0 ∨ a2 = 1 := by omega
      rcases d2 with h2 | h2 | rfl | rfl
      · exact run e76 (.cons _ _ _ _ (.int _ _) (.cons _ _ _ _ (.int _ _) (.cons _ _ _ _ (.rng _ _ _ _ h2.1 h2.2) .nil)))
      · exact run e77 (.cons _ _ _ _ (.int _ _) (.cons _ _ _ _ (.int _ _) (.cons _ _ _ _ (.rng _ _ _ _ h2.1 h2.2) .nil)))
      · exact run e78 (.cons _ _ _ _ (.int _ _) (.cons _ _ _ _ (.int _ _) (.cons _ _ _ _ (.int _ _) .nil)))
      · exact run e79 (.cons _ _ _ _ (.int _ _) (.cons _ _ _ _ (.int _ _) (.cons _ _ _ _ (.int _ _) .nil)))
    · have d2 : ((-9223372036854775808) ≤ a2 ∧ a2 ≤ (-1)) ∨ (2 ≤ a2 ∧ a2 ≤ 9223372036854775807) ∨ a2 = 0 ∨ a2 = 1 := by omega
      rcases d2 with h2 | h2 | rfl | rfl
      · exact run e80 (.cons _ _ _ _ (.int _ _) (.cons _ _ _ _ (.int _ _) (.cons _ _ _ _ (.rng _ _ _ _ h2.1 h2.2) .nil)))
      · exact run e81 (.cons _ _ _ _ (.int _ _) (.cons _ _ _ _ (.int _ _) (.cons _ _ _ _ (.rng _ _ _ _ h2.1 h2.2) .nil)))
      · exact run e82 (.cons _ _ _ _ (.int _ _) (.cons _ _ _ _ (.int _ _) (.cons _ _ _ _ (.int _ _) .nil)))
      · exact run e83 (.cons _ _ _ _ (.int _ _) (.cons _ _ _ _ (.int _ _) (.cons _ _ _ _ (.int _ _) .nil)))
    · have d2 : ((-9223372036854775808) ≤ a2 ∧ a2 ≤ (-1)) ∨ (2 ≤ a2 ∧ a2 ≤ 9223372036854775807) ∨ a2 = 0 ∨ a2 = 1 := by omega
      rcases d2 with h2 | h2 | rfl | rfl
      · exact run e84 (.cons _ _ _ _ (.int _ _) (.cons _ _ _ _ (.int _ _) (.cons _ _ _ _ (.rng _ _ _ _ h2.1 h2.2) .nil)))
      · exact run e85 (.cons _ _ _ _ (.int _ _) (.cons _ _ _ _ (.int _ _) (.cons _ _ _ _ (.rng _ _ _ _ h2.1 h2.2) .nil)))
      · exact run e86 (.cons _ _ _ _ (.int _ _) (.cons _ _ _ _ (.int _ _) (.cons _ _ _ _ (.int _ _) .nil)))
      · exact run e87 (.cons _ _ _ _ (.int _ _) (.cons _ _ _ _ (.int _ _) (.cons _ _ _ _ (.int _ _) .nil)))
    · have d2 : ((-9223372036854775808) ≤ a2 ∧ a2 ≤ (-1)) ∨ (2 ≤ a2 ∧ a2 ≤ 9223372036854775807) ∨ a2 = 0 ∨ a2 = 1 := by omega
      rcases d2 with h2 | h2 | rfl | rfl
      · exact run e88 (.cons _ _ _ _ (.int _ _) (.cons _ _ _ _ (.int _ _) (.cons _ _ _ _ (.rng _ _ _ _ h2.1 h2.2) .nil)))
      · exact run e89 (.cons _ _ _ _ (.int _ _) (.cons _ _ _ _ (.int _ _) (.cons _ _ _ _ (.rng _ _ _ _ h2.1 h2.2) .nil)))
      · exact run e90 (.cons _ _ _ _ (.int _ _) (.cons _ _ _ _ (.int _ _) (.cons _ _ _ _ (.int _ _) .nil)))
      · exact run e91 (.cons _ _ _ _ (.int _ _) (.cons _ _ _ _ (.int _ _) (.cons _ _ _ _ (.int _ _) .nil)))
  · have d1 : ((-9223372036854775808) ≤ a1 ∧ a1 ≤ (-1)) ∨ (7 ≤ a1 ∧ a1 ≤ 9223372036854775807) ∨ a1 = 0 ∨ a1 = 1 ∨ a1 = 2 ∨ a1 = 3 ∨ a1 = 4 ∨ a1 = 5 ∨ a1 = 6 := by omega
    rcases d1 with h1 | h1 | rfl | rfl | rfl | rfl | rfl | rfl | rfl
    · have h2 : ((-9223372036854775808) ≤ a2 ∧ a2 ≤ 9223372036854775807) := by omega
      exact run e92 (.cons _ _ _ _ (.int _ _) (.cons _ _ _ _ (.rng _ _ _ _ h1.1 h1.2) (.cons _ _ _ _ (.rng _ _ _ _ h2.1 h2.2) .nil)))
    · have h2 : ((-9223372036854775808) ≤ a2 ∧ a2 ≤ 9223372036854775807) := by omega
      exact run e93 (.cons _ _ _ _ (.int _ _) (.cons _ _ _ _ (.rng _ _ _ _ h1.1 h1.2) (.cons _ _ _ _ (.rng _ _ _ _ h2.1 h2.2) .nil)))
    · have d2 : ((-9223372036854775808) ≤ a2 ∧ a2 ≤ (-1)) ∨ (2 ≤ a2 ∧ a2 ≤ 9223372036854775807) ∨ a2 = 0 ∨ a2 = 1 := by omega
      rcases d2 with h2 | h2 | rfl | rfl
      · exact run e94 (.cons _ _ _ _ (.int _ _) (.cons _ _ _ _ (.int _ _) (.cons _ _ _ _ (.rng _ _ _ _ h2.1 h2.2) .nil)))
      · exact run e95 (.cons _ _ _ _ (.int _ _) (.cons _ _ _ _ (.int _ _) (.cons _ _ _ _ (.rng _ _ _ _ h2.1 h2.2) .nil)))
      · exact run e96 (.cons _ _ _ _ (.int _ _) (.cons _ _ _ _ (.int _ _) (.cons _ _ _ _ (.int _ _) .nil)))
      · exact run e97 (.cons _ _ _ _ (.int _ _) (.cons _ _ _ _ (.int _ _) (.cons _ _ _ _ (.int _ _) .nil)))
    · have d2 : ((-9223372036854775808) ≤ a2 ∧ a2 ≤ (-1)) ∨ (2 ≤ a2 ∧ a2 ≤ 9223372036854775807) ∨ a2 = 0 ∨ a2 = 1 := by omega
      rcases d2 with h2 | h2 | rfl | rfl
      · exact run e98 (.cons _ _ _ _ (.int _ _) (.cons _ _ _ _ (.int _ _) (.cons _ _ _ _ (.rng _ _ _ _ h2.1 h2.2) .nil)))
      · exact run e99 (.cons _ _ _ _ (.int _ _) (.cons _ _ _ _ (.int _ _) (.cons _ _ _ _ (.rng _ _ _ _ h2.1 h2.2) .nil)))
      · exact run e100 (.cons _ _ _ _ (.int _ _) (.cons _ _ _ _ (.int _ _) (.cons _ _ _ _ (.int _ _) .nil)))
      · exact run e101 (.cons _ _ _ _ (.int _ _) (.cons _ _ _ _ (.int _ _) (.cons _ _ _ _ (.int _ _) .nil)))
    · have d2 : ((-9223372036854775808) ≤ a2 ∧ a2 ≤ (-1)) ∨ (2 ≤ a2 ∧ a2 ≤ 9223372036854775807) ∨ a2 = 0 ∨ a2 = 1 := by omega
      rcases d2 with h2 | h2 | rfl | rfl
      · exact run e102 (.cons _ _ _ _ (.int _ _) (.cons _ _ _ _ (.int _ _) (.cons _ _ _ _ (.rng _ _ _ _ h2.1 h2.2) .nil)))
      · exact run e103 (.cons _ _ _ _ (.int _ _) (.cons _ _ _ _ (.int _ _) (.cons _ _ _ _ (.rng _ _ _ _ h2.1 h2.2) .nil)))
      · exact run e104 (.cons _ _ _ _ (.int _ _) (.cons _ _ _ _ (.int _ _) (.cons _ _ _ _ (.int _ _) .nil)))
      · exact run e105 (.cons _ _ _ _ (.int _ _) (.cons _ _ _ _ (.int _ _) (.cons _ _ _ _ (.int _ _) .nil)))
    · have d2 : ((-9223372036854775808) ≤ a2 ∧ a2 ≤ (-1)) ∨ (2 ≤ a2 ∧ a2 ≤ 9223372036854775807) ∨ a2 = 0 ∨ a2 = 1 := by omega
      rcases d2 with h2 | h2 | rfl | rfl
      · exact run e106 (.cons _ _ _ _ (.int _ _) (.cons _ _ _ _ (.int _ _) (.cons _ _ _ _ (.rng _ _ _ _ h2.1 h2.2) .nil)))
      · exact run e107 (.cons _ _ _ _ (.int _ _) (.cons _ _ _ _ (.int _ _) (.cons _ _ _ _ (.rng _ _ _ _ h2.1 h2.2) .nil)))
      · exact run e108 (.cons _ _ _ _ (.int _ _) (.cons _ _ _ _ (.int _ _) (.cons _ _ _ _ (.int _ _) .nil)))
      · exact run e109 (.cons _ _ _ _ (.int _ _) (.cons _ _ _ _ (.int _ _) (.cons _ _ _ _ (.int _ _) .nil)))
    · have d2 : ((-9223372036854775808) ≤ a2 ∧ a2 ≤ (-1)) ∨ (2 ≤ a2 ∧ a2 ≤ 9223372036854775807) ∨ a2 = 0 ∨ a2 = 1 := by omega
      rcases d2 with h2 | h2 | rfl | rfl
      · exact run e110 (.cons _ _ _ _ (.int _ _) (.cons _ _ _ _ (.int _ _) (.cons _ _ _ _ (.rng _ _ _ _ h2.1 h2.2) .nil)))
      · exact run e111 (.cons _ _ _ _ (.int _ _) (.cons _ _ _ _ (.int _ _) (.cons _ _ _ _ (.rng _ _ _ _ h2.1 h2.2) .nil)))
      · exact run e112 (.cons _ _ _ _ (.int _ _) (.cons _ _ _ _ (.int _ _) (.cons _ _ _ _ (.int _ _) .nil)))
      · exact run e113 (.cons _ _ _ _ (.int _ _) (.cons _ _ _ _ (.int _ _) (.cons _ _ _ _ (.int _ _) .nil)))
    · have d2 : ((-9223372036854775808) ≤ a2 ∧ a2 ≤ (-1)) ∨ (2 ≤ a2 ∧ a2 ≤ 9223372036854775807) ∨ a2 = 0 ∨ a2 = 1 := by omega
      rcases d2 with h2 | h2 | rfl | rfl
      · exact run e114 (.cons _ _ _ _ (.int _ _) (.cons _ _ _ _ (.int _ _) (.cons _ _ _ _ (.rng _ _ _ _ h2.1 h2.2) .nil)))
      · exact run e115 (.cons _ _ _ _ (.int _ _) (.cons _ _ _ _ (.int _ _) (.cons _ _ _ _ (.rng _ _ _ _ h2.1 h2.2) .nil)))
      · exact run e116 (.cons _ _ _ _ (.int _ _) (.cons _ _ _ _ (.int _ _) (.cons _ _ _ _ (.int _ _) .nil)))
      · exact run e117 (.cons _ _ _ _ (.int _ _) (.cons _ _ _ _ (.int _ _) (.cons _ _ _ _ (.int _ _) .nil)))
    · have d2 : ((-9223372036854775808) ≤ a2 ∧ a2 ≤ (-1)) ∨ (2 ≤ a2 ∧ a2 ≤ 9223372036854775807) ∨ a2 = 0 ∨ a2 = 1 := by omega
      rcases d2 with h2 | h2 | rfl | rfl
      · exact run e118 (.cons _ _ _ _ (.int _ _) (.cons _ _ _ _ (.int _ _) (.cons _ _ _ _ (.rng _ _ _ _ h2.1 h2.2) .nil)))
      · exact run e119 (.cons _ _ _ _ (.int _ _) (.cons _ _ _ _ (.int _ _) (.cons _ _ _ _ (.rng _ _ _ _ h2.1 h2.2) .nil)))
      · exact run e120 (.cons _ _ _ _ (.int _ _) (.cons _ _ _ _ (.int _ _) (.cons _ _ _ _ (.int _ _) .nil)))
      · exact run e121 (.cons _ _ _ _ (.int _ _) (.cons _ _ _ _ (.int _ _) (.cons _ _ _ _ (.int _ _) .nil)))
  · have d1 : ((-9223372036854775808) ≤ a1 ∧ a1 ≤ (-1)) ∨ (8 ≤ a1 ∧ a1 ≤ 9223372036854775807) ∨ a1 = 0 ∨ a1 = 1 ∨ a1 = 2 ∨ a1 = 3 ∨ a1 = 4 ∨ a1 = 5 ∨ a1 = 6 ∨ a1 = 7 := by omega
    rcases d1 with h1 | h1 | rfl | rfl | rfl | rfl | rfl | rfl | rfl | rfl
    · have h2 : ((-9223372036854775808) ≤ a2 ∧ a2 ≤ 9223372036854775807) := by omega
      exact run e122 (.cons _ _ _ _ (.int _ _) (.cons _ _ _ _ (.rng _ _ _ _ h1.1 h1.2) (.cons _ _ _ _ (.rng _ _ _ _ h2.1 h2.2) .nil)))
    · have h2 : ((-9223372036854775808) ≤ a2 ∧ a2 ≤ 9223372036854775807) := by omega
      exact run e123 (.cons _ _ _ _ (.int _ _) (.cons _ _ _ _ (.rng _ _ _ _ h1.1 h1.2) (.cons _ _ _ _ (.rng _ _ _ _ h2.1 h2.2) .nil)))
    · have d2 : ((-9223372036854775808) ≤ a2 ∧ a2 ≤ (-1)) ∨ (2 ≤ a2 ∧ a2 ≤ 9223372036854775807) ∨ a2 = 0 ∨ a2 = 1 := by omega
      rcases d2 with h2 | h2 | rfl | rfl
      · exact run e124 (.cons _ _ _ _ (.int _ _) (.cons _ _ _ _ (.int _ _) (.cons _ _ _ _ (.rng _ _ _ _ h2.1 h2.2) .nil)))
      · exact run e125 (.cons _ _ _ _ (.int _ _) (.cons _ _ _ _ (.int _ _) (.cons _ _ _ _ (.rng _ _ _ _ h2.1 h2.2) .nil)))
      · exact run e126 (.cons _ _ _ _ (.int _ _) (.cons _ _ _ _ (.int _ _) (.cons _ _ _ _ (.int _ _) .nil)))
      · exact run e127 (.cons _ _ _ _ (.int _ _) (.cons _ _ _ _ (.int _ _) (.cons _ _ _ _ (.int _ _) .nil)))
    · have d2 : ((-9223372036854775808) ≤ a2 ∧ a2 ≤ (-1)) ∨ (2 ≤ a2 ∧ a2 ≤ 9223372036854775807) ∨ a2 = 0 ∨ a2 = 1 := by omega
      rcases d2 with h2 | h2 | rfl | rfl
      · exact run e128 (.cons _ _ _ _ (.int _ _) (.cons _ _ _ _ (.int _ _) (.cons _ _ _ _ (.rng _ _ _ _ h2.1 h2.2) .nil)))
      · exact run e129 (.cons _ _ _ _ (.int _ _) (.cons _ _ _ _ (.int _ _) (.cons _ _ _ _ (.rng _ _ _ _ h2.1 h2.2) .nil)))
      · exact run e130 (.cons _ _ _ _ (.int _ _) (.cons _ _ _ _ (.int _ _) (.cons _ _ _ _ (.int _ _) .nil)))
      · exact run e131 (.cons _ _ _ _ (.int _ _) (.cons _ _ _ _ (.int _ _) (.cons _ _ _ _ (.int _ _) .nil)))
    · have d2 : ((-9223372036854775808) ≤ a2 ∧ a2 ≤ (-1)) ∨ (2 ≤ a2 ∧ a2 ≤ 9223372036854775807) ∨ a2 = 0 ∨ a2 = 1 := by omega
      rcases d2 with h2 | h2 | rfl | rfl
      · exact run e132 (.cons _ _ _ _ (.int _ _) (.cons _ _ _ _ (.int _ _) (.cons _ _ _ _ (.rng _ _ _ _ h2.1 h2.2) .nil)))
      · exact run e133 (.cons _ _ _ _ (.int _ _) (.cons _ _ _ _ (.int _ _) (.cons _ _ _ _ (.rng _ _ _ _ h2.1 h2.2) .nil)))
      · exact run e134 (.cons _ _ _ _ (.int _ _) (.cons _ _ _ _ (.int _ _) (.cons _ _ _ _ (.int _ _) .nil)))
      · exact run e135 (.cons _ _ _ _ (.int _ _) (.cons _ _ _ _ (.int _ _) (.cons _ _ _ _ (.int _ _) .nil)))
    · have d2 : ((-9223372036854775808) ≤ a2 ∧ a2 ≤ (-1)) ∨ (2 ≤ a2 ∧ a2 ≤ 9223372036854775807) ∨ a2 = 0 ∨ a2 = 1 := by omega
      rcases d2 with h2 | h2 | rfl | rfl
      · exact run e136 (.cons _ _ _ _ (.int _ _) (.cons _ _ _ _ (.int _ _) (.cons _ _ _ _ (.rng _ _ _ _ h2.1 h2.2) .nil)))
      · exact run e137 (.cons _ _ _ _ (.int _ _) (.cons _ _ _ _ (.int _ _) (.cons _ _ _ _ (.rng _ _ _ _ h2.1 h2.2) .nil)))
      · exact run e138 (.cons _ _ _ _ (.int _ _) (.cons _ _ _ _ (.int _ _) (.cons _ _ _ _ (.int _ _) .nil)))
      · exact run e139 (.cons _ _ _ _ (.int _ _) (.cons _ _ _ _ (.int _ _) (.cons _ _ _ _ (.int _ _) .nil)))
    · have d2 : ((-9223372036854775808) ≤ a2 ∧ a2 ≤ (-1)) ∨ (2 ≤ a2 ∧ a2 ≤ 9223372036854775807) ∨ a2 = 0 ∨ a2 = 1 := by omega
      rcases d2 with h2 | h2 | rfl | rfl
      · exact run e140 (.cons _ _ _ _ (.int _ _) (.cons _ _ _ _ (.int _ _) (.cons _ _ _ _ (.rng _ _ _ _ h2.1 h2.2) .nil)))
      · exact run e141 (.cons _ _ _ _ (.int _ _) (.cons _ _ _ _ (.int _ _) (.cons _ _ _ _ (.rng _ _ _ _ h2.1 h2.2) .nil)))
      · exact run e142 (.cons _ _ _ _ (.int _ _) (.cons _ _ _ _ (.int _ _) (.cons _ _ _ _ (.int _ _) .nil)))
      · exact run e143 (.cons _ _ _ _ (.int _ _) (.cons _ _ _ _ (.int _ _) (.cons _ _ _ _ (.int _ _) .nil)))
    · have d2 : ((-9223372036854775808) ≤ a2 ∧ a2 ≤ (-1)) ∨ (2 ≤ a2 ∧ a2 ≤ 9223372036854775807) ∨ a2 = 0 ∨ a2 = 1 := by omega
      rcases d2 with h2 | h2 | rfl | rfl
      · exact run e144 (.cons _ _ _ _ (.int _ _) (.cons _ _ _ _ (.int _ _) (.cons _ _ _ _ (.rng _ _ _ _ h2.1 h2.2) .nil)))
      · exact run e145 (.cons _ _ _ _ (.int _ _) (.cons _ _ _ _ (.int _ _) (.cons _ _ _ _ (.rng _ _ _ _ h2.1 h2.2) .nil)))
      · exact run e146 (.cons _ _ _ _ (.int _ _) (.cons _ _ _ _ (.int _ _) (.cons _ _ _ _ (.int _ _) .nil)))
      · exact run e147 (.cons _ _ _ _ (.int _ _) (.cons _ _ _ _ (.int _ _) (.cons _ _ _ _ (.int _ _) .nil)))
    · have d2 : ((-9223372036854775808) ≤ a2 ∧ a2 ≤ (-1)) ∨ (2 ≤ a2 ∧ a2 ≤ 9223372036854775807) ∨ a2 = 0 ∨ a2 = 1 := by omega
      rcases d2 with h2 | h2 | rfl | rfl
      · exact run e148 (.cons _ _ _ _ (.int _ _) (.cons _ _ _ _ (.int _ _) (.cons _ _ _ _ (.rng _ _ _ _ h2.1 h2.2) .nil)))
      · exact run e149 (.cons _ _ _ _ (.int _ _) (.cons _ _ _ _ (.int _ _) (.cons _ _ _ _ (.rng _ _ _ _ h2.1 h2.2) .nil)))
      · exact run e150 (.cons _ _ _ _ (.int _ _) (.cons _ _ _ _ (.int _ _) (.cons _ _ _ _ (.int _ _) .nil)))
      · exact run e151 (.cons _ _ _ _ (.int _ _) (.cons _ _ _ _ (.int _ _) (.cons _ _ _ _ (.int _ _) .nil)))
    · have d2 : ((-9223372036854775808) ≤ a2 ∧ a2 ≤ (-1)) ∨ (2 ≤ a2 ∧ a2 ≤ 9223372036854775807) ∨ a2 = 0 ∨ a2 = 1 := by omega
      rcases d2 with h2 | h2 | rfl | rfl
      · exact run e152 (.cons _ _ _ _ (.int _ _) (.cons _ _ _ _ (.int _ _) (.cons _ _ _ _ (.rng _ _ _ _ h2.1 h2.2) .nil)))
      · exact run e153 (.cons _ _ _ _ (.int _ _) (.cons _ _ _ _ (.int _ _) (.cons _ _ _ _ (.rng _ _ _ _ h2.1 h2.2) .nil)))
      · exact run e154 (.cons _ _ _ _ (.int _ _) (.cons _ _ _ _ (.int _ _) (.cons _ _ _ _ (.int _ _) .nil)))
      · exact run e155 (.cons _ _ _ _ (.int _ _) (.cons _ _ _ _ (.int _ _) (.cons _ _ _ _ (.int _ _) .nil)))
  · have d1 : ((-9223372036854775808) ≤ a1 ∧ a1 ≤ (-1)) ∨ (9 ≤ a1 ∧ a1 ≤ 9223372036854775807) ∨ a1 = 0 ∨ a1 = 1 ∨ a1 = 2 ∨ a1 = 3 ∨ a1 = 4 ∨ a1 = 5 ∨ a1 = 6 ∨ a1 = 7 ∨ a1 = 8 := by omega
    rcases d1 with h1 | h1 | rfl | rfl | rfl | rfl | rfl | rfl | rfl | rfl | rfl
    · have h2 : ((-9223372036854775808) ≤ a2 ∧ a2 ≤ 9223372036854775807) := by omega
      exact run e156 (.cons _ _ _ _ (.int _ _) (.cons _ _ _ _ (.rng _ _ _ _ h1.1 h1.2) (.cons _ _ _ _ (.rng _ _ _ _ h2.1 h2.2) .nil)))
    · have h2 : ((-9223372036854775808) ≤ a2 ∧ a2 ≤ 9223372036854775807) := by omega
      exact run e157 (.cons _ _ _ _ (.int _ _) (.cons _ _ _ _ (.rng _ _ _ _ h1.1 h1.2) (.cons _ _ _ _ (.rng _ _ _ _ h2.1 h2.2) .nil)))
    · have d2 : ((-9223372036854775808) ≤ a2 ∧ a2 ≤ (-1)) ∨ (2 ≤ a2 ∧ a2 ≤ 9223372036854775807) ∨ a2 = 0 ∨ a2 = 1 := by omega
      rcases d2 with h2 | h2 | rfl | rfl
      · exact run e158 (.cons _ _ _ _ (.int _ _) (.cons _ _ _ _ (.int _ _) (.cons _ _ _ _ (.rng _ _ _ _ h2.1 h2.2) .nil)))
      · exact run e159 (.cons _ _ _ _ (.int _ _) (.cons _ _ _ _ (.int _ _) (.cons _ _ _ _ (.rng _ _ _ _ h2.1 h2.2) .nil)))
      · exact run e160 (.cons _ _ _ _ (.int _ _) (.cons _ _ _ _ (.int _ _) (.cons _ _ _ _ (.int _ _) .nil)))
      · exact run e161 (.cons _ _ _ _ (.int _ _) (.cons _ _ _ _ (.int _ _) (.cons _ _ _ _ (.int _ _) .nil)))
    · have d2 : ((-9223372036854775808) ≤ a2 ∧ a2 ≤ (-1)) ∨ (2 ≤ a2 ∧ a2 ≤ 9223372036854775807) ∨ a2 = 0 ∨ a2 = 1 := by omega
      rcases d2 with h2 | h2 | rfl | rfl
      · exact run e162 (.cons _ _ _ _ (.int _ _) (.cons _ _ _ _ (.int _ _) (.cons _ _ _ _ (.rng _ _ _ _ h2.1 h2.2) .nil)))
      · exact run e163 (.cons _ _ _ _ (.int _ _) (.cons _ _ _ _ (.int _ _) (.cons _ _ _ _ (.rng _ _ _ _ h2.1 h2.2) .nil)))
      · exact run e164 (.cons _ _ _ _ (.int _ _) (.cons _ _ _ _ (.int _ _) (.cons _ _ _ _ (.int _ _) .nil)))
      · exact run e165 (.cons _ _ _ _ (.int _ _) (.cons _ _ _ _ (.int _ _) (.cons _ _ _ _ (.int _ _) .nil)))
    · have d2 : ((-9223372036854775808) ≤ a2 ∧ a2 ≤ (-1)) ∨ (2 ≤ a2 ∧ a2 ≤ 9223372036854775807) ∨ a2 = 0 ∨ a2 = 1 := by omega
      rcases d2 with h2 | h2 | rfl | rfl
      · exact run e166 (.cons _ _ _ _ (.int _ _) (.cons _ _ _ _ (.int _ _) (.cons _ _ _ _ (.rng _ _ _ _ h2.1 h2.2) .nil)))
      · exact run e167 (.cons _ _ _ _ (.int _ _) (.cons _ _ _ _ (.int _ _) (.cons _ _ _ _ (.rng _ _ _ _ h2.1 h2.2) .nil)))
      · exact run e168 (.cons _ _ _ _ (.int _ _) (.cons _ _ _ _ (.int _ _) (.cons _ _ _ _ (.int _ _) .nil)))
      · exact run e169 (.cons _ _ _ _ (.int _ _) (.cons _ _ _ _ (.int _ _) (.cons _ _ _ _ (.int _ _) .nil)))
    · have d2 : ((-9223372036854775808) ≤ a2 ∧ a2 ≤ (-1)) ∨ (2 ≤ a2 ∧ a2 ≤ 9223372036854775807) ∨ a2 = 0 ∨ a2 = 1 := by omega
      rcases d2 with h2 | h2 | rfl | rfl
      · exact run e170 (.cons _ _ _ _ (.int _ _) (.cons _ _ _ _ (.int _ _) (.cons _ _ _ _ (.rng _ _ _ _ h2.1 h2.2) .nil)))
      · exact run e171 (.cons _ _ _ _ (.int _ _) (.cons _ _ _ _ (.int _ _) (.cons _ _ _ _ (.rng _ _ _ _ h2.1 h2.2) .nil)))
      · exact run e172 (.cons _ _ _ _ (.int _ _) (.cons _ _ _ _ (.int _ _) (.cons _ _ _ _ (.int _ _) .nil)))
      · exact run e173 (.cons _ _ _ _ (.int _ _) (.cons _ _ _ _ (.int _ _) (.cons _ _ _ _ (.int _ _) .nil)))
    · have d2 : ((-9223372036854775808) ≤ a2 ∧ a2 ≤ (-1)) ∨ (2 ≤ a2 ∧ a2 ≤ 9223372036854775807) ∨ a2 = 0 ∨ a2 = 1 := by omega
      rcases d2 with h2 | h2 | rfl | rfl
      · exact run e174 (.cons _ _ _ _ (.int _ _) (.cons _ _ _ _ (.int _ _) (.cons _ _ _ _ (.rng _ _ _ _ h2.1 h2.2) .nil)))
      · exact run e175 (.cons _ _ _ _ (.int _ _) (.cons _ _ _ _ (.int _ _) (.cons _ _ _ _ (.rng _ _ _ _ h2.1 h2.2) .nil)))
      · exact run e176 (.cons _ _ _ _ (.int _ _) (.cons _ _ _ _ (.int _ _) (.cons _ _ _ _ (.int _ _) .nil)))
      · exact run e177 (.cons _ _ _ _ (.int _ _) (.cons _ _ _ _ (.int _ _) (.cons _ _ _ _ (.int _ _) .nil)))
    · have d2 : ((-9223372036854775808) ≤ a2 ∧ a2 ≤ (-1)) ∨ (2 ≤ a2 ∧ a2 ≤ 9223372036854775807) ∨ a2 = 0 ∨ a2 = 1 := by omega
      rcases d2 with h2 | h2 | rfl | rfl
      · exact run e178 (.cons _ _ _ _ (.int _ _) (.cons _ _ _ _ (.int _ _) (.cons _ _ _ _ (.rng _ _ _ _ h2.1 h2.2) .nil)))
      · exact run e179 (.cons _ _ _ _ (.int _ _) (.cons _ _ _ _ (.int _ _) (.cons _ _ _ _ (.rng _ _ _ _ h2.1 h2.2) .nil)))
      · exact run e180 (.cons _ _ _ _ (.int _ _) (.cons _ _ _ _ (.int _ _) (.cons _ _ _ _ (.int _ _) .nil)))
      · exact run e181 (.cons _ _ _ _ (.int _ _) (.cons _ _ _ _ (.int _ _) (.cons _ _ _ _ (.int _ _) .nil)))
    · have d2 : ((-9223372036854775808) ≤ a2 ∧ a2 ≤ (-1)) ∨ (2 ≤ a2 ∧ a2 ≤ 9223372036854775807) ∨ a2 = 0 ∨ a2 = 1 := by omega
      rcases d2 with h2 | h2 | rfl | rfl
      · exact run e182 (.cons _ _ _ _ (.int _ _) (.cons _ _ _ _ (.int _ _) (.cons _ _ _ _ (.rng _ _ _ _ h2.1 h2.2) .nil)))
      · exact run e183 (.cons _ _ _ _ (.int _ _) (.cons _ _ _ _ (.int _ _) (.cons _ _ _ _ (.rng _ _ _ _ h2.1 h2.2) .nil)))
      · exact run e184 (.cons _ _ _ _ (.int _ _) (.cons _ _ _ _ (.int _ _) (.cons _ _ _ _ (.int _ _) .nil)))
      · exact run e185 (.cons _ _ _ _ (.int _ _) (.cons _ _ _ _ (.int _ _) (.cons _ _ _ _ (.int _ _) .nil)))
    · have d2 : ((-9223372036854775808) ≤ a2 ∧ a2 ≤ (-1)) ∨ (2 ≤ a2 ∧ a2 ≤ 9223372036854775807) ∨ a2 = 0 ∨ a2 = 1 := by omega
      rcases d2 with h2 | h2 | rfl | rfl
      · exact run e186 (.cons _ _ _ _ (.int _ _) (.cons _ _ _ _ (.int _ _) (.cons _ _ _ _ (.rng _ _ _ _ h2.1 h2.2) .nil)))
      · exact run e187 (.cons _ _ _ _ (.int _ _) (.cons _ _ _ _ (.int _ _) (.cons _ _ _ _ (.rng _ _ _ _ h2.1 h2.2) .nil)))
      · exact run e188 (.cons _ _ _ _ (.int _ _) (.cons _ _ _ _ (.int _ _) (.cons _ _ _ _ (.int _ _) .nil)))
      · exact run e189 (.cons _ _ _ _ (.int _ _) (.cons _ _ _ _ (.int _ _) (.cons _ _ _ _ (.int _ _) .nil)))
    · have d2 : ((-9223372036854775808) ≤ a2 ∧ a2 ≤ (-1)) ∨ (2 ≤ a2 ∧ a2 ≤ 9223372036854775807) ∨ a2 = 0 ∨ a2 = 1 := by omega
      rcases d2 with h2 | h2 | rfl | rfl
      · exact run e190 (.cons _ _ _ _ (.int _ _) (.cons _ _ _ _ (.int _ _) (.cons _ _ _ _ (.rng _ _ _ _ h2.1 h2.2) .nil)))
      · exact run e191 (.cons _ _ _ _ (.int _ _) (.cons _ _ _ _ (.int _ _) (.cons _ _ _ _ (.rng _ _ _ _ h2.1 h2.2) .nil)))
      · exact run e192 (.cons _ _ _ _ (.int _ _) (.cons _ _ _ _ (.int _ _) (.cons _ _ _ _ (.int _ _) .nil)))
      · exact run e193 (.cons _ _ _ _ (.int _ _) (.cons _ _ _ _ (.int _ _) (.cons _ _ _ _ (.int _ _) .nil)))
  · have d1 : ((-9223372036854775808) ≤ a1 ∧ a1 ≤ (-1)) ∨ (10 ≤ a1 ∧ a1 ≤ 9223372036854775807) ∨ a1 = 0 ∨ a1 = 1 ∨ a1 = 2 ∨ a1 = 3 ∨ a1 = 4 ∨ a1 = 5 ∨ a1 = 6 ∨ a1 = 7 ∨ a1 = 8 ∨ a1 = 9 := by omega
    rcases d1 with h1 | h1 | rfl | rfl | rfl | rfl | rfl | rfl | rfl | rfl | rfl | rfl
    · have h2 : ((-9223372036854775808) ≤ a2 ∧ a2 ≤ 9223372036854775807) := by omega
      exact run e194 (.cons _ _ _ _ (.int _ _) (.cons _ _ _ _ (.rng _ _ _ _ h1.1 h1.2) (.cons _ _ _ _ (.rng _ _ _ _ h2.1 h2.2) .nil)))
    · have h2 : ((-9223372036854775808) ≤ a2 ∧ a2 ≤ 9223372036854775807) := by omega
      exact run e195 (.cons _ _ _ _ (.int _ _) (.cons _ _ _ _ (.rng _ _ _ _ h1.1 h1.2) (.cons _ _ _ _ (.rng _ _ _ _ h2.1 h2.2) .nil)))
    · have d2 : ((-9223372036854775808) ≤ a2 ∧ a2 ≤ (-1)) ∨ (2 ≤ a2 ∧ a2 ≤ 9223372036854775807) ∨ a2 = 0 ∨ a2 = 1 := by omega
      rcases d2 with h2 | h2 | rfl | rfl
      · exact run e196 (.cons _ _ _ _ (.int _ _) (.cons _ _ _ _ (.int _ _) (.cons _ _ _ _ (.rng _ _ _ _ h2.1 h2.2) .nil)))
      · exact run e197 (.cons _ _ _ _ (.int _ _) (.cons _ _ _ _ (.int _ _) (.cons _ _ _ _ (.rng _ _ _ _ h2.1 h2.2) .nil)))
      · exact run e198 (.cons _ _ _ _ (.int _ _) (.cons _ _ _ _ (.int _ _) (.cons _ _ _ _ (.int _ _) .nil)))
      · exact run e199 (.cons _ _ _ _ (.int _ _) (.cons _ _ _ _ (.int _ _) (.cons _ _ _ _ (.int _ _) .nil)))
    · have d2 : ((-9223372036854775808) ≤ a2 ∧ a2 ≤ (-1)) ∨ (2 ≤ a2 ∧ a2 ≤ 9223372036854775807) ∨ a2 = 0 ∨ a2 = 1 := by omega
      rcases d2 with h2 | h2 | rfl | rfl
      · exact run e200 (.cons _ _ _ _ (.int _ _) (.cons _ _ _ _ (.int _ _) (.cons _ _ _ _ (.rng _ _ _ _ h2.1 h2.2) .nil)))
      · exact run e201 (.cons _ _ _ _ (.int _ _) (.cons _ _ _ _ (.int _ _) (.cons _ _ _ _ (.rng _ _ _ _ h2.1 h2.2) .nil)))
      · exact run e202 (.cons _ _ _ _ (.int _ _) (.cons _ _ _ _ (.int _ _) (.cons _ _ _ _ (.int _ _) .nil)))
      · exact run e203 (.cons _ _ _ _ (.int _ _) (.cons _ _ _ _ (.int _ _) (.cons _ _ _ _ (.int _ _) .nil)))
    · have d2 : ((-9223372036854775808) ≤ a2 ∧ a2 ≤ (-1)) ∨ (2 ≤ a2 ∧ a2 ≤ 9223372036854775807) ∨ a2 = 0 ∨ a2 = 1 := by omega
      rcases d2 with h2 | h2 | rfl | rfl
      · exact run e204 (.cons _ _ _ _ (.int _ _) (.cons _ _ _ _ (.int _ _) (.cons _ _ _ _ (.rng _ _ _ _ h2.1 h2.2) .nil)))
      · exact run e205 (.cons _ _ _ _ (.int _ _) (.cons _ _ _ _ (.int _ _) (.cons _ _ _ _ (.rng _ _ _ _ h2.1 h2.2) .nil)))
      · exact run e206 (.cons _ _ _ _ (.int _ _) (.cons _ _ _ _ (.int _ _) (.cons _ _ _ _ (.int _ _) .nil)))
      · exact run e207 (.cons _ _ _ _ (.int _ _) (.cons _ _ _ _ (.int _ _) (.cons _ _ _ _ (.int _ _) .nil)))
    · have d2 : ((-9223372036854775808) ≤ a2 ∧ a2 ≤ (-1)) ∨ (2 ≤ a2 ∧ a2 ≤ 9223372036854775807) ∨ a2 = 0 ∨ a2 = 1 := by omega
      rcases d2 with h2 | h2 | rfl | rfl
      · exact run e208 (.cons _ _ _ _ (.int _ _) (.cons _ _ _ _ (.int _ _) (.cons _ _ _ _ (.rng _ _ _ _ h2.1 h2.2) .nil)))
      · exact run e209 (.cons _ _ _ _ (.int _ _) (.cons _ _ _ _ (.int _ _) (.cons _ _ _ _ (.rng _ _ _ _ h2.1 h2.2) .nil)))
      · exact run e210 (.cons _ _ _ _ (.int _ _) (.cons _ _ _ _ (.int _ _) (.cons _ _ _ _ (.int _ _) .nil)))
      · exact run e211 (.cons _ _ _ _ (.int _ _) (.cons _ _ _ _ (.int _ _) (.cons _ _ _ _ (.int _ _) .nil)))
    · have d2 : ((-9223372036854775808) ≤ a2 ∧ a2 ≤ (-1)) ∨ (2 ≤ a2 ∧ a2 ≤ 9223372036854775807) ∨ a2 = 0 ∨ a2 = 1 := by omega
      rcases d2 with h2 | h2 | rfl | rfl
      · exact run e212 (.cons _ _ _ _ (.int _ _) (.cons _ _ _ _ (.int _ _) (.cons _ _ _ _ (.rng _ _ _ _ h2.1 h2.2) .nil)))
      · exact run e213 (.cons _ _ _ _ (.int _ _) (.cons _ _ _ _ (.int _ _) (.cons _ _ _ _ (.rng _ _ _ _ h2.1 h2.2) .nil)))
      · exact run e214 (.cons _ _ _ _ (.int _ _) (.cons _ _ _ _ (.int _ _) (.cons _ _ _ _ (.int _ _) .nil)))
      · exact run e215 (.cons _ _ _ _ (.int _ _) (.cons _ _ _ _ (.int _ _) (.cons _ _ _ _ (.int _ _) .nil)))
    · have d2 : ((-9223372036854775808) ≤ a2 ∧ a2 ≤ (-1)) ∨ (2 ≤ a2 ∧ a2 ≤ 9223372036854775807) ∨ a2 = 0 ∨ a2 = 1 := by omega
      rcases d2 with h2 | h2 | rfl | rfl
      · exact run e216 (.cons _ _ _ _ (.int _ _) (.cons _ _ _ _ (.int _ _) (.cons _ _ _ _ (.rng _ _ _ _ h2.1 h2.2) .nil)))
      · exact run e217 (.cons _ _ _ _ (.int _ _) (.cons _ _ _ _ (.int _ _) (.cons _ _ _ _ (.rng _ _ _ _ h2.1 h2.2) .nil)))
      · exact run e218 (.cons _ _ _ _ (.int _ _) (.cons _ _ _ _ (.int _ _) (.cons _ _ _ _ (.int _ _) .nil)))
      · exact run e219 (.cons _ _ _ _ (.int _ _) (.cons _ _ _ _ (.int _ _) (.cons _ _ _ _ (.int _ _) .nil)))
    · have d2 : ((-9223372036854775808) ≤ a2 ∧ a2 ≤ (-1)) ∨ (2 ≤ a2 ∧ a2 ≤ 9223372036854775807) ∨ a2 = 0 ∨ a2 = 1 := by omega
      rcases d2 with h2 | h2 | rfl | rfl
      · exact run e220 (.cons _ _ _ _ (.int _ _) (.cons _ _ _ _ (.int _ _) (.cons _ _ _ _ (.rng _ _ _ _ h2.1 h2.2) .nil)))
      · exact run e221 (.cons _ _ _ _ (.int _ _) (.cons _ _ _ _ (.int _ _) (.cons _ _ _ _ (.rng _ _ _ _ h2.1 h2.2) .nil)))
      · exact run e222 (.cons _ _ _ _ (.int _ _) (.cons _ _ _ _ (.int _ _) (.cons _ _ _ _ (.int _ _) .nil)))
      · exact run e223 (.cons _ _ _ _ (.int _ _) (.cons _ _ _ _ (.int _ _) (.cons _ _ _ _ (.int _ _) .nil)))
    · have d2 : ((-9223372036854775808) ≤ a2 ∧ a2 ≤ (-1)) ∨ (2 ≤ a2 ∧ a2 ≤ 9223372036854775807) ∨ a2 = 0 ∨ a2 = 1 := by omega
      rcases d2 with h2 | h2 | rfl | rfl
      · exact run e224 (.cons _ _ _ _ (.int _ _) (.cons _ _ _ _ (.int _ _) (.cons _ _ _ _ (.rng _ _ _ _ h2.1 h2.2) .nil)))
      · exact run e225 (.cons _ _ _ _ (.int _ _) (.cons _ _ _ _ (.int _ _) (.cons _ _ _ _ (.rng _ _ _ _ h2.1 h2.2) .nil)))
      · exact run e226 (.cons _ _ _ _ (.int _ _) (.cons _ _ _ _ (.int _ _) (.cons _ _ _ _ (.int _ _) .nil)))
      · exact run e227 (.cons _ _ _ _ (.int _ _) (.cons _ _ _ _ (.int _ _) (.cons _ _ _ _ (.int _ _) .nil)))
    · have d2 : ((-9223372036854775808) ≤ a2 ∧ a2 ≤ (-1)) ∨ (2 ≤ a2 ∧ a2 ≤ 9223372036854775807) ∨ a2 = 0 ∨ a2 = 1 := by omega
      rcases d2 with h2 | h2 | rfl | rfl
      · exact run e228 (.cons _ _ _ _ (.int _ _) (.cons _ _ _ _ (.int _ _) (.cons _ _ _ _ (.rng _ _ _ _ h2.1 h2.2) .nil)))
      · exact run e229 (.cons _ _ _ _ (.int _ _) (.cons _ _ _ _ (.int _ _) (.cons _ _ _ _ (.rng _ _ _ _ h2.1 h2.2) .nil)))
      · exact run e230 (.cons _ _ _ _ (.int _ _) (.cons _ _ _ _ (.int _ _) (.cons _ _ _ _ (.int _ _) .nil)))
      · exact run e231 (.cons _ _ _ _ (.int _ _) (.cons _ _ _ _ (.int _ _) (.cons _ _ _ _ (.int _ _) .nil)))
    · have d2 : ((-9223372036854775808) ≤ a2 ∧ a2 ≤ (-1)) ∨ (2 ≤ a2 ∧ a2 ≤ 9223372036854775807) ∨ a2 = 0 ∨ a2 = 1 := by omega
      rcases d2 with h2 | h2 | rfl | rfl
      · exact run e232 (.cons _ _ _ _ (.int _ _) (.cons _ _ _ _ (.int _ _) (.cons _ _ _ _ (.rng _ _ _ _ h2.1 h2.2) .nil)))
      · exact run e233 (.cons _ _ _ _ (.int _ _) (.cons _ _ _ _ (.int _ _) (.cons _ _ _ _ (.rng _ _ _ _ h2.1 h2.2) .nil)))
      · exact run e234 (.cons _ _ _ _ (.int _ _) (.cons _ _ _ _ (.int _ _) (.cons _ _ _ _ (.int _ _) .nil)))
      · exact run e235 (.cons _ _ _ _ (.int _ _) (.cons _ _ _ _ (.int _ _) (.cons _ _ _ _ (.int _ _) .nil)))

/-! ### THE ROW's STEP: WRITTEN OUT: LEAVE IT -/
set_option maxRecDepth 100000 in
theorem lifted (os : Os) (started : os.Started) (H : Type) (enc : TypeId × Value → H) :
    ReturnsInHanded {} Tryz.checked os 11 .any (Rows.causeRingsSpec.pre6 enc Tryz.prog Tryz.f11 Rows.causeRingsRow.domain false) (Rows.causeRingsSpec.post enc Tryz.prog Tryz.f11 false true false false) := by
  refine returnsInHanded_of_change (C := Tryz.checked) own started (by kernel_rfl) Tryz.func11
    (ChangeSpec.witness6 (enc := enc) (C := Tryz.checked) false ⟨#[], #[.int .i64 0, .int .i64 0, .int .i64 0], []⟩ 8 (by kernel_rfl) (by kernel_rfl) (by kernel_rfl) (by kernel_rfl)) ?_
  intro W base args ds gs before hval0 hW hcnd _
  have hval : ∀ (j : Nat) t v, Tryz.f11.params[j]? = some t → args[j]? = some v → Value.okWide Tryz.prog W .any base t v := hval0
  have hW' := hW
  obtain ⟨p, q, hA0, hV, rfl, hfz, hnd⟩ := hW
  have hA : DataW.TrodAll enc Tryz.prog W 0 (fun _ => true) true Tryz.f11.params.toList args.toList ds p := hA0
  rw [Tryz.params11] at hA hval
  obtain ⟨v0, vs0, d0, ds0, p0, q0, hargs, rfl, rfl, h0, r0⟩ := trodAll_cons hA
  obtain ⟨v1, vs1, d1, ds1, p1, q1, rfl, rfl, rfl, h1, r1⟩ := trodAll_cons r0
  obtain ⟨v2, vs2, d2, ds2, p2, q2, rfl, rfl, rfl, h2, r2⟩ := trodAll_cons r1
  obtain ⟨rfl, rfl, rfl⟩ := trodAll_nil r2
  obtain rfl : args = #[v0, v1, v2] := by cases args; simp_all
  obtain ⟨rfl, rfl⟩ := trodVars_none hV
  obtain ⟨a0, rfl, rfl, rfl, w0⟩ := open_int Tryz.underlying3 (hval 0 3 v0 rfl rfl) h0
  obtain ⟨a1, rfl, rfl, rfl, w1⟩ := open_int Tryz.underlying3 (hval 1 3 v1 rfl rfl) h1
  obtain ⟨a2, rfl, rfl, rfl, w2⟩ := open_int Tryz.underlying3 (hval 2 3 v2 rfl rfl) h2
  clear hA0 hval0
  simp only [List.append_nil] at hW'
  refine (walk a0 a1 a2 w0 w1 w2 W).mono fun e W' ⟨he, hg⟩ => ?_
  subst he
  exact ⟨_, rfl, post_of_same (pa := []) (pv := []) hW' (fun _ _ _ => (trodAll_cons_mk (shut_bool Tryz.underlying4 _) trodAll_mk0)) (fun sp _ => (trodAll_cons_mk (shut_int Tryz.underlying3 w0) (trodAll_cons_mk (shut_int Tryz.underlying3 w1) (trodAll_cons_mk (shut_int Tryz.underlying3 w2) trodAll_mk0)))) (fun _ _ => rfl) rfl
    (hg.frame _) hg.2.1 (ok_one (by kernel_rfl) rfl (okWide_bool_mk Tryz.underlying4 _))⟩

theorem over : Rows.causeRingsRow.holds Tryz.pinned (OpenSpec.ofChange Rows.causeRingsSpec) :=
  OpenClaim.holds_of_wide 11 Tryz.f11 rfl rfl rfl rfl rfl rfl rfl ⟨rfl, rfl, rfl, rfl, rfl⟩ rfl rfl rfl rfl rfl (by kernel_rfl) Tryz.func11 (by kernel_rfl)
    (of_decide_eq_true (by kernel_rfl)) (by unfold Func.isWrapper; first | (rw [if_pos (by decide +kernel)]; kernel_rfl) | (rw [if_neg (by decide +kernel)]; exact ⟨rfl, rfl⟩))
    (fun os started H enc _ => lifted os started H enc)

/-- ████ THE STATEMENT ████ -/
theorem proved : Rows.CauseRingsSaid :=
  over
#print axioms proved
end Go.Proofs.YtlonlfiaclacdaaGreat.causeRings
