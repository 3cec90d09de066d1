/-
  NamesWrong: the law returns true, whatever it is called at; no condition.
  The walk is by a verified evaluator of the translated code (YtlonlfiaclacdaaAb1 .. YtlonlfiaclacdaaAb24, and the functions written out for the kernel, YtlonlfiaclacdaaK1 ..: own work), which the kernel runs, case by case.
-/
import Derived.Test.YtlonlfiaclacdaaRows
import Derived.WalkKit
import Derived.ProofKit
import Derived.OpenShut
import Derived.Test.YtlonlfiaclacdaaK2
import Derived.Test.YtlonlfiaclacdaaEq
import Derived.KernelRfl
namespace Go.Proofs.Ytlonlfiaclacdaa.namesWrong
open Go.ChangeShapes Go.WideShapes Go.ChangeAt Go.RowKit
set_option linter.unusedVariables false      -- a walk need not use every 'w<i>' (that an integer argument fits its kind)

theorem own : ownKnob Try.prog.godebug = none := by kernel_rfl

/-! ### STEP 1: THE WALK, by the evaluator -/
theorem alive : Go.Ab.evalsH YtlonlfiaclacdaaK.table (nat_lit 300) (nat_lit 8) [] = true := by kernel_rfl
noncomputable def memo : Go.Ab.Memo Try.prog := Go.Ab.Memo.addTrue YtlonlfiaclacdaaK.table (Go.Ab.Memo.nil Try.prog) (nat_lit 8) (nat_lit 300) alive
theorem ext : Go.Ab.ExtOk Try.prog := Go.Ab.extOk_of_at Try.prog 61 Try.f61 Try.func61 (by kernel_rfl) (by kernel_rfl) (by kernel_rfl) (by kernel_rfl)
theorem run {avs : List Go.Ab.AV} {cargs : List Value} {w : World} (h : Go.Ab.evalsX YtlonlfiaclacdaaK.table memo YtlonlfiaclacdaaE.nats (nat_lit 300) (nat_lit 5) avs = true) (ha : Go.Ab.VRs (fun _ _ => none) avs cargs) :
    Calls Try.prog 5 cargs.toArray w fun e w' => e = .returned (.bool true) ∧ Grown w w' :=
  Go.Ab.calls_of_evalsX YtlonlfiaclacdaaK.table memo YtlonlfiaclacdaaE.nats ext h ha
/-! the cases, each by the kernel -/
theorem e0 : Go.Ab.evalsX YtlonlfiaclacdaaK.table memo YtlonlfiaclacdaaE.nats (nat_lit 300) (nat_lit 5) [.rng .i64 (.negSucc (nat_lit 9223372036854775807)) (.negSucc (nat_lit 0))] = true := by kernel_rfl
theorem e1 : Go.Ab.evalsX YtlonlfiaclacdaaK.table memo YtlonlfiaclacdaaE.nats (nat_lit 300) (nat_lit 5) [.rng .i64 (.ofNat (nat_lit 13)) (.ofNat (nat_lit 9223372036854775807))] = true := by kernel_rfl
theorem e2 : Go.Ab.evalsX YtlonlfiaclacdaaK.table memo YtlonlfiaclacdaaE.nats (nat_lit 300) (nat_lit 5) [.int .i64 (.ofNat (nat_lit 0))] = true := by kernel_rfl
theorem e3 : Go.Ab.evalsX YtlonlfiaclacdaaK.table memo YtlonlfiaclacdaaE.nats (nat_lit 300) (nat_lit 5) [.int .i64 (.ofNat (nat_lit 1))] = true := by kernel_rfl
theorem e4 : Go.Ab.evalsX YtlonlfiaclacdaaK.table memo YtlonlfiaclacdaaE.nats (nat_lit 300) (nat_lit 5) [.int .i64 (.ofNat (nat_lit 2))] = true := by kernel_rfl
theorem e5 : Go.Ab.evalsX YtlonlfiaclacdaaK.table memo YtlonlfiaclacdaaE.nats (nat_lit 300) (nat_lit 5) [.int .i64 (.ofNat (nat_lit 3))] = true := by kernel_rfl
theorem e6 : Go.Ab.evalsX YtlonlfiaclacdaaK.table memo YtlonlfiaclacdaaE.nats (nat_lit 300) (nat_lit 5) [.int .i64 (.ofNat (nat_lit 4))] = true := by kernel_rfl
theorem e7 : Go.Ab.evalsX YtlonlfiaclacdaaK.table memo YtlonlfiaclacdaaE.nats (nat_lit 300) (nat_lit 5) [.int .i64 (.ofNat (nat_lit 5))] = true := by kernel_rfl
theorem e8 : Go.Ab.evalsX YtlonlfiaclacdaaK.table memo YtlonlfiaclacdaaE.nats (nat_lit 300) (nat_lit 5) [.int .i64 (.ofNat (nat_lit 6))] = true := by kernel_rfl
theorem e9 : Go.Ab.evalsX YtlonlfiaclacdaaK.table memo YtlonlfiaclacdaaE.nats (nat_lit 300) (nat_lit 5) [.int .i64 (.ofNat (nat_lit 7))] = true := by kernel_rfl
theorem e10 : Go.Ab.evalsX YtlonlfiaclacdaaK.table memo YtlonlfiaclacdaaE.nats (nat_lit 300) (nat_lit 5) [.int .i64 (.ofNat (nat_lit 8))] = true := by kernel_rfl
theorem e11 : Go.Ab.evalsX YtlonlfiaclacdaaK.table memo YtlonlfiaclacdaaE.nats (nat_lit 300) (nat_lit 5) [.int .i64 (.ofNat (nat_lit 9))] = true := by kernel_rfl
theorem e12 : Go.Ab.evalsX YtlonlfiaclacdaaK.table memo YtlonlfiaclacdaaE.nats (nat_lit 300) (nat_lit 5) [.int .i64 (.ofNat (nat_lit 10))] = true := by kernel_rfl
theorem e13 : Go.Ab.evalsX YtlonlfiaclacdaaK.table memo YtlonlfiaclacdaaE.nats (nat_lit 300) (nat_lit 5) [.int .i64 (.ofNat (nat_lit 11))] = true := by kernel_rfl
theorem e14 : Go.Ab.evalsX YtlonlfiaclacdaaK.table memo YtlonlfiaclacdaaE.nats (nat_lit 300) (nat_lit 5) [.int .i64 (.ofNat (nat_lit 12))] = true := by kernel_rfl
theorem walk (a0 : Int) (w0 : (Lit.int .i64 a0).wf = true) (w : World) :
    Calls Try.prog 5 #[.int .i64 a0] w fun e w' => e = .returned (.bool true) ∧ Grown w w' := by
  have b0 : (-9223372036854775808 : Int) ≤ a0 ∧ a0 ≤ 9223372036854775807 := by simpa [Lit.wf, IntKind.min, IntKind.max, IntKind.signed, IntKind.bits] using w0
  have d0 : ((-9223372036854775808) ≤ a0 ∧ a0 ≤ (-1)) ∨ (13 ≤ a0 ∧ a0 ≤ 9223372036854775807) ∨ a0 = 0 ∨ a0 = 1 ∨ a0 = 2 ∨ a0 = 3 ∨ a0 = 4 ∨ a0 = 5 ∨ a0 = 6 ∨ a0 = 7 ∨ a0 = 8 ∨ a0 = 9 ∨ a0 = 10 ∨ a0 = 11 ∨ a0 = 12 := by omega
  rcases d0 with h0 | h0 | rfl | rfl | rfl | rfl | rfl | rfl | rfl | rfl | rfl | rfl | rfl | rfl | rfl
  · exact run e0 (.cons _ _ _ _ (.rng _ _ _ _ h0.1 h0.2) .nil)
  · exact run e1 (.cons _ _ _ _ (.rng _ _ _ _ h0.1 h0.2) .nil)
  · exact run e2 (.cons _ _ _ _ (.int _ _) .nil)
  · exact run e3 (.cons _ _ _ _ (.int _ _) .nil)
  · exact run e4 (.cons _ _ _ _ (.int _ _) .nil)
  · exact run e5 (.cons _ _ _ _ (.int _ _) .nil)
  · exact run e6 (.cons _ _ _ _ (.int _ _) .nil)
  · exact run e7 (.cons _ _ _ _ (.int _ _) .nil)
  · exact run e8 (.cons _ _ _ _ (.int _ _) .nil)
  · exact run e9 (.cons _ _ _ _ (.int _ _) .nil)
  · exact run e10 (.cons _ _ _ _ (.int _ _) .nil)
  · exact run e11 (.cons _ _ _ _ (.int _ _) .nil)
  · exact run e12 (.cons _ _ _ _ (.int _ _) .nil)
  · exact run e13 (.cons _ _ _ _ (.int _ _) .nil)
  · exact run e14 (.cons _ _ _ _ (.int _ _) .nil)

/-! ### THE ROW's STEP: WRITTEN OUT: LEAVE IT -/
set_option maxRecDepth 100000 in
theorem lifted (os : Os) (started : os.Started) (H : Type) (enc : TypeId × Value → H) :
    ReturnsInHanded {} Try.checked os 5 .any (Rows.namesWrongSpec.pre6 enc Try.prog Try.f5 Rows.namesWrongRow.domain false) (Rows.namesWrongSpec.post enc Try.prog Try.f5 false true false false) := by
  refine returnsInHanded_of_change (C := Try.checked) own started (by kernel_rfl) Try.func5
    (ChangeSpec.witness6 (enc := enc) (C := Try.checked) false ⟨#[], #[.int .i64 0], []⟩ 8 (by kernel_rfl) (by kernel_rfl) (by kernel_rfl) (by kernel_rfl)) ?_
  intro W base args ds gs before hval0 hW hcnd _
  have hval : ∀ (j : Nat) t v, Try.f5.params[j]? = some t → args[j]? = some v → Value.okWide Try.prog W .any base t v := hval0
  have hW' := hW
  obtain ⟨p, q, hA0, hV, rfl, hfz, hnd⟩ := hW
  have hA : DataW.TrodAll enc Try.prog W 0 (fun _ => true) true Try.f5.params.toList args.toList ds p := hA0
  rw [Try.params5] at hA hval
  obtain ⟨v0, vs0, d0, ds0, p0, q0, hargs, rfl, rfl, h0, r0⟩ := trodAll_cons hA
  obtain ⟨rfl, rfl, rfl⟩ := trodAll_nil r0
  obtain rfl : args = #[v0] := by cases args; simp_all
  obtain ⟨rfl, rfl⟩ := trodVars_none hV
  obtain ⟨a0, rfl, rfl, rfl, w0⟩ := open_int Try.underlying3 (hval 0 3 v0 rfl rfl) h0
  clear hA0 hval0
  simp only [List.append_nil] at hW'
  refine (walk a0 w0 W).mono fun e W' ⟨he, hg⟩ => ?_
  subst he
  exact ⟨_, rfl, post_of_same (pa := []) (pv := []) hW' (fun _ _ _ => (trodAll_cons_mk (shut_bool Try.underlying4 _) trodAll_mk0)) (fun sp _ => (trodAll_cons_mk (shut_int Try.underlying3 w0) trodAll_mk0)) (fun _ _ => rfl) rfl
    (hg.frame _) hg.2.1 (ok_one (by kernel_rfl) rfl (okWide_bool_mk Try.underlying4 _))⟩

theorem over : Rows.namesWrongRow.holds Try.pinned (OpenSpec.ofChange Rows.namesWrongSpec) :=
  OpenClaim.holds_of_wide 5 Try.f5 rfl rfl rfl rfl rfl rfl rfl ⟨rfl, rfl, rfl, rfl, rfl⟩ rfl rfl rfl rfl rfl (by kernel_rfl) Try.func5 (by kernel_rfl)
    (of_decide_eq_true (by kernel_rfl)) (by unfold Func.isWrapper; first | (rw [if_pos (by decide +kernel)]; kernel_rfl) | (rw [if_neg (by decide +kernel)]; exact ⟨rfl, rfl⟩))
    (fun os started H enc _ => lifted os started H enc)

/-- ████ THE STATEMENT ████ -/
theorem proved : Rows.NamesWrongSaid :=
  over
#print axioms proved
end Go.Proofs.Ytlonlfiaclacdaa.namesWrong
