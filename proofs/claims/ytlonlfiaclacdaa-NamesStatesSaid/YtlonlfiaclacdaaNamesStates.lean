/-
  NamesStates: the law returns true, whatever it is called at; no condition.
  The walk is by a verified evaluator of the translated code (YtlonlfiaclacdaaAb1 .. YtlonlfiaclacdaaAb24, and the functions written out for the kernel, YtlonlfiaclacdaaK1 ..: own work), which the kernel runs, case by case.
-/
import Derived.Test.YtlonlfiaclacdaaRows
import Derived.WalkKit
import Derived.ProofKit
import Derived.OpenShut
import Derived.Test.YtlonlfiaclacdaaK2
import Derived.KernelRfl
namespace Go.Proofs.Ytlonlfiaclacdaa.namesStates
open Go.ChangeShapes Go.WideShapes Go.ChangeAt Go.RowKit
set_option linter.unusedVariables false      -- a walk need not use every 'w<i>' (that an integer argument fits its kind)

theorem own : ownKnob Try.prog.godebug = none := by kernel_rfl

/-! ### STEP 1: THE WALK, by the evaluator -/
theorem alive : Go.Ab.evalsH YtlonlfiaclacdaaK.table (nat_lit 300) (nat_lit 8) [] = true := by kernel_rfl
noncomputable def memo : Go.Ab.Memo Try.prog := Go.Ab.Memo.addTrue YtlonlfiaclacdaaK.table (Go.Ab.Memo.nil Try.prog) (nat_lit 8) (nat_lit 300) alive
theorem ext : Go.Ab.ExtOk Try.prog := Go.Ab.extOk_of_at Try.prog 61 Try.f61 Try.func61 (by kernel_rfl) (by kernel_rfl) (by kernel_rfl) (by kernel_rfl)
theorem run {avs : List Go.Ab.AV} {cargs : List Value} {w : World} (h : Go.Ab.evalsK YtlonlfiaclacdaaK.table memo (nat_lit 300) (nat_lit 6) avs = true) (ha : Go.Ab.VRs (fun _ _ => none) avs cargs) :
    Calls Try.prog 6 cargs.toArray w fun e w' => e = .returned (.bool true) ∧ Grown w w' :=
  Go.Ab.calls_of_evalsK YtlonlfiaclacdaaK.table memo ext h ha
/-! the cases, each by the kernel -/
theorem e0 : Go.Ab.evalsK YtlonlfiaclacdaaK.table memo (nat_lit 300) (nat_lit 6) [.bool true] = true := by kernel_rfl
theorem e1 : Go.Ab.evalsK YtlonlfiaclacdaaK.table memo (nat_lit 300) (nat_lit 6) [.bool false] = true := by kernel_rfl
theorem walk (a0 : Bool) (w : World) :
    Calls Try.prog 6 #[.bool a0] w fun e w' => e = .returned (.bool true) ∧ Grown w w' := by
  cases a0 with
  | true =>
    exact run e0 (.cons _ _ _ _ (.bool _) .nil)
  | false =>
    exact run e1 (.cons _ _ _ _ (.bool _) .nil)

/-! ### THE ROW's STEP: WRITTEN OUT: LEAVE IT -/
set_option maxRecDepth 100000 in
theorem lifted (os : Os) (started : os.Started) (H : Type) (enc : TypeId × Value → H) :
    ReturnsInHanded {} Try.checked os 6 .any (Rows.namesStatesSpec.pre6 enc Try.prog Try.f6 Rows.namesStatesRow.domain false) (Rows.namesStatesSpec.post enc Try.prog Try.f6 false true false false) := by
  refine returnsInHanded_of_change (C := Try.checked) own started (by kernel_rfl) Try.func6
    (ChangeSpec.witness6 (enc := enc) (C := Try.checked) false ⟨#[], #[.bool false], []⟩ 8 (by kernel_rfl) (by kernel_rfl) (by kernel_rfl) (by kernel_rfl)) ?_
  intro W base args ds gs before hval0 hW hcnd _
  have hval : ∀ (j : Nat) t v, Try.f6.params[j]? = some t → args[j]? = some v → Value.okWide Try.prog W .any base t v := hval0
  have hW' := hW
  obtain ⟨p, q, hA0, hV, rfl, hfz, hnd⟩ := hW
  have hA : DataW.TrodAll enc Try.prog W 0 (fun _ => true) true Try.f6.params.toList args.toList ds p := hA0
  rw [Try.params6] at hA hval
  obtain ⟨v0, vs0, d0, ds0, p0, q0, hargs, rfl, rfl, h0, r0⟩ := trodAll_cons hA
  obtain ⟨rfl, rfl, rfl⟩ := trodAll_nil r0
  obtain rfl : args = #[v0] := by cases args; simp_all
  obtain ⟨rfl, rfl⟩ := trodVars_none hV
  obtain ⟨a0, rfl, rfl, rfl⟩ := open_bool Try.underlying4 (hval 0 4 v0 rfl rfl) h0
  clear hA0 hval0
  simp only [List.append_nil] at hW'
  refine (walk a0 W).mono fun e W' ⟨he, hg⟩ => ?_
  subst he
  exact ⟨_, rfl, post_of_same (pa := []) (pv := []) hW' (fun _ _ _ => (trodAll_cons_mk (shut_bool Try.underlying4 _) trodAll_mk0)) (fun sp _ => (trodAll_cons_mk (shut_bool Try.underlying4 _) trodAll_mk0)) (fun _ _ => rfl) rfl
    (hg.frame _) hg.2.1 (ok_one (by kernel_rfl) rfl (okWide_bool_mk Try.underlying4 _))⟩

theorem over : Rows.namesStatesRow.holds Try.pinned (OpenSpec.ofChange Rows.namesStatesSpec) :=
  OpenClaim.holds_of_wide 6 Try.f6 rfl rfl rfl rfl rfl rfl rfl ⟨rfl, rfl, rfl, rfl, rfl⟩ rfl rfl rfl rfl rfl (by kernel_rfl) Try.func6 (by kernel_rfl)
    (of_decide_eq_true (by kernel_rfl)) (by unfold Func.isWrapper; first | (rw [if_pos (by decide +kernel)]; kernel_rfl) | (rw [if_neg (by decide +kernel)]; exact ⟨rfl, rfl⟩))
    (fun os started H enc _ => lifted os started H enc)

/-- ████ THE STATEMENT ████ -/
theorem proved : Rows.NamesStatesSaid :=
  over
#print axioms proved
end Go.Proofs.Ytlonlfiaclacdaa.namesStates
