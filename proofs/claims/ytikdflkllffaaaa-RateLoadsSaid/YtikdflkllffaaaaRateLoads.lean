/-
  RateLoads: the law returns true, whatever it is called at; no condition.
  The walk is the kit's, function by function: container/heap over the turns, the iterator over them, the range over it, the base period, the sums of the costs; the document's example by a verified evaluator (own work: the texts Ab1 to Ab17). The shell of the row's proof is the skeleton's print.
-/
import Derived.Test.YtikdflkllffaaaaRows
import Derived.WalkKit
import Derived.ProofKit
import Derived.OpenShut
import Derived.Test.YtikdflkllffaaaaRtPost
import Derived.Test.YtikdflkllffaaaaRtLawLoads
import Derived.Test.YtikdflkllffaaaaRtOpenC
namespace Go.Proofs.Ytikdflkllffaaaa.rateLoads
open Go.ChangeShapes Go.WideShapes Go.ChangeAt Go.RowKit
set_option linter.unusedVariables false      -- a walk need not use every 'w<i>' (that an integer argument fits its kind)

theorem own : ownKnob Try.prog.godebug = none := by kernel_rfl

/-! ### THE ROW's STEP -/
set_option maxRecDepth 100000 in
theorem lifted (os : Os) (started : os.Started) (H : Type) (enc : TypeId × Value → H) :
    ReturnsInHanded {} Try.checked os 5 .any (Rows.rateLoadsSpec.pre6 enc Try.prog Try.f5 Rows.rateLoadsRow.domain false) (Rows.rateLoadsSpec.post enc Try.prog Try.f5 false true false false) := by
  refine returnsInHanded_of_change (C := Try.checked) own started (by kernel_rfl) Try.func5
    (ChangeSpec.witness6 (enc := enc) (C := Try.checked) false ⟨#[], #[.slice none 0 0, .slice none 0 0], []⟩ 8 (by kernel_rfl) (by kernel_rfl) (by kernel_rfl) (by kernel_rfl)) ?_
  intro W base args ds gs before hval0 hW hcnd _
  have hval : ∀ (j : Nat) t v, Try.f5.params[j]? = some t → args[j]? = some v → Value.okWide Try.prog W .any base t v := hval0
  have hW' := hW
  obtain ⟨p, q, hA0, hV, rfl, hfz, hnd⟩ := hW
  have hA : DataW.TrodAll enc Try.prog W 0 (fun _ => true) true Try.f5.params.toList args.toList ds p := hA0
  rw [Try.params5] at hA hval
  obtain ⟨v0, vs0, d0, ds0, p0, q0, hargs, rfl, rfl, h0, r0⟩ := trodAll_cons hA
  obtain ⟨v1, vs1, d1, ds1, p1, q1, rfl, rfl, rfl, h1, r1⟩ := trodAll_cons r0
  obtain ⟨rfl, rfl, rfl⟩ := trodAll_nil r1
  obtain rfl : args = #[v0, v1] := by cases args; simp_all
  obtain ⟨rfl, rfl⟩ := trodVars_none hV
  obtain ⟨ao, m, cap, cl, rfl, hm, hL, hnil⟩ := Go.Rt.open_clocks (okWide_slice Try.underlying22 (hval 0 22 v0 rfl rfl)) h0
  obtain ⟨co, k, cc, cs, rfl, hk, hC, hnilc⟩ := Go.Rt.open_costs (okWide_slice Try.underlying36 (hval 1 36 v1 rfl rfl)) h1
  clear hA0 hval0
  simp only [List.append_nil] at hW'
  have hlt0 : ∀ x ∈ p0, x.block < W.heap.size := fun x hx => hW'.lt x (by simp [hx])
  have hlt1 : ∀ x ∈ p1, x.block < W.heap.size := fun x hx => hW'.lt x (by simp [hx])
  refine (Go.Rt.RateLoads_in (cap := cap) hL hm hC hk hnilc).mono fun e W' ⟨he, hg⟩ => ?_
  subst he
  exact ⟨_, rfl, Go.Rt.post_of_old (pa := p0 ++ p1) (pv := []) hW' (fun _ _ _ => (trodAll_cons_mk (shut_bool Try.underlying4 _) trodAll_mk0))
    (fun sp hsp => by
      have := trodAll_cons_mk (hg.trod Go.Rt.laidOut (by kernel_rfl) (of_decide_eq_true (by kernel_rfl)) h0 hlt0 (sp := sp) (fun x hx => hsp x (by simp [hx])))
        (trodAll_cons_mk (hg.trod Go.Rt.laidOut (by kernel_rfl) (of_decide_eq_true (by kernel_rfl)) h1 hlt1 (sp := sp) (fun x hx => hsp x (by simp [hx]))) trodAll_mk0)
      simp only [List.append_nil] at this
      exact this) (fun _ _ => rfl) (by simp)
    hg (ok_one (by kernel_rfl) rfl (okWide_bool_mk Try.underlying4 _))⟩

theorem over : Rows.rateLoadsRow.holds Try.pinned (OpenSpec.ofChange Rows.rateLoadsSpec) :=
  OpenClaim.holds_of_wide 5 Try.f5 rfl rfl rfl rfl rfl rfl rfl ⟨rfl, rfl, rfl, rfl, rfl⟩ rfl rfl rfl rfl rfl (by kernel_rfl) Try.func5 (by kernel_rfl)
    (of_decide_eq_true (by kernel_rfl)) (by unfold Func.isWrapper; first | (rw [if_pos (by decide +kernel)]; kernel_rfl) | (rw [if_neg (by decide +kernel)]; exact ⟨rfl, rfl⟩))
    (fun os started H enc _ => lifted os started H enc)

/-- ████ THE STATEMENT ████ -/
theorem proved : Rows.RateLoadsSaid :=
  over
#print axioms proved
end Go.Proofs.Ytikdflkllffaaaa.rateLoads
