/-
  The example of the document, by the evaluator (own work); what a call leaves of the old world.
-/
import Derived.Test.YtikdflkllffaaaaProg
import Derived.Test.YtikdflkllffaaaaAb17
import Derived.WalkKit
import Derived.KernelRfl
namespace Go.Rt
open Go Go.RowKit Go.Proofs

/-- All that lay there lies there as it lay. -/
structure Old (w w' : World) : Prop where
  os : w'.os = w.os
  output : w'.output = w.output
  size : w.heap.size ≤ w'.heap.size
  block : ∀ k, k < w.heap.size → w'.heap[k]? = w.heap[k]?
theorem Old.refl (w : World) : Old w w := ⟨rfl, rfl, Nat.le_refl _, fun _ _ => rfl⟩
theorem Old.trans {a b c : World} (h : Old a b) (k : Old b c) : Old a c :=
  ⟨k.os.trans h.os, k.output.trans h.output, Nat.le_trans h.size k.size, fun i hi => (k.block i (Nat.lt_of_lt_of_le hi h.size)).trans (h.block i hi)⟩
theorem Old.of_below {w w' : World} (h : Below w.heap.size w w') : Old w w' := ⟨h.os, h.output, h.size, h.block⟩
theorem Old.frame {w w' : World} (h : Old w w') (may : MemPlace → Prop) : w.keptBut w' may := by
  refine ⟨h.os, h.output, fun i hi => ?_⟩
  rw [h.block i hi]
  split <;> simp_all
theorem Old.frozen {w w' : World} (h : Old w w') (a : Addr) (ha : a.block < w.heap.size) : w'.frozen? a = w.frozen? a := World.frozen?_of_block (w := w) (h.block _ ha)
theorem Old.cell {w w' : World} (h : Old w w') {a : Addr} (ha : a.block < w.heap.size) : w'.cell? a = w.cell? a := World.cell?_of_block (w := w) (h.block _ ha)

theorem noClones : Go.Ab.noClone Try.prog = true := by kernel_rfl
theorem aliveRuns : Go.Ab.evalsTrue Try.prog 60 8 [] = true := by kernel_rfl
theorem alive_in (w : World) : Calls Try.prog 8 #[] w fun e w' => e = .returned (.bool true) ∧ Old w w' := by
  have h := aliveRuns
  unfold Go.Ab.evalsTrue at h
  split at h
  · rename_i b s' he
    subst h
    have hr : Go.Ab.Rel (fun _ _ => none) Go.Ab.st0.heap.get w := Go.Ab.Rel.empty w
    have hf : Go.Ab.Fresh Go.Ab.st0 s' := fun b _ _ => rfl
    have := (Go.Ab.evalN_ok (Go.Ab.extOk_of_noClone noClones) 60).call 8 [] Go.Ab.st0 _ s' he _ w [] hr .nil hf
    refine (callsIn_wide (n := 0)).1 (this.mono ?_)
    rintro e w' ⟨m', v', rfl, hx, _, hv⟩
    cases hv
    exact ⟨rfl, hx.os, hx.output, hx.size, fun i hi => hx.same i hi (fun _ _ _ _ hh => by cases hh)⟩
  · cases h
end Go.Rt
