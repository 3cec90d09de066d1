/-
  The document's example, by the evaluator (own work).
-/
import Derived.Test.YtlonlfiaclacdaaAb17
import Derived.Test.YtlonlfiaclacdaaPaY
namespace Go.Pa
open Go Go.RowKit Go.Proofs

/-- The program's only 'maps.clone' is function k. -/
def onlyAt (P : Program) (k : Nat) : Bool := P.funcs.toList.zipIdx.all fun p => Nat.beq p.2 k || !(p.1.body.isNone && p.1.name == "maps.clone")
theorem extOk_of_at (P : Program) (k : Nat) (g : Func) (hk : P.funcs[k]? = some g) (h1 : (g.name == "runtime.NumGoroutine") = false) (h2 : Extern.findNext g = none)
    (h3 : Extern.find g = some Extern.MapsClone.clone) (h : onlyAt P k = true) : Go.Ab.ExtOk P := by
  intro f fn hfn hb hn
  by_cases hf : f = k
  · subst hf
    rw [hk] at hfn
    cases hfn
    exact ⟨h1, h2, h3⟩
  · have hm : (fn, f) ∈ P.funcs.toList.zipIdx := by
      rw [List.mem_zipIdx_iff_getElem?]
      rw [← hfn]; simp
    have := List.all_eq_true.1 h (fn, f) hm
    have hbf : Nat.beq f k = false := by
      cases hb : Nat.beq f k with
      | false => rfl
      | true => exact absurd (Nat.eq_of_beq_eq_true hb) hf
    simp [hb, hn, hbf] at this

theorem aliveRuns : Go.Ab.evalsTrue Try.prog 60 8 [] = true := by kernel_rfl
theorem alive_in (w : World) : Calls Try.prog 8 #[] w (RetT w true) := by
  have h := aliveRuns
  unfold Go.Ab.evalsTrue at h
  split at h
  · rename_i b s' he
    subst h
    have hr : Go.Ab.Rel (fun _ _ => none) Go.Ab.st0.heap.get w := Go.Ab.Rel.empty w
    have hf : Go.Ab.Fresh Go.Ab.st0 s' := fun b _ _ => rfl
    have := (Go.Ab.evalN_ok (extOk_of_at Try.prog 61 Try.f61 Try.func61 (by kernel_rfl) (by kernel_rfl) (by kernel_rfl) (by kernel_rfl)) 60).call 8 [] Go.Ab.st0 _ s' he _ w [] hr .nil hf
    refine (callsIn_wide (n := 0)).1 (this.mono ?_)
    rintro e w' ⟨m', v', rfl, hx, _, hv⟩
    cases hv
    exact .mk ⟨hx.os, hx.output, hx.size, fun i hi => hx.same i hi (fun _ _ _ _ hh => by cases hh)⟩
  · cases h
end Go.Pa
