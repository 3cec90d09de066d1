/-
  container/heap's up and down over turns (own work).
-/
import Derived.Test.YtikdflkllffaaaaRtMeth
namespace Go.Rt
open Go Go.RowKit Go.Proofs

/-- Less through the interface value, in whatever world holds the turns. -/
theorem less_at {base n hp : Nat} {v : Value} {f : Row} {w : World} (h : Turns base w hp v n f) (hn : n ≤ 1000) (i j : Nat) (hi : i < n) (hj : j < n) (b : Bool) (hb : decide (lt (f i) (f j)) = b) :
    Calls Try.prog 46 #[v, .int .i64 i, .int .i64 j] w fun e w' => e = .returned (.bool b) ∧ (Turns base w' hp v n f ∧ Below base w w') :=
  (Less_in h.row i j hi hj hn).mono fun e w' ⟨he, q, hw⟩ => ⟨by rw [he, hb], by
    subst hw
    have hB : Below w.heap.size w (w.drewN q) := ⟨rfl, rfl, rfl, Nat.le_refl _, fun _ _ => rfl⟩
    exact ⟨h.grown hB, hB.mono (by have := h.lt; have := h.le; omega)⟩⟩
theorem swap_at {base n hp : Nat} {v : Value} {f : Row} {w : World} (h : Turns base w hp v n f) (hn : n ≤ 1000) (i j : Nat) (hi : i < n) (hj : j < n) :
    Calls Try.prog 49 #[v, .int .i64 i, .int .i64 j] w fun e w' => e = .returned (.tuple #[]) ∧ (Turns base w' hp v n (swp f i j) ∧ Below base w w') :=
  (Swap_in h.row i j hi hj hn).mono fun e w' ⟨he, hr, hg⟩ => ⟨he, ⟨h.le, (hg.block hp h.lt h.other).trans h.head, hr⟩,
    (Below.refl base w).grown hg (by have := h.lt; have := h.le; omega) (fun k e => (own_block h.row e).1)⟩

set_option maxHeartbeats 4000000 in
set_option maxRecDepth 100000 in
theorem up_in {base n hp : Nat} {v : Value} {f : Row} {w : World} (h : Turns base w hp v n f) (hn : n ≤ 1000) (j : Nat) (hj : j < n) (hu : UpAt n f j) :
    Calls Try.prog 28 #[.iface 53 (.pointer (some ⟨hp, 0, none⟩)), .int .i64 j] w fun e w' => e = .returned (.tuple #[]) ∧ ∃ f', Turns base w' hp v n f' ∧ Same n f f' ∧ Heap n f' ∧ Below base w w' := by
  go_enter Try.func28, Try.ntmps28
  go_wp2
  go_loopg [1] j (fun k s wr => s = .int .i64 (k : Int) ∧ k < n ∧ ∃ fk, Aside (Turns base wr hp v n fk ∧ Same n f fk ∧ UpAt n fk k ∧ Below base w wr))
  case atStart => exact ⟨rfl, hj, f, h, Same.refl n f, hu, Below.refl _ _⟩
  case round =>
    obtain ⟨rfl, hkn, fk, A⟩ := hrel
    obtain ⟨hT, hS, hU, hB⟩ := A.out
    have nL := nil_less; have nS := nil_swap
    have mL := m_less hT.cell
    cases gk with
    | zero =>
      have E : Aside _ := (⟨fk, hT, hS, hU.top, hB⟩ : ∃ f', Turns base wr hp v n f' ∧ Same n f f' ∧ Heap n f' ∧ Below base w wr)
      clear A hT hS hU hB h hu mL nL nS
      go_wp2
      go_end0
      exact ⟨rfl, E.out⟩
    | succ k =>
      have hl := less_at hT hn (k + 1) (k / 2) hkn (by omega)
      have e1 : ((k + 1 : Nat) : Int) = (k : Int) + 1 := by omega
      have e2 : ((k / 2 : Nat) : Int) = (k : Int) / 2 := by omega
      rw [e1, e2] at hl
      have hne : ((k : Int) / 2 == (k : Int) + 1) = false := by simp; omega
      by_cases hlt : lt (fk (k + 1)) (fk (k / 2))
      · have hl := hl true (decide_eq_true hlt)
        clear A hT h hu
        have H : Aside _ := (⟨hS, hU, hB, hlt⟩ : Same n f fk ∧ UpAt n fk (k + 1) ∧ Below base w wr ∧ lt (fk (k + 1)) (fk (k / 2)))
        clear hS hU hB hlt
        go_wp2_with (fail)
        refine hl.mono ?_
        rintro e w1 ⟨rfl, hT1, hB1⟩
        have mS := m_swap hT1.cell
        have hs := swap_at hT1 hn (k / 2) (k + 1) (by omega) hkn
        rw [e1, e2] at hs
        have HB1 : Aside _ := hB1
        clear hT1 hB1 mL
        go_wp2_with (fail)
        refine hs.mono ?_
        rintro e w2 ⟨rfl, hT2, hB2⟩
        clear hs mS
        have HT2 : Aside _ := (⟨hT2, hB2⟩ : Turns base w2 hp v n (swp fk (k / 2) (k + 1)) ∧ Below base w1 w2)
        clear hT2 hB2
        go_wp2
        go_roundg (k / 2)
        case measure => omega
        case rel =>
          obtain ⟨hS, hU, hB, hlt⟩ := H.out
          exact ⟨by simp, by omega, swp fk (k / 2) (k + 1), HT2.out.1, hS.trans (Same.swp fk (by omega) hkn), by have := hU.step (by omega) hkn (by simpa using hlt); simpa using this, (hB.trans HB1.out).trans HT2.out.2⟩
      · have hl := hl false (decide_eq_false hlt)
        have hH := hU.stop (show ¬ lt (fk (k + 1)) (fk ((k + 1 - 1) / 2)) by simpa using hlt)
        clear A hT h hu hU
        have H : Aside _ := (⟨hS, hB, hH⟩ : Same n f fk ∧ Below base w wr ∧ Heap n fk)
        clear hS hB hlt hH
        go_wp2_with (fail)
        refine hl.mono ?_
        rintro e w1 ⟨rfl, hT1, hB1⟩
        have HT1 : Aside _ := (⟨hT1, hB1⟩ : Turns base w1 hp v n fk ∧ Below base wr w1)
        clear hT1 hB1 mL
        go_wp2
        go_end0
        exact ⟨rfl, fk, HT1.out.1, H.out.1, H.out.2.2, H.out.2.1.trans HT1.out.2⟩
end Go.Rt
