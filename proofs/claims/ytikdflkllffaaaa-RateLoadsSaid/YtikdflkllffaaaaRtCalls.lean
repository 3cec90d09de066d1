/-
  The methods of turns (own work): what each does to the row that the slice owns.
-/
import Derived.Test.YtikdflkllffaaaaProg
import Derived.Test.YtikdflkllffaaaaRtMem
import Derived.WalkKit
import Derived.Deep.LoopGhost
import Derived.Deep.QuietTactic
import Derived.BigQuiet
namespace Go.Rt
open Go Go.RowKit Go.Proofs

set_option maxHeartbeats 4000000 in
set_option maxRecDepth 100000 in
theorem Less_in {base n : Nat} {v : Value} {f : Row} {w : World} (h : w.ownsRow base 47 2 v n (cellsOf f n)) (i j : Nat) (hi : i < n) (hj : j < n) (hn : n ≤ 1000) :
    Calls Try.prog 46 #[v, .int .i64 i, .int .i64 j] w fun e w' => e = .returned (.bool (decide (lt (f i) (f j)))) ∧ ∃ q, w' = w.drewN q := by
  obtain ⟨g, cap, rfl, hb, hc1, hc2, hfz, hcell, _⟩ := own_slice h (by omega)
  obtain ⟨ci1, ci2⟩ := hcell i hi
  obtain ⟨cj1, cj2⟩ := hcell j hj
  have hij : (i : Int) < n := by omega
  have hjj : (j : Int) < n := by omega
  clear hcell hfz hc1 hc2 hb
  obtain ⟨⟨a, b⟩, hfi⟩ : ∃ x, f i = x := ⟨_, rfl⟩
  obtain ⟨⟨c, d⟩, hfj⟩ : ∃ x, f j = x := ⟨_, rfl⟩
  rw [hfi] at ci1 ci2
  rw [hfj] at cj1 cj2
  rw [hfi, hfj]
  simp only at ci1 ci2 cj1 cj2
  clear hfi hfj
  by_cases h1 : a < c
  · have e : decide (lt (a, b) (c, d)) = true := by simp [lt, h1]
    rw [e]
    go_enter Try.func46, Try.ntmps46
    go_wp2
    go_quiet (fail)
    go_wp2
    all_goals (go_ret; exact ⟨rfl, _, rfl⟩)
  · have h1' : decide (a < c) = false := decide_eq_false h1
    by_cases h2 : a = c
    · subst h2
      have e : decide (lt (a, b) (a, d)) = decide (b < d) := by simp [lt]
      rw [e]
      go_enter Try.func46, Try.ntmps46
      go_wp2
      go_quiet (fail)
      go_wp2
      all_goals (go_ret; exact ⟨rfl, _, rfl⟩)
    · have h2' : (a == c) = false := by simpa using h2
      have e : decide (lt (a, b) (c, d)) = false := by simp [lt, h1, h2]
      rw [e]
      go_enter Try.func46, Try.ntmps46
      go_wp2
      go_quiet (fail)
      go_wp2
      all_goals (go_ret; exact ⟨rfl, _, rfl⟩)
end Go.Rt
