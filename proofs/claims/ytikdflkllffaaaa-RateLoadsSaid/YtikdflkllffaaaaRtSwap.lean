/-
  Swap of turns (own work).
-/
import Derived.Test.YtikdflkllffaaaaRtCalls
namespace Go.Rt
open Go Go.RowKit Go.Proofs

theorem grownBy_setCell {w w' : World} {g o : Nat} (h : w.grownBy w' (some g)) (u : Value) : w.grownBy (w'.setCell ⟨g, o, none⟩ u) (some g) :=
  ⟨h.os, h.tape, h.output, by simpa [World.setCell] using h.size, fun k hk hne => (Below.heap_setCell _ _ _ _ (fun e => hne (by rw [e]))).trans (h.block k hk hne)⟩
theorem grownBy_refl (w : World) (row : Option Nat) : w.grownBy w row := ⟨rfl, rfl, rfl, Nat.le_refl _, fun _ _ _ => rfl⟩

theorem swap_world {base n g cap : Nat} {f : Row} {w : World} (h : w.ownsRow base 47 2 (.slice (some ⟨g, 0, none⟩) n cap) n (cellsOf f n)) {i j : Nat} (hi : i < n) (hj : j < n) {a b c d : Int} (hfi : f i = (a, b)) (hfj : f j = (c, d)) :
    ((((w.setCell ⟨g, i * 2, none⟩ (.int .i64 c)).setCell ⟨g, i * 2 + 1, none⟩ (.int .i64 d)).setCell ⟨g, j * 2, none⟩ (.int .i64 a)).setCell ⟨g, j * 2 + 1, none⟩ (.int .i64 b)).drew.ownsRow base 47 2 (.slice (some ⟨g, 0, none⟩) n cap) n (cellsOf (swp f i j) n) ∧
    w.grownBy ((((w.setCell ⟨g, i * 2, none⟩ (.int .i64 c)).setCell ⟨g, i * 2 + 1, none⟩ (.int .i64 d)).setCell ⟨g, j * 2, none⟩ (.int .i64 a)).setCell ⟨g, j * 2 + 1, none⟩ (.int .i64 b)).drew (some g) := by
  constructor
  · have := ownsRow_set (j := j * 2 + 1) (ownsRow_set (j := j * 2) (ownsRow_set (j := i * 2 + 1) (ownsRow_set (j := i * 2) h (.int .i64 c)) (.int .i64 d)) (.int .i64 a)) (.int .i64 b)
    have e := cellsOf_swp f hi hj
    rw [hfi, hfj, Nat.mul_comm 2 i, Nat.mul_comm 2 j] at e
    rw [e] at this
    exact this
  · have := grownBy_setCell (o := j * 2 + 1) (grownBy_setCell (o := j * 2) (grownBy_setCell (o := i * 2 + 1) (grownBy_setCell (o := i * 2) (grownBy_refl w (some g)) (.int .i64 c)) (.int .i64 d)) (.int .i64 a)) (.int .i64 b)
    exact ⟨this.os, this.tape, this.output, this.size, this.block⟩

set_option maxHeartbeats 4000000 in
set_option maxRecDepth 100000 in
theorem Swap_in {base n : Nat} {v : Value} {f : Row} {w : World} (h : w.ownsRow base 47 2 v n (cellsOf f n)) (i j : Nat) (hi : i < n) (hj : j < n) (hn : n ≤ 1000) :
    Calls Try.prog 49 #[v, .int .i64 i, .int .i64 j] w fun e w' => e = .returned (.tuple #[]) ∧ w'.ownsRow base 47 2 v n (cellsOf (swp f i j) n) ∧ w.grownBy w' v.ownBlock := by
  obtain ⟨g, cap, rfl, hb, hc1, hc2, hfz, hcell, _⟩ := own_slice h (by omega)
  obtain ⟨ci1, ci2⟩ := hcell i hi
  obtain ⟨cj1, cj2⟩ := hcell j hj
  have hij : (i : Int) < n := by omega
  have hjj : (j : Int) < n := by omega
  clear hcell hc1 hc2 hb
  obtain ⟨⟨a, b⟩, hfi⟩ : ∃ x, f i = x := ⟨_, rfl⟩
  obtain ⟨⟨c, d⟩, hfj⟩ : ∃ x, f j = x := ⟨_, rfl⟩
  rw [hfi] at ci1 ci2
  rw [hfj] at cj1 cj2
  simp only at ci1 ci2 cj1 cj2
  have H : Hid _ := swap_world h hi hj hfi hfj
  clear h
  by_cases e : i = j
  · subst e
    have e2 := hfi.symm.trans hfj
    obtain ⟨rfl, rfl⟩ := Prod.mk.inj e2
    clear e2 hfi hfj cj1 cj2
    go_enter Try.func49, Try.ntmps49
    go_wp2
    go_region
    all_goals go_end0
    exact ⟨rfl, H.out⟩
  · clear hfi hfj
    go_enter Try.func49, Try.ntmps49
    go_wp2
    go_region
    all_goals go_end0
    exact ⟨rfl, H.out⟩
end Go.Rt
