/-
  The heap of turns in memory (own work): a header block that holds the slice, and the row that the slice owns.
-/
import Derived.WalkKit
import Derived.OneCell
import Derived.Test.YtikdflkllffaaaaRtHeap
namespace Go.Rt
open Go Go.RowKit

def cellsOf (f : Row) (n : Nat) : List Value := (List.range (n * 2)).map fun m => if m % 2 = 0 then .int .i64 (f (m / 2)).1 else .int .i64 (f (m / 2)).2
theorem cellsOf_get (f : Row) (n m : Nat) : (cellsOf f n)[m]? = if m < n * 2 then some (if m % 2 = 0 then .int .i64 (f (m / 2)).1 else .int .i64 (f (m / 2)).2) else none := by
  unfold cellsOf
  rw [List.getElem?_map]
  by_cases h : m < n * 2
  · rw [List.getElem?_range h, if_pos h]; rfl
  · rw [if_neg h, List.getElem?_eq_none (by simp; omega)]; rfl
theorem cellsOf_length (f : Row) (n : Nat) : (cellsOf f n).length = n * 2 := by simp [cellsOf]
theorem cellsOf_tick (f : Row) {n k : Nat} (h : k < n) : (cellsOf f n)[2 * k]? = some (.int .i64 (f k).1) := by
  rw [cellsOf_get, if_pos (by omega), if_pos (by omega), show 2 * k / 2 = k by omega]
theorem cellsOf_clock (f : Row) {n k : Nat} (h : k < n) : (cellsOf f n)[2 * k + 1]? = some (.int .i64 (f k).2) := by
  rw [cellsOf_get, if_pos (by omega), if_neg (by omega), show (2 * k + 1) / 2 = k by omega]
theorem cellsOf_congr {f g : Row} {n : Nat} (h : ∀ k, k < n → f k = g k) : cellsOf f n = cellsOf g n := by
  apply List.ext_getElem?
  intro m
  rw [cellsOf_get, cellsOf_get]
  by_cases hm : m < n * 2
  · rw [if_pos hm, if_pos hm, h (m / 2) (by omega)]
  · rw [if_neg hm, if_neg hm]
theorem cellsOf_put (f : Row) (n : Nat) (x : T) : cellsOf f n ++ [.int .i64 x.1, .int .i64 x.2] = cellsOf (put f n x) (n + 1) := by
  rw [show cellsOf f n = cellsOf (put f n x) n from cellsOf_congr fun k hk => (put_o f x (by omega)).symm]
  unfold cellsOf
  rw [show (n + 1) * 2 = n * 2 + 1 + 1 by omega, List.range_succ, List.range_succ]
  simp only [List.map_append, List.map_cons, List.map_nil, List.append_assoc, List.cons_append, List.nil_append]
  rw [if_pos (by omega), if_neg (by omega), show n * 2 / 2 = n by omega, show (n * 2 + 1) / 2 = n by omega, put_same]
theorem cellsOf_take (f : Row) (n : Nat) : (cellsOf f (n + 1)).take (n * 2) = cellsOf f n := by
  rw [← cellsOf_congr (f := put f n (f n)) (g := f) (n := n + 1) (fun k _ => by unfold put; split; { rename_i e; rw [e] }; rfl), ← cellsOf_put, List.take_left' (cellsOf_length f n)]
theorem cellsOf_swp (f : Row) {n i j : Nat} (hi : i < n) (hj : j < n) :
    ((((cellsOf f n).set (2 * i) (.int .i64 (f j).1)).set (2 * i + 1) (.int .i64 (f j).2)).set (2 * j) (.int .i64 (f i).1)).set (2 * j + 1) (.int .i64 (f i).2) = cellsOf (swp f i j) n := by
  apply List.ext_getElem?
  intro m
  simp only [List.getElem?_set, List.length_set, cellsOf_length, cellsOf_get]
  by_cases hm : m < n * 2
  · rw [if_pos hm, if_pos hm]
    obtain ⟨k, rfl | rfl⟩ : ∃ k, m = 2 * k ∨ m = 2 * k + 1 := ⟨m / 2, by omega⟩
    · rw [if_neg (by omega), if_pos (show 2 * k % 2 = 0 by omega), if_neg (show ¬ 2 * i + 1 = 2 * k by omega), show 2 * k / 2 = k by omega, if_pos (show 2 * k % 2 = 0 by omega)]
      by_cases ej : j = k
      · subst ej; rw [if_pos rfl, if_pos hm, swp_r]
      · rw [if_neg (by omega)]
        by_cases ei : i = k
        · subst ei; rw [if_pos rfl, if_pos hm, swp_l]
        · rw [if_neg (by omega), swp_o f (by omega) (by omega)]
    · rw [if_neg (show ¬ 2 * j = 2 * k + 1 by omega), if_neg (show ¬ 2 * i = 2 * k + 1 by omega), show (2 * k + 1) / 2 = k by omega, if_neg (show ¬ (2 * k + 1) % 2 = 0 by omega), if_neg (show ¬ (2 * k + 1) % 2 = 0 by omega)]
      by_cases ej : j = k
      · subst ej; rw [if_pos rfl, if_pos hm, swp_r]
      · rw [if_neg (by omega)]
        by_cases ei : i = k
        · subst ei; rw [if_pos rfl, if_pos hm, swp_l]
        · rw [if_neg (by omega), swp_o f (by omega) (by omega)]
  · rw [if_neg hm, if_neg hm, if_neg (by omega), if_neg (by omega), if_neg (by omega), if_neg (by omega)]

theorem heap_setCell_self {w : World} {b o : Nat} {cur : Array Value} {e : TypeId} {fz : Nat × Nat} (h : w.heap[b]? = some (.cells cur e fz)) (u : Value) :
    (w.setCell ⟨b, o, none⟩ u).heap[b]? = some (.cells (cur.setIfInBounds o u) e fz) := by
  have hlt := lt_of_block h
  have h' : w.heap[b] = .cells cur e fz := by simpa [Array.getElem?_eq_getElem hlt] using h
  show (w.heap.modify b _)[b]? = _
  rw [Array.getElem?_eq_getElem (by simpa using hlt), Array.getElem_modify_self, h']
  rfl

/-- A cell of a row that a slice owns is written. -/
theorem ownsRow_set {w : World} {base : Nat} {e : TypeId} {size : Nat} {g n c j : Nat} {xs : List Value} (h : w.ownsRow base e size (.slice (some ⟨g, 0, none⟩) n c) n xs) (u : Value) :
    (w.setCell ⟨g, j, none⟩ u).ownsRow base e size (.slice (some ⟨g, 0, none⟩) n c) n (xs.set j u) := by
  obtain ⟨h1, h2⟩ := h
  refine ⟨by rw [List.length_set]; exact h1, ?_⟩
  rcases h2 with ⟨h2, _⟩ | ⟨g', cap, cur, hv, hg, hh, r1, r2, r3, r4⟩
  · cases h2
  · cases hv
    refine .inr ⟨g, c, cur.setIfInBounds j u, rfl, hg, heap_setCell_self hh u, r1, r2, by rw [Array.size_setIfInBounds]; exact r3, ?_⟩
    rw [Array.toList_setIfInBounds, List.take_set, r4]

/-- The header block hp holds the slice v, which owns the row of n turns. -/
structure Turns (base : Nat) (w : World) (hp : Nat) (v : Value) (n : Nat) (f : Row) : Prop where
  le : base ≤ hp
  head : w.heap[hp]? = some (.cells #[v] 55 (0, 0))
  row : w.ownsRow base 47 2 v n (cellsOf f n)

theorem Turns.cell {base : Nat} {w : World} {hp n : Nat} {v : Value} {f : Row} (h : Turns base w hp v n f) : w.cell? ⟨hp, 0, none⟩ = some v := cell_of_one h.head
theorem Turns.free {base : Nat} {w : World} {hp n : Nat} {v : Value} {f : Row} (h : Turns base w hp v n f) : w.frozen? ⟨hp, 0, none⟩ = false := free_of_one h.head
theorem Turns.lt {base : Nat} {w : World} {hp n : Nat} {v : Value} {f : Row} (h : Turns base w hp v n f) : hp < w.heap.size := lt_of_block h.head

/-- What a slice of at least one turn is. -/
theorem own_slice {base : Nat} {w : World} {n : Nat} {v : Value} {f : Row} (h : w.ownsRow base 47 2 v n (cellsOf f n)) (hn : 0 < n) :
    ∃ g cap, v = .slice (some ⟨g, 0, none⟩) n cap ∧ base ≤ g ∧ n ≤ cap ∧ cap ≤ maxLen ∧ (∀ o, w.frozen? ⟨g, o, none⟩ = false) ∧
      (∀ k, k < n → w.cell? ⟨g, k * 2, none⟩ = some (.int .i64 (f k).1) ∧ w.cell? ⟨g, k * 2 + 1, none⟩ = some (.int .i64 (f k).2)) ∧ (∃ cur, w.heap[g]? = some (.cells cur 47 (0, 0))) := by
  obtain ⟨h1, h2⟩ := h
  rcases h2 with ⟨_, h2⟩ | ⟨g, cap, cur, hv, hg, hh, r1, r2, r3, r4⟩
  · omega
  · have hget : ∀ m, m < n * 2 → w.cell? ⟨g, m, none⟩ = (cellsOf f n)[m]? := fun m hm => by
      rw [← r4, List.getElem?_take, if_pos hm]
      simp [World.cell?, hh]
    refine ⟨g, cap, hv, hg, r1, r2, fun o => by simp [World.frozen?, hh], fun k hk => ⟨?_, ?_⟩, cur, hh⟩
    · rw [Nat.mul_comm k 2, hget _ (by omega), cellsOf_tick f hk]
    · rw [Nat.mul_comm k 2, hget _ (by omega), cellsOf_clock f hk]
/-- The last one is cut off. -/
theorem own_cut {base : Nat} {w : World} {n g cap : Nat} {f : Row} (h : w.ownsRow base 47 2 (.slice (some ⟨g, 0, none⟩) (n + 1) cap) (n + 1) (cellsOf f (n + 1))) :
    w.ownsRow base 47 2 (.slice (some ⟨g, 0, none⟩) n cap) n (cellsOf f n) := by
  obtain ⟨h1, h2⟩ := h
  rcases h2 with ⟨h2, _⟩ | ⟨g', cap', cur, hv, hg, hh, r1, r2, r3, r4⟩
  · cases h2
  · cases hv
    refine ⟨cellsOf_length f n, .inr ⟨g, cap, cur, rfl, hg, hh, by omega, r2, r3, ?_⟩⟩
    have := congrArg (List.take (n * 2)) r4
    rw [List.take_take, cellsOf_take, show min (n * 2) ((n + 1) * 2) = n * 2 by omega] at this
    exact this
theorem Turns.grown {base : Nat} {w w' : World} {hp n : Nat} {v : Value} {f : Row} (h : Turns base w hp v n f) (hg : Below w.heap.size w w') : Turns base w' hp v n f :=
  ⟨h.le, (hg.block _ h.lt).trans h.head, h.row.kept (row := none) ⟨hg.os, hg.tape, hg.output, hg.size, fun k hk _ => hg.block k hk⟩ (by
    cases v.ownBlock with
    | none => exact .inl rfl
    | some k => exact .inr (fun e => by cases e))⟩
end Go.Rt
