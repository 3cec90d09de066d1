/-
  Len, Push and Pop of turns (own work).
-/
import Derived.Test.YtikdflkllffaaaaRtSwap
import Derived.Deep.RegionLaw
import Derived.OwnWalkIn
namespace Go.Rt
open Go Go.RowKit Go.Proofs

theorem step_append_own {P : Program} {ops : Array Oper} {o : Oper} {a : Act} {w : World} {K : Act → World → Prop} {Q : Exit → Act → World → Prop} {E : Prop}
    (hg : o.guard = none) (s x : Operand) (t : TypeId) (hop : o.op = Op.call { callee := Callee.builtin Builtin.append, args := #[s, x], argTypes := #[t, t] })
    (base : Nat) (e : TypeId) (i : TypeInfo) (z : Value) (size bytes : Nat) (h1 : P.underlying t = some (.slice e)) (h2 : P.info? e = some i) (h3 : i.zero = some z) (h4 : i.size = size) (h5 : i.bytes = bytes) (h6 : z.cells.size = size) (h7 : 0 < size)
    (v : Value) (k : Nat) (xs : List Value) (hs : a.eval s = v) (hown : w.ownsRow base e size v k xs) (ad : Addr) (m c : Nat) (news : List Value) (hx : a.eval x = .slice (some ad) m c) (hn : news.length = m * size)
    (hc : ∀ j u, news[j]? = some u → w.cell? (ad.add j) = some u) (h1c : ∀ u ∈ news, u.oneCell' = true) (b1 : k + m ≤ maxLen) (b2 : (k + m) * bytes ≤ 140737488355328) (b3 : base ≤ w.heap.size)
    (hK : ∀ v' w', w'.ownsRow base e size v' (k + m) (xs ++ news) → w.grownBy w' v.ownBlock → (v' = .slice none 0 0 ↔ v = .slice none 0 0 ∧ m = 0) → K (a.put o.dst v') w') :
    if Region.wanted o (yielded ops a.tmps) = true then Oper.wp P o a w K Q else E := by
  have hw : Region.wanted o (yielded ops a.tmps) = true := by simp [Region.wanted, hg]
  rw [if_pos hw]
  obtain ⟨v', w', hrun, r1, r2, r3⟩ := run_append_own (P := P) w base t o.type e i z size bytes h1 h2 h3 h4 h5 h6 h7 v k xs hown ad m c news hn hc h1c b1 b2 b3
  unfold Oper.wp
  simp [execOp, hop, resolve, invoke, builtin, hs, hx, hrun, Result.andThen]
  exact hK v' w' r1 r2 r3

theorem cells_two_new (w : World) (x y : Value) (t : TypeId) : ∀ j u, [x, y][j]? = some u → (w.alloc (.cells #[x, y] t)).cell? ((⟨w.heap.size, 0, none⟩ : Addr).add j) = some u := by
  intro j u hj
  match j, hj with
  | 0, hj => simp at hj; subst hj; simp [Addr.add]
  | 1, hj => simp at hj; subst hj; simp [Addr.add]
  | j + 2, hj => simp at hj

theorem assert47 (t c : Int) (w : World) : (Instr.typeAssert (.iface 47 (.agg #[.int .i64 t, .int .i64 c])) 20 47 false).run Try.prog w = .ok (.agg #[.int .i64 t, .int .i64 c]) w := by kernel_rfl

theorem own_block {base n : Nat} {v : Value} {xs : List Value} {w : World} (h : w.ownsRow base 47 2 v n xs) {g : Nat} (hg : v.ownBlock = some g) : base ≤ g ∧ ∃ cur, w.heap[g]? = some (.cells cur 47 (0, 0)) := by
  obtain ⟨_, ⟨rfl, _⟩ | ⟨g', cap, cur, rfl, hb, hh, _⟩⟩ := h
  · cases hg
  · cases hg; exact ⟨hb, cur, hh⟩
theorem Turns.other {base n hp : Nat} {v : Value} {f : Row} {w : World} (h : Turns base w hp v n f) : some hp ≠ v.ownBlock := fun e => by
  obtain ⟨_, cur, hh⟩ := own_block h.row e.symm
  rw [h.head] at hh
  cases hh

/-- The slice is stored into the header. -/
theorem Turns.store {base n' hp : Nat} {v v' : Value} {f : Row} {w : World} (hle : base ≤ hp) (hh : w.heap[hp]? = some (.cells #[v] 55 (0, 0))) (hown : w.ownsRow base 47 2 v' n' (cellsOf f n')) : Turns base (w.setCell ⟨hp, 0, none⟩ v') hp v' n' f :=
  ⟨hle, one_setCell hh, ownsRow_setCell_other hown (a := ⟨hp, 0, none⟩) (fun e => by
    obtain ⟨_, cur, h2⟩ := own_block hown e
    rw [hh] at h2
    cases h2) _⟩

theorem push_step {base n hp : Nat} {v : Value} {f : Row} {w : World} (h : Turns base w hp v n f) (x : T) (o : Obj) {v' : Value} {w' : World}
    (hown : w'.ownsRow base 47 2 v' (n + 1) (cellsOf f n ++ [.int .i64 x.1, .int .i64 x.2])) (hg : (w.alloc o).drew.grownBy w' v.ownBlock) :
    ∃ g cap, v' = .slice (some ⟨g, 0, none⟩) (n + 1) cap ∧ w'.cell? ⟨hp, 0, none⟩ = some v ∧ w'.frozen? ⟨hp, 0, none⟩ = false ∧ Turns base (w'.setCell ⟨hp, 0, none⟩ v') hp v' (n + 1) (put f n x) ∧ Below base w (w'.setCell ⟨hp, 0, none⟩ v') := by
  rw [cellsOf_put] at hown
  obtain ⟨g, cap, hv, _⟩ := own_slice hown (by omega)
  have hsz : (w.alloc o).drew.heap.size = w.heap.size + 1 := by show (w.alloc o).heap.size = _; simp
  have hh : w'.heap[hp]? = some (.cells #[v] 55 (0, 0)) := by
    rw [hg.block hp (by have := h.lt; omega) h.other]
    exact (Below.heap_alloc w o hp h.lt).trans h.head
  have hb : Below base w w' := ((Below.refl base w).alloc (by have := h.lt; have := h.le; omega) o).drew.grown hg (by have := h.lt; have := h.le; omega) (fun k e => (own_block h.row e).1)
  exact ⟨g, cap, hv, cell_of_one hh, free_of_one hh, Turns.store h.le hh hown, hb.setCell h.le _⟩

theorem info47 : (Try.prog.info? 47).map (fun i => (i.zero, i.size, i.bytes)) = some (some (.agg #[.int .i64 0, .int .i64 0]), 2, 16) := by kernel_rfl

set_option maxHeartbeats 4000000 in
set_option maxRecDepth 100000 in
theorem Len_in {base n : Nat} {v : Value} {f : Row} {w : World} (h : w.ownsRow base 47 2 v n (cellsOf f n)) :
    Calls Try.prog 26 #[v] w fun e w' => e = .returned (.int .i64 n) ∧ w' = w := by
  obtain ⟨a, c, rfl⟩ : ∃ a c, v = .slice a n c := by
    obtain ⟨_, ⟨rfl, rfl⟩ | ⟨g, cap, cur, rfl, _⟩⟩ := h
    · exact ⟨_, _, rfl⟩
    · exact ⟨_, _, rfl⟩
  clear h
  go_enter Try.func26, Try.ntmps26
  go_wp2
  go_ret
  exact ⟨rfl, rfl⟩

set_option maxHeartbeats 4000000 in
set_option maxRecDepth 100000 in
theorem Push_in {base n hp : Nat} {v : Value} {f : Row} {w : World} (h : Turns base w hp v n f) (x : T) (hn : n ≤ 1000) :
    Calls Try.prog 48 #[.pointer (some ⟨hp, 0, none⟩), .iface 47 (.agg #[.int .i64 x.1, .int .i64 x.2])] w fun e w' => e = .returned (.tuple #[]) ∧ (∃ v', Turns base w' hp v' (n + 1) (put f n x)) ∧ Below base w w' := by
  obtain ⟨i0, hi, hz0, hz1, hz2⟩ := info_parts info47
  have hc := h.cell
  have hf := h.free
  have hrow := h.row
  have hlt := h.lt
  have hle := h.le
  obtain ⟨t, c⟩ := x
  have hta := assert47 t c
  go_enter Try.func48, Try.ntmps48
  go_wp2
  go_region_law (refine step_append_own rfl (.tmp 7) (.tmp 10) 55 rfl base 47 i0 _ 2 16 Try.underlying55 hi hz0 hz1 hz2 rfl (by decide) v n (cellsOf f n) (by simp [Act.eval]) (hrow.alloc _) ⟨w.heap.size, 0, none⟩ 1 1 [.int .i64 t, .int .i64 c] (by simp [Act.eval]) rfl (cells_two_new w _ _ _) (by simp [Value.oneCell']) (by unfold maxLen; omega) (by omega) (by simp; omega) ?_; intro v' w' hown' hgrow _; obtain ⟨g', cap', rfl, hc', hf', hT, hB⟩ := push_step h (t, c) _ hown' hgrow)
  all_goals (go_end0; exact ⟨rfl, ⟨_, hT⟩, hB⟩)

set_option maxHeartbeats 4000000 in
set_option maxRecDepth 100000 in
theorem Pop_in {base n hp : Nat} {v : Value} {f : Row} {w : World} (h : Turns base w hp v (n + 1) f) (hn : n ≤ 1000) :
    Calls Try.prog 47 #[.pointer (some ⟨hp, 0, none⟩)] w fun e w' => e = .returned (.iface 47 (.agg #[.int .i64 (f n).1, .int .i64 (f n).2])) ∧ (∃ v', Turns base w' hp v' n f) ∧ Below base w w' := by
  have hc := h.cell
  have hf := h.free
  have hrow := h.row
  have hlt := h.lt
  have hle := h.le
  obtain ⟨g, cap, rfl, hb, hc1, hc2, hfz, hcell, _⟩ := own_slice hrow (by omega)
  obtain ⟨ci1, ci2⟩ := hcell n (by omega)
  have hcut := own_cut hrow
  have hh := h.head
  clear hcell hrow h
  go_enter Try.func47, Try.ntmps47
  go_wp2
  go_ret
  have hT := Turns.store hle hh hcut
  exact ⟨rfl, ⟨_, hT.grown ((Below.refl _ _).alloc (Nat.le_refl _) _)⟩, ((Below.refl base w).setCell (p := ⟨hp, 0, none⟩) hle _).alloc (by have := hT.lt; omega) _⟩
end Go.Rt
