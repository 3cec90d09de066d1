/-
  How lists of clocks and of costs are read (own work).
-/
import Derived.ProofKit
import Derived.OpenShut
import Derived.Deep.Slices
import Derived.Carry
import Derived.Test.YtikdflkllffaaaaRtPost
import Derived.Test.YtikdflkllffaaaaRtBase
namespace Go.Rt
open Go Go.RowKit Go.ChangeShapes Go.WideShapes Go.Proofs

theorem cells35 : Try.prog.cellsOf 35 = 2 := by kernel_rfl
theorem cells3 : Try.prog.cellsOf 3 = 1 := by kernel_rfl
theorem laidOut : laidOutB Try.prog = true := by kernel_rfl

theorem Old.same {w w' : World} (h : Old w w') {p : MemPlace} (hp : p.block < w.heap.size) : w.sameAt w' p := by
  cases p with
  | cell b o => exact World.cell?_of_block (w := w) (h.block b hp)
  | map b => exact h.block b hp

/-- An argument reads behind the call as it read before. -/
theorem Old.trod {H : Type} {enc : TypeId × Value → H} {P : Program} {t : TypeId} (hl : laidOutB P = true) (hr : P.readableRec t = true) (hrow : t < P.types.size) {w w' : World} {v : Value} {d : DataW H} {ps : List MemPlace}
    (h : DataW.Trod enc P w 0 (fun _ => true) true t v d ps) (ho : Old w w') (hlt : ∀ x ∈ ps, x.block < w.heap.size) {sp : Nat → Bool} (hs : ∀ x ∈ ps, sp x.block = true) : DataW.Trod enc P w' 0 sp true t v d ps :=
  WideElems.Trod_stays hl hr hrow h (fun x hx => ho.same (hlt x hx)) hs

theorem choose_lt {α : Type} [Inhabited α] {n : Nat} {R : Nat → α → Prop} (h : ∀ i, i < n → ∃ x, R i x) : ∃ f : Nat → α, ∀ i, i < n → R i (f i) := by
  classical
  exact ⟨fun i => if hi : i < n then (h i hi).choose else default, fun i hi => by simp only [dif_pos hi]; exact (h i hi).choose_spec⟩

theorem add_plain (b o j : Nat) : (⟨b, o, none⟩ : Addr).add j = ⟨b, o + j, none⟩ := by simp [Addr.add]
theorem plain_of_cell {w : World} {a : Addr} {v : Value} (h : w.cell? a = some v) : a.spot = none ∧ a.block < w.heap.size := by
  unfold World.cell? at h
  split at h
  · rename_i c t f hb
    refine ⟨?_, lt_of_block hb⟩
    cases hs : a.spot with
    | none => rfl
    | some x => rw [hs] at h; simp at h
  · cases h

theorem open_clocks {H : Type} {enc : TypeId × Value → H} {w : World} {v : Value} {d : DataW H} {ps : List MemPlace} (hv : ∃ ao m cap, v = .slice ao m cap) (h : DataW.Trod enc Try.prog w 0 (fun _ => true) true 22 v d ps) :
    ∃ ao m cap cl, v = .slice ao m cap ∧ m ≤ maxLen ∧ Lst w.heap.size ao m cl w ∧ (ao = none → m = 0 ∧ cap = 0) := by
  obtain ⟨ao, m, cap, rfl⟩ := hv
  obtain ⟨fuel, hf⟩ := h
  rcases Go.Deep.open_slice Try.underlying22 hf with ⟨hc, _⟩ | ⟨a, len, cap', m', n, D, Pl, hc, _, hl, hm, hm', _, hel⟩
  · simp [Value.cells] at hc
    obtain ⟨rfl, rfl, rfl⟩ := hc
    exact ⟨none, 0, 0, fun _ => (0, 0), rfl, Nat.zero_le _, fun h => absurd h (by omega), fun _ => ⟨rfl, rfl⟩⟩
  · simp [Value.cells] at hc
    obtain ⟨rfl, rfl, rfl⟩ := hc
    refine ⟨some a, m, cap, ?_⟩
    rcases Nat.eq_zero_or_pos m with rfl | h0
    · exact ⟨fun _ => (0, 0), rfl, Nat.zero_le _, fun h => absurd h (by omega), fun h => by cases h⟩
    have hget : ∀ i, i < m → ∃ (cs : List Value), cs.length = 2 ∧ (∀ j, j < 2 → w.cell? ((a.add (i * 2)).add j) = cs[j]?) ∧ ∃ n0 n1, cs = [.int .i64 n0, .int .i64 n1] := by
      intro i hi
      obtain ⟨cs, h1, h2⟩ := hel i (by rw [hm']; simp; omega)
      rw [cells35] at h1
      obtain ⟨_, hlen, hget⟩ := World.cells?_some h1
      obtain ⟨xs, k, _, _, _, hx, hx2⟩ := DataW.trod_array Try.underlying35 h2
      have g0 := hx2 0 (by omega)
      have g1 := hx2 1 (by omega)
      rw [cells3] at g0 g1
      match cs, hlen with
      | [c0, c1], _ =>
        obtain ⟨x0, e0⟩ : ∃ x, xs[0]? = some x := ⟨xs[0]'(by omega), List.getElem?_eq_getElem (by omega)⟩
        obtain ⟨x1, e1⟩ : ∃ x, xs[1]? = some x := ⟨xs[1]'(by omega), List.getElem?_eq_getElem (by omega)⟩
        rw [e0] at g0
        rw [e1] at g1
        obtain ⟨n0, q0, _, _⟩ := DataW.trod_int Try.underlying3 g0
        obtain ⟨n1, q1, _, _⟩ := DataW.trod_int Try.underlying3 g1
        simp at q0 q1
        exact ⟨[c0, c1], rfl, hget, n0, n1, by rw [q0, q1]⟩
    obtain ⟨b, o, s⟩ := a
    obtain ⟨cs, hl0, hg0, n0, n1, rfl⟩ := hget 0 h0
    have hp := plain_of_cell (hg0 0 (by omega))
    have hz : ((⟨b, o, s⟩ : Addr).add (0 * 2)).add 0 = ⟨b, o, s⟩ := by simp [Addr.add]
    rw [hz] at hp
    obtain ⟨hs, hb⟩ := hp
    simp only at hs hb
    subst hs
    have hpair : ∀ i, i < m → ∃ x : T, w.cell? ⟨b, o + i * 2, none⟩ = some (.int .i64 x.1) ∧ w.cell? ⟨b, o + i * 2 + 1, none⟩ = some (.int .i64 x.2) := by
      intro i hi
      obtain ⟨cs, _, hg, n0, n1, rfl⟩ := hget i hi
      have a0 := hg 0 (by omega)
      have a1 := hg 1 (by omega)
      rw [add_plain, add_plain] at a0 a1
      exact ⟨(n0, n1), a0, a1⟩
    obtain ⟨cl, hcl⟩ := choose_lt hpair
    exact ⟨cl, rfl, Nat.le_trans hl hm, fun _ => ⟨b, o, rfl, hb, hcl⟩, fun h => by cases h⟩
end Go.Rt
