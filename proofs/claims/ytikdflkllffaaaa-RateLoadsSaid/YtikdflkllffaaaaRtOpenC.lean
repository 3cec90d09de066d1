/-
  How a list of costs is read (own work).
-/
import Derived.Test.YtikdflkllffaaaaRtOpen
import Derived.Test.YtikdflkllffaaaaRtEach
namespace Go.Rt
open Go Go.RowKit Go.ChangeShapes Go.WideShapes Go.Proofs

theorem open_costs {H : Type} {enc : TypeId × Value → H} {w : World} {v : Value} {d : DataW H} {ps : List MemPlace} (hv : ∃ ao m cap, v = .slice ao m cap) (h : DataW.Trod enc Try.prog w 0 (fun _ => true) true 36 v d ps) :
    ∃ ao m cap cs, v = .slice ao m cap ∧ m ≤ maxLen ∧ CLst w.heap.size ao m cs w ∧ (ao = none → m = 0 ∧ cap = 0) := by
  obtain ⟨ao, m, cap, rfl⟩ := hv
  obtain ⟨fuel, hf⟩ := h
  rcases Go.Deep.open_slice Try.underlying36 hf with ⟨hc, _⟩ | ⟨a, len, cap', m', n, D, Pl, hc, _, hl, hm, hm', _, hel⟩
  · simp [Value.cells] at hc
    obtain ⟨rfl, rfl, rfl⟩ := hc
    exact ⟨none, 0, 0, fun _ => 0, rfl, Nat.zero_le _, fun h => absurd h (by omega), fun _ => ⟨rfl, rfl⟩⟩
  · simp [Value.cells] at hc
    obtain ⟨rfl, rfl, rfl⟩ := hc
    refine ⟨some a, m, cap, ?_⟩
    rcases Nat.eq_zero_or_pos m with rfl | h0
    · exact ⟨fun _ => 0, rfl, Nat.zero_le _, fun h => absurd h (by omega), fun h => by cases h⟩
    have hget : ∀ i, i < m → ∃ n0, w.cell? (a.add (i * 1)) = some (.int .i64 n0) := by
      intro i hi
      obtain ⟨cs, h1, h2⟩ := hel i (by rw [hm']; simp; omega)
      rw [cells3] at h1
      obtain ⟨_, hlen, hget⟩ := World.cells?_some h1
      match cs, hlen with
      | [c0], _ =>
        obtain ⟨n0, q0, _, _⟩ := DataW.trod_int Try.underlying3 h2
        simp at q0
        have g := hget 0 (by omega)
        simp only [List.getElem?_cons_zero] at g
        rw [show (a.add (i * 1)).add 0 = a.add (i * 1) by simp [Addr.add]] at g
        exact ⟨n0, by rw [g, q0]⟩
    obtain ⟨b, o, s⟩ := a
    obtain ⟨n0, hg0⟩ := hget 0 h0
    have hp := plain_of_cell hg0
    have hz : ((⟨b, o, s⟩ : Addr).add (0 * 1)) = ⟨b, o, s⟩ := by simp [Addr.add]
    rw [hz] at hp
    obtain ⟨hs, hb⟩ := hp
    simp only at hs hb
    subst hs
    have hone : ∀ i, i < m → ∃ x : Int, w.cell? ⟨b, o + i, none⟩ = some (.int .i64 x) := by
      intro i hi
      obtain ⟨n0, hg⟩ := hget i hi
      rw [add_plain, Nat.mul_one] at hg
      exact ⟨n0, hg⟩
    obtain ⟨cs, hcs⟩ := choose_lt hone
    exact ⟨cs, rfl, Nat.le_trans hl hm, fun _ => ⟨b, o, rfl, hb, hcs⟩, fun h => by cases h⟩
end Go.Rt
