/-
  container/heap's Push and Pop over turns (own work).
-/
import Derived.Test.YtikdflkllffaaaaRtDown
namespace Go.Rt
open Go Go.RowKit Go.Proofs

set_option maxHeartbeats 4000000 in
set_option maxRecDepth 100000 in
theorem heapPush_in {base n hp : Nat} {v : Value} {f : Row} {w : World} (h : Turns base w hp v n f) (hH : Heap n f) (x : T) (hn : n ≤ 900) :
    Calls Try.prog 25 #[.iface 53 (.pointer (some ⟨hp, 0, none⟩)), .iface 47 (.agg #[.int .i64 x.1, .int .i64 x.2])] w fun e w' => e = .returned (.tuple #[]) ∧ ∃ v' f', Turns base w' hp v' (n + 1) f' ∧ Same (n + 1) (put f n x) f' ∧ Heap (n + 1) f' ∧ Below base w w' := by
  have hp1 := Push_in h x (by omega)
  have mP := m_push ⟨hp, 0, none⟩ w
  have nP := nil_push; have nL := nil_len
  go_enter Try.func25, Try.ntmps25
  go_wp2_with (fail)
  refine hp1.mono ?_
  rintro e w1 ⟨rfl, ⟨v1, hT1⟩, hB1⟩
  have mL := m_len hT1.cell
  have hl := Len_in hT1.row
  have hu := up_in hT1 (by omega) n (by omega) (UpAt.put hH x)
  have e1 : ((n + 1 : Nat) : Int) = (n : Int) + 1 := by omega
  rw [e1] at hl
  have HB1 : Aside _ := hB1
  clear hp1 mP hT1 hB1 h hH
  go_wp2_with (fail)
  refine hl.mono ?_
  rintro e w2 ⟨rfl, hw⟩
  obtain rfl : w2 = w1 := hw
  clear hl mL
  go_wp2_with (fail)
  refine hu.mono ?_
  rintro e w3 ⟨rfl, f', hT3, hS, hH3, hB3⟩
  have E : Aside _ := (⟨v1, f', hT3, hS, hH3, HB1.out.trans hB3⟩ : ∃ v' f', Turns base w3 hp v' (n + 1) f' ∧ Same (n + 1) (put f n x) f' ∧ Heap (n + 1) f' ∧ Below base w w3)
  clear hu hT3 hS hH3 hB3
  go_wp2
  go_end0
  exact ⟨rfl, E.out⟩

set_option maxHeartbeats 4000000 in
set_option maxRecDepth 100000 in
theorem heapPop_in {base n hp : Nat} {v : Value} {f : Row} {w : World} (h : Turns base w hp v (n + 1) f) (hH : Heap (n + 1) f) (hn : n ≤ 900) :
    Calls Try.prog 27 #[.iface 53 (.pointer (some ⟨hp, 0, none⟩))] w fun e w' => e = .returned (.iface 47 (.agg #[.int .i64 (f 0).1, .int .i64 (f 0).2])) ∧ ∃ v' f', Turns base w' hp v' n f' ∧ Same n (swp f 0 n) f' ∧ Heap n f' ∧ Below base w w' := by
  have mL := m_len h.cell
  have hl := Len_in h.row
  have mS := m_swap h.cell
  have hs := swap_at h (by omega) 0 n (by omega) (by omega)
  have nL := nil_len; have nS := nil_swap; have nP := nil_pop
  have e1 : ((n + 1 : Nat) : Int) = (n : Int) + 1 := by omega
  rw [e1] at hl
  clear h
  go_enter Try.func27, Try.ntmps27
  go_wp2_with (fail)
  refine hl.mono ?_
  rintro e w2 ⟨rfl, hw⟩
  obtain rfl : w2 = w := hw
  clear hl mL
  go_wp2_with (fail)
  refine hs.mono ?_
  rintro e w3 ⟨rfl, hT3, hB3⟩
  have hd := down_in hT3 hn hH.cut
  have HB3 : Aside _ := hB3
  clear hs mS hT3 hB3
  go_wp2_with (fail)
  refine hd.mono ?_
  rintro e w4 ⟨⟨b, rfl⟩, f', hT4, hS, hl, hH4, hB4⟩
  have mP := m_pop ⟨hp, 0, none⟩ w4
  have hpp := Pop_in hT4 (by omega)
  rw [hl, swp_r] at hpp
  have E : Aside _ := (⟨hS, hH4, HB3.out.trans hB4⟩ : Same n (swp f 0 n) f' ∧ Heap n f' ∧ Below base w2 w4)
  clear hd hT4 hS hl hH4 hB4
  go_wp2_with (fail)
  refine hpp.mono ?_
  rintro e w5 ⟨rfl, ⟨v5, hT5⟩, hB5⟩
  have E5 : Aside _ := (⟨v5, f', hT5, E.out.1, E.out.2.1, E.out.2.2.trans hB5⟩ : ∃ v' f', Turns base w5 hp v' n f' ∧ Same n (swp f 0 n) f' ∧ Heap n f' ∧ Below base w2 w5)
  clear hpp hT5 hB5 mP
  go_wp2
  go_ret
  exact ⟨rfl, E5.out⟩

theorem heapPop_k {base k hp : Nat} {v : Value} {f : Row} {w : World} (h : Turns base w hp v k f) (hH : Heap k f) (hk : 0 < k) (hn : k ≤ 900) :
    Calls Try.prog 27 #[.iface 53 (.pointer (some ⟨hp, 0, none⟩))] w fun e w' => e = .returned (.iface 47 (.agg #[.int .i64 (f 0).1, .int .i64 (f 0).2])) ∧ ∃ v' f', Turns base w' hp v' (k - 1) f' ∧ Same (k - 1) (swp f 0 (k - 1)) f' ∧ Heap (k - 1) f' ∧ Below base w w' := by
  obtain ⟨n, rfl⟩ : ∃ n, k = n + 1 := ⟨k - 1, by omega⟩
  exact heapPop_in h hH (by omega)
end Go.Rt
