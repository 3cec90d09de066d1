/-
  The walk of RateTables (own work; this text was printed by mktables.py).
-/
import Derived.Test.YtikdflkllffaaaaRtTable
import Derived.Test.YtikdflkllffaaaaRtActive
import Derived.Test.YtikdflkllffaaaaRtAlive
import Derived.Test.YtikdflkllffaaaaRtRef
import Derived.Test.YtikdflkllffaaaaRtLawCounts
namespace Go.Rt
open Go Go.RowKit Go.Proofs

theorem base_unique {cl : Row} {m : Nat} {n e n' e' : Int} (h : Base cl m n e) (h' : Base cl m n' e') : n = n' ∧ e = e' := by
  rcases h with ⟨g, rfl, rfl⟩ | ⟨g, a, rfl, rfl⟩ | ⟨g, a, b, rfl, rfl⟩ | ⟨g, a, b, rfl, rfl⟩ <;>
    rcases h' with ⟨g', rfl, rfl⟩ | ⟨g', a', rfl, rfl⟩ | ⟨g', a', b', rfl, rfl⟩ | ⟨g', a', b', rfl, rfl⟩ <;>
    first | exact ⟨rfl, rfl⟩ | exact absurd g' g | exact absurd g g' | (exfalso; omega)
theorem base_bad {cl : Row} {m : Nat} {n e : Int} (h : Base cl m n e) (he : e ≠ 0) : n = 0 := by
  rcases h with ⟨_, rfl, rfl⟩ | ⟨_, _, rfl, rfl⟩ | ⟨_, _, _, rfl, rfl⟩ | ⟨_, _, _, rfl, rfl⟩
  · rfl
  · rfl
  · rfl
  · exact absurd rfl he
theorem base_good {cl : Row} {m : Nat} {n : Int} (h : Base cl m n 0) : Good cl m ∧ 0 < n ∧ n ≤ 5000 := by
  rcases h with ⟨_, _, h⟩ | ⟨_, _, _, h⟩ | ⟨_, _, _, _, h⟩ | ⟨h1, h2, h3, h4, _⟩
  · cases h
  · cases h
  · cases h
  · have := lcmTo_pos h1
    exact ⟨h1, by omega, by omega⟩

theorem lst_of_own' {base : Nat} {w : World} {m : Nat} {v : Value} {cl : Row} (h : w.ownsRow base 35 2 v m (cellsOf cl m)) : ∃ a cap, v = .slice a m cap ∧ Lst w.heap.size a m cl w := by
  rcases Nat.eq_zero_or_pos m with rfl | hm
  · obtain ⟨_, ⟨rfl, _⟩ | ⟨g, cap, cur, rfl, _⟩⟩ := h
    · exact ⟨_, _, rfl, fun h => absurd h (by omega)⟩
    · exact ⟨_, _, rfl, fun h => absurd h (by omega)⟩
  · obtain ⟨g, cap, rfl, hL⟩ := lst_of_own h hm
    exact ⟨_, _, rfl, hL⟩
theorem cells_at' {N m : Nat} {a : Addr} {cl : Row} {w : World} (h : Lst N (some a) m cl w) : ∀ j u, (cellsOf cl m)[j]? = some u → w.cell? (a.add j) = some u := by
  intro j u hj
  rcases Nat.eq_zero_or_pos m with rfl | hm
  · rw [cellsOf_get, if_neg (by omega)] at hj; cases hj
  · obtain ⟨b, o, e, _, _⟩ := h hm
    cases e
    exact cells_at h j u hj
theorem plain_lt {w : World} {b o : Nat} {v : Value} (h : w.cell? ⟨b, o, none⟩ = some v) : b < w.heap.size := by
  unfold World.cell? at h
  split at h
  · rename_i c t f hb
    exact lt_of_block hb
  · cases h
theorem own_rows {base L : Nat} {w : World} {v : Value} {R : Nat → Value} (h : w.ownsRow base 31 1 v L ((List.range L).map R)) (hL : 0 < L) :
    ∃ g c, v = .slice (some ⟨g, 0, none⟩) L c ∧ ∀ s, s < L → w.cell? ⟨g, s, none⟩ = some (R s) := by
  obtain ⟨_, ⟨_, h0⟩ | ⟨g, cap, cur, rfl, hg, hh, r1, r2, r3, r4⟩⟩ := h
  · omega
  · refine ⟨g, cap, rfl, fun s hs => ?_⟩
    have : cur.toList[s]? = ((List.range L).map R)[s]? := by rw [← r4, List.getElem?_take, if_pos (by omega)]
    simp only [World.cell?, hh]
    rw [← Array.getElem?_toList, this]
    simp [hs]

set_option maxHeartbeats 16000000 in
set_option maxRecDepth 100000 in
theorem RateTables_in {ao : Option Addr} {m cap : Nat} {cl : Row} {w : World} (h : Lst w.heap.size ao m cl w) (hm : m ≤ maxLen) (hnil : ao = none → m = 0 ∧ cap = 0) :
    Calls Try.prog 3 #[.slice ao m cap] w fun e w' => e = .returned (.bool true) ∧ Old w w' := by
  have hal := alive_in w
  have hnm := num_in
  obtain ⟨i0, hi, hz0, hz1, hz2⟩ := info_parts info35
  unfold maxLen at hm
  by_cases h100 : 100 < m
  · have h100' : (100 : Int) < m := by omega
    clear hnm hi hz0 hz1 hz2 h
    go_enter Try.func3, Try.ntmps3
    go_wp2_with (fail)
    refine hal.mono ?_
    rintro x wA ⟨rfl, hA⟩
    have HA : Aside _ := hA
    clear hal hA
    go_wp2
    go_ret
    exact ⟨rfl, HA.out⟩
  have hd : decide ((100 : Int) < m) = false := decide_eq_false (by omega)
  cases ao with
  | none =>
  obtain ⟨rfl, rfl⟩ := hnil rfl
  · go_enter Try.func3, Try.ntmps3
    go_wp2_with (fail)
    refine hal.mono ?_
    rintro x wA ⟨rfl, hA⟩
    have hLA := h.old hA
    have HA : Aside _ := (⟨hA, hLA⟩ : Old w wA ∧ Lst wA.heap.size none 0 cl wA)
    clear hal hA hLA h hi hz0 hz1 hz2
    have hT := callsIn_wide.1 (Table_in 5 (cap := 0) (cl := cl) (ao := none) (m := 0) (w := wA) (fun h => absurd h (by omega)) (by omega))
    go_wp2_with (fail)
    refine hT.mono ?_
    rintro x w3 ⟨n, er, hB, hbe, hx⟩
    have hAO : Old wA w3 := Old.of_below hbe
    clear hT
    have hL3 := HA.out.2.old hAO
    have hRT := RefTable_in (cap := 0) hL3 (by omega)
    have HO : Aside _ := (⟨HA.out.1.trans hAO, hB, hx⟩ : Old w w3 ∧ Base cl 0 n er ∧ _)
    clear hbe hAO HA hB hx hL3
    obtain ⟨hO3, hB, hx⟩ := HO.out
    clear HO
    rcases hx with ⟨her, rfl⟩ | ⟨rfl, g2, N, hg, hN, rfl, hM⟩
    · have HB : Aside _ := (⟨hB, her, hO3⟩ : Base cl 0 n er ∧ er ≠ 0 ∧ Old w w3)
      clear hB hO3 her
      go_wp2_with (fail)
      refine hRT.mono ?_
      rintro x w5 ⟨n5, er5, v5, rfl, hB5, hb5, hx5⟩
      obtain ⟨hnn, hee⟩ := base_unique HB.out.1 hB5
      subst hnn hee
      have hv5 : v5 = .slice none 0 0 := by
        rcases hx5 with ⟨_, h⟩ | ⟨h, _⟩
        · exact h
        · exact absurd h HB.out.2.1
      subst hv5
      have hn0 := base_bad HB.out.1 HB.out.2.1
      subst hn0
      have HO5 : Aside _ := (HB.out.2.2.trans (Old.of_below hb5) : Old w w5)
      clear hx5 hB5 hb5 hRT HB
      go_wp2_with (fail)
      refine (hnm _ _).mono ?_
      rintro x w6 ⟨rfl, rfl⟩
      go_wp2
      go_loopw [10] (fun s wr => s = .int .i64 0 ∧ wr = w5) (fun _ _ => 0)
      case atStart => exact ⟨rfl, rfl⟩
      case round =>
        obtain ⟨rfl, rfl⟩ := hrel
        go_wp2
        go_ret
        exact ⟨rfl, HO5.out⟩
    · have HB : Aside _ := (⟨hB, hO3, hM⟩ : Base cl 0 n 0 ∧ Old w w3 ∧ _)
      clear hO3 hM hB
      go_wp2_with (fail)
      refine hRT.mono ?_
      rintro x w5 ⟨n5, er5, v5, rfl, hB5, hb5, hx5⟩
      obtain ⟨hnn, hee⟩ := base_unique HB.out.1 hB5
      subst hnn hee
      have hx5' : RRows w3.heap.size w5 v5 n.toNat 0 (onAt cl) := by
        rcases hx5 with ⟨h, _⟩ | ⟨_, h⟩
        · exact absurd rfl h
        · exact h
      obtain ⟨hG, hL⟩ := base_good HB.out.1
      obtain ⟨L, rfl⟩ : ∃ k : Nat, n = k := ⟨n.toNat, by omega⟩
      simp only [Int.toNat_natCast] at hx5'
      have hM5 := HB.out.2.2
      simp only [Int.toNat_natCast] at hM5 ⊢
      have hM5 : Mat w5 g2 N L 0 (onAt cl) := ⟨hM5.rows.of_block (hb5.block _ hM5.rows.lt), fun t ht => (hM5.cells t ht).of_block (hb5.block _ (hM5.cells t ht).lt)⟩
      have hL5 : L ≤ 5000 := by omega
      have hL0 : 0 < L := by omega
      obtain ⟨R, hR1, hR2⟩ := hx5'
      obtain ⟨gr, cr, rfl, hrc⟩ := own_rows hR1 hL0
      have HW : Aside _ := (⟨hM5, hR2, hrc, HB.out.2.1.trans (Old.of_below hb5)⟩ : Mat w5 g2 N L 0 (onAt cl) ∧ (∀ s, s < L → BRow w5 (R s) 0 (onAt cl s)) ∧ (∀ s, s < L → w5.cell? ⟨gr, s, none⟩ = some (R s)) ∧ Old w w5)
      clear hx5 hB5 hb5 hRT HB hM5 hR1 hR2 hrc hG hL
      go_wp2_with (fail)
      refine (hnm _ _).mono ?_
      rintro x w6 ⟨rfl, rfl⟩
      go_wp2
      go_loopg [10] L (fun kx s wr => ∃ i : Nat, s = .int .i64 (i : Int) ∧ i ≤ L ∧ L - i ≤ kx ∧ Aside (Below w5.heap.size w5 wr))
      case atStart => exact ⟨0, rfl, Nat.zero_le _, Nat.le_refl _, Below.refl _ _⟩
      case round =>
        obtain ⟨i, rfl, hiL, hik, A⟩ := hrel
        rcases Nat.lt_or_ge i L with hil | hig
        · have hil' : (i : Int) < L := by omega
          have hr := (A.out.cell (p := ⟨g2, i, none⟩) HW.out.1.rows.lt).trans (HW.out.1.rows.cell hil)
          go_wp2
          go_loopg [11] 0 (fun kx s wr => ∃ k : Nat, s = .int .i64 (k : Int) ∧ k ≤ 0 ∧ 0 - k ≤ kx ∧ Aside (Below w5.heap.size w5 wr))
          case atStart => exact ⟨0, rfl, Nat.zero_le _, Nat.le_refl _, A.out⟩
          case round =>
            clear A hr
            obtain ⟨k, rfl, hkm, hkk, A⟩ := hrel
            rcases Nat.lt_or_ge k 0 with hkl | hkg
            · exact absurd hkl (by omega)
            · obtain rfl : k = 0 := by omega
              go_wp2
              go_roundg (L - (i + 1))
              case measure => omega
              case rel => exact ⟨i + 1, by go_num, by omega, Nat.le_refl _, A.out⟩
        · obtain rfl : i = L := by omega
          go_wp2
          go_ret
          exact ⟨rfl, HW.out.2.2.2.trans (Old.of_below A.out)⟩
  | some a =>
  · go_enter Try.func3, Try.ntmps3
    go_wp2_with (fail)
    refine hal.mono ?_
    rintro x wA ⟨rfl, hA⟩
    have hLA := h.old hA
    have hcs := cells_at' hLA
    have HA : Aside _ := (⟨hA, hLA⟩ : Old w wA ∧ Lst wA.heap.size (some a) m cl wA)
    clear hal hA hLA h
    go_wp2_with (at_builtin; refine wpList_append_own _ rfl _ _ 22 rfl wA.heap.size 35 i0 _ 2 16 Try.underlying22 hi hz0 hz1 hz2 rfl (by decide) (.slice none 0 0) 0 [] rfl (World.ownsRow_nil _ _ _ _) a m cap (cellsOf cl m) rfl (cellsOf_length _ _) hcs (cellsOf_one _ _) (by unfold maxLen; omega) (by omega) (Nat.le_refl _) ?_; intro v1 w1 hown hgrow hnil)
    rw [Nat.zero_add, List.nil_append] at hown
    obtain ⟨a2, cap2, rfl, hL1⟩ := lst_of_own' hown
    have hT := callsIn_wide.1 (Table_in 5 (cap := cap2) hL1 (by omega))
    have hb1 : Below wA.heap.size wA w1 := (Below.refl _ wA).grown hgrow (Nat.le_refl _) (fun k e => by cases e)
    clear hown hgrow hL1 hcs hnil hi hz0 hz1 hz2
    refine hT.mono ?_
    rintro x w3 ⟨n, er, hB, hbe, hx⟩
    have hAO : Old wA w3 := (Old.of_below hb1).trans (Old.of_below hbe)
    clear hT hb1
    have hL3 := HA.out.2.old hAO
    have hRT := RefTable_in (cap := cap) hL3 (by omega)
    have HO : Aside _ := (⟨HA.out.1.trans hAO, hB, hx⟩ : Old w w3 ∧ Base cl m n er ∧ _)
    clear hbe hAO HA hB hx hL3
    obtain ⟨hO3, hB, hx⟩ := HO.out
    clear HO
    rcases hx with ⟨her, rfl⟩ | ⟨rfl, g2, N, hg, hN, rfl, hM⟩
    · have HB : Aside _ := (⟨hB, her, hO3⟩ : Base cl m n er ∧ er ≠ 0 ∧ Old w w3)
      clear hB hO3 her
      go_wp2_with (fail)
      refine hRT.mono ?_
      rintro x w5 ⟨n5, er5, v5, rfl, hB5, hb5, hx5⟩
      obtain ⟨hnn, hee⟩ := base_unique HB.out.1 hB5
      subst hnn hee
      have hv5 : v5 = .slice none 0 0 := by
        rcases hx5 with ⟨_, h⟩ | ⟨h, _⟩
        · exact h
        · exact absurd h HB.out.2.1
      subst hv5
      have hn0 := base_bad HB.out.1 HB.out.2.1
      subst hn0
      have HO5 : Aside _ := (HB.out.2.2.trans (Old.of_below hb5) : Old w w5)
      clear hx5 hB5 hb5 hRT HB
      go_wp2_with (fail)
      refine (hnm _ _).mono ?_
      rintro x w6 ⟨rfl, rfl⟩
      go_wp2
      go_loopw [10] (fun s wr => s = .int .i64 0 ∧ wr = w5) (fun _ _ => 0)
      case atStart => exact ⟨rfl, rfl⟩
      case round =>
        obtain ⟨rfl, rfl⟩ := hrel
        go_wp2
        go_ret
        exact ⟨rfl, HO5.out⟩
    · have HB : Aside _ := (⟨hB, hO3, hM⟩ : Base cl m n 0 ∧ Old w w3 ∧ _)
      clear hO3 hM hB
      go_wp2_with (fail)
      refine hRT.mono ?_
      rintro x w5 ⟨n5, er5, v5, rfl, hB5, hb5, hx5⟩
      obtain ⟨hnn, hee⟩ := base_unique HB.out.1 hB5
      subst hnn hee
      have hx5' : RRows w3.heap.size w5 v5 n.toNat m (onAt cl) := by
        rcases hx5 with ⟨h, _⟩ | ⟨_, h⟩
        · exact absurd rfl h
        · exact h
      obtain ⟨hG, hL⟩ := base_good HB.out.1
      obtain ⟨L, rfl⟩ : ∃ k : Nat, n = k := ⟨n.toNat, by omega⟩
      simp only [Int.toNat_natCast] at hx5'
      have hM5 := HB.out.2.2
      simp only [Int.toNat_natCast] at hM5 ⊢
      have hM5 : Mat w5 g2 N L m (onAt cl) := ⟨hM5.rows.of_block (hb5.block _ hM5.rows.lt), fun t ht => (hM5.cells t ht).of_block (hb5.block _ (hM5.cells t ht).lt)⟩
      have hL5 : L ≤ 5000 := by omega
      have hL0 : 0 < L := by omega
      obtain ⟨R, hR1, hR2⟩ := hx5'
      obtain ⟨gr, cr, rfl, hrc⟩ := own_rows hR1 hL0
      have HW : Aside _ := (⟨hM5, hR2, hrc, HB.out.2.1.trans (Old.of_below hb5)⟩ : Mat w5 g2 N L m (onAt cl) ∧ (∀ s, s < L → BRow w5 (R s) m (onAt cl s)) ∧ (∀ s, s < L → w5.cell? ⟨gr, s, none⟩ = some (R s)) ∧ Old w w5)
      clear hx5 hB5 hb5 hRT HB hM5 hR1 hR2 hrc hG hL
      go_wp2_with (fail)
      refine (hnm _ _).mono ?_
      rintro x w6 ⟨rfl, rfl⟩
      go_wp2
      go_loopg [10] L (fun kx s wr => ∃ i : Nat, s = .int .i64 (i : Int) ∧ i ≤ L ∧ L - i ≤ kx ∧ Aside (Below w5.heap.size w5 wr))
      case atStart => exact ⟨0, rfl, Nat.zero_le _, Nat.le_refl _, Below.refl _ _⟩
      case round =>
        obtain ⟨i, rfl, hiL, hik, A⟩ := hrel
        rcases Nat.lt_or_ge i L with hil | hig
        · have hil' : (i : Int) < L := by omega
          have hr := (A.out.cell (p := ⟨g2, i, none⟩) HW.out.1.rows.lt).trans (HW.out.1.rows.cell hil)
          go_wp2
          go_loopg [11] m (fun kx s wr => ∃ k : Nat, s = .int .i64 (k : Int) ∧ k ≤ m ∧ m - k ≤ kx ∧ Aside (Below w5.heap.size w5 wr))
          case atStart => exact ⟨0, rfl, Nat.zero_le _, Nat.le_refl _, A.out⟩
          case round =>
            clear A hr
            obtain ⟨k, rfl, hkm, hkk, A⟩ := hrel
            rcases Nat.lt_or_ge k m with hkl | hkg
            · have hkl' : (k : Int) < m := by omega
              have hr := (A.out.cell (p := ⟨g2, i, none⟩) HW.out.1.rows.lt).trans (HW.out.1.rows.cell hil)
              have hcl := (A.out.cell (p := ⟨N + i, k, none⟩) (HW.out.1.cells i hil).lt).trans ((HW.out.1.cells i hil).cell hkl)
              obtain ⟨ra, rc, hRe, hRc⟩ := HW.out.2.1 i hil
              obtain ⟨hb, cur, rfl, hh, hcur⟩ := hRc (by omega)
              have hw := HW.out.2.2.1 i hil
              rw [hRe] at hw
              have hgl : gr < w5.heap.size := (plain_lt hw)
              have hw2 := (A.out.cell (p := ⟨gr, i, none⟩) hgl).trans hw
              have hx : w5.cell? ⟨hb, k, none⟩ = some (.bool (onAt cl i k)) := by simp only [World.cell?, hh]; exact hcur k hkl
              have hx2 := (A.out.cell (p := ⟨hb, k, none⟩) (lt_of_block hh)).trans hx
              obtain ⟨bb, hbb⟩ : ∃ y, onAt cl i k = y := ⟨_, rfl⟩
              rw [hbb] at hcl hx2
              clear hRe hRc hh hcur hw hx hbb hgl
              go_wp2
              go_quiet (fail)
              go_wp2
              go_roundg (m - (k + 1))
              case measure => omega
              case rel => exact ⟨k + 1, by go_num, by omega, Nat.le_refl _, A.out.trans ⟨rfl, rfl, rfl, Nat.le_refl _, fun _ _ => rfl⟩⟩
            · obtain rfl : k = m := by omega
              go_wp2
              go_roundg (L - (i + 1))
              case measure => omega
              case rel => exact ⟨i + 1, by go_num, by omega, Nat.le_refl _, A.out⟩
        · obtain rfl : i = L := by omega
          go_wp2
          go_ret
          exact ⟨rfl, HW.out.2.2.2.trans (Old.of_below A.out)⟩
end Go.Rt
