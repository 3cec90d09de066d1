/-
  container/heap's down over turns (own work; this text was printed by mkdown.py).
-/
import Derived.Test.YtikdflkllffaaaaRtUp
namespace Go.Rt
open Go Go.RowKit Go.Proofs

set_option maxHeartbeats 4000000 in
set_option maxRecDepth 100000 in
theorem down_in {base n hp : Nat} {v : Value} {f : Row} {w : World} (h : Turns base w hp v (n + 1) f) (hn : n ≤ 900) (hu : DownAt n f 0) :
    Calls Try.prog 29 #[.iface 53 (.pointer (some ⟨hp, 0, none⟩)), .int .i64 0, .int .i64 n] w fun e w' => (∃ b, e = .returned (.bool b)) ∧ ∃ f', Turns base w' hp v (n + 1) f' ∧ Same n f f' ∧ f' n = f n ∧ Heap n f' ∧ Below base w w' := by
  go_enter Try.func29, Try.ntmps29
  go_wp2
  go_loopg [7] n (fun m s wr => ∃ (i : Nat) (fk : Row), s = .int .i64 (i : Int) ∧ i ≤ n ∧ n - i ≤ m ∧ Aside (Turns base wr hp v (n + 1) fk ∧ Same n f fk ∧ fk n = f n ∧ DownAt n fk i ∧ Below base w wr))
  case atStart => exact ⟨0, f, rfl, by omega, by omega, h, Same.refl n f, rfl, hu, Below.refl _ _⟩
  case round =>
    obtain ⟨i, fk, rfl, hin, hm, A⟩ := hrel
    obtain ⟨hT, hS, hl, hD, hB⟩ := A.out
    have nL := nil_less; have nS := nil_swap
    have H : Aside _ := (⟨hS, hD, hl⟩ : Same n f fk ∧ DownAt n fk i ∧ fk n = f n)
    have HT : Aside _ := (⟨hT, hB⟩ : Turns base wr hp v (n + 1) fk ∧ Below base w wr)
    have mL := m_less hT.cell
    clear A hS hl hD hB h hu
    have e1 : ((2 * i + 1 : Nat) : Int) = 2 * (i : Int) + 1 := by omega
    have e2 : ((2 * i + 2 : Nat) : Int) = 2 * (i : Int) + 1 + 1 := by omega
    by_cases h0 : n ≤ 2 * i + 1
    · have h0z : (n : Int) ≤ 2 * (i : Int) + 1 := by omega
      clear hT mL e1 e2
      have HE : Hid _ := H.out.2.1.leaf h0
      go_wp2
      go_ret
      exact ⟨⟨_, rfl⟩, fk, HT.out.1, H.out.1, H.out.2.2, HE.out, HT.out.2⟩
    · have h0z : ¬ ((n : Int) ≤ 2 * (i : Int) + 1) := by omega
      by_cases h1 : 2 * i + 2 < n
      · have h1z : 2 * (i : Int) + 1 + 1 < (n : Int) := by omega
        have hl1 := less_at hT (by omega) (2 * i + 2) (2 * i + 1) (by omega) (by omega)
        rw [e1, e2] at hl1
        by_cases hlt1 : lt (fk (2 * i + 2)) (fk (2 * i + 1))
        · have hl1 := hl1 true (decide_eq_true hlt1)
          have HL : Hid _ := Lesser.right h1 hlt1
          clear hlt1 hT
          go_wp2_with (fail)
          refine hl1.mono ?_
          rintro e w2 ⟨rfl, hT2, hB2⟩
          have HT' : Aside _ := (⟨hT2, HT.out.2.trans hB2⟩ : Turns base w2 hp v (n + 1) fk ∧ Below base w w2)
          clear hT2 hB2 HT hl1 mL
          have HT := HT'
          clear HT'
          have hl2 := less_at HT.out.1 (by omega) (2 * i + 2) i (by omega) (by omega)
          rw [e2] at hl2
          have mL2 := m_less HT.out.1.cell
          by_cases hlt2 : lt (fk (2 * i + 2)) (fk i)
          · have hl2 := hl2 true (decide_eq_true hlt2)
            have HG : Hid _ := hlt2
            clear hlt2
            go_wp2_with (fail)
            refine hl2.mono ?_
            rintro e w3 ⟨rfl, hT3, hB3⟩
            have mS := m_swap hT3.cell
            have hs := swap_at hT3 (by omega) i (2 * i + 2) (by omega) (by omega)
            rw [e2] at hs
            have HB3 : Aside _ := hB3
            clear hT3 hB3 mL2 hl2
            go_wp2_with (fail)
            refine hs.mono ?_
            rintro e w4 ⟨rfl, hT4, hB4⟩
            clear hs mS
            have HT4 : Aside _ := (⟨hT4, hB4⟩ : Turns base w4 hp v (n + 1) (swp fk i (2 * i + 2)) ∧ Below base w3 w4)
            clear hT4 hB4
            go_wp2
            go_roundg (n - (2 * i + 2))
            case measure => omega
            case rel =>
              obtain ⟨hS, hD, hl⟩ := H.out
              exact ⟨2 * i + 2, swp fk i (2 * i + 2), by go_num, by omega, by omega, HT4.out.1, hS.trans (Same.swp fk (by omega) (by omega)), by rw [swp_o fk (by omega) (by omega)]; exact hl, hD.step HL.out HG.out, (HT.out.2.trans HB3.out).trans HT4.out.2⟩
          · have hl2 := hl2 false (decide_eq_false hlt2)
            have HE : Hid _ := H.out.2.1.stop HL.out hlt2
            clear hlt2
            go_wp2_with (fail)
            refine hl2.mono ?_
            rintro e w3 ⟨rfl, hT3, hB3⟩
            have HT3 : Aside _ := (⟨hT3, hB3⟩ : Turns base w3 hp v (n + 1) fk ∧ Below base w2 w3)
            clear hT3 hB3 mL2 hl2
            go_wp2
            go_ret
            exact ⟨⟨_, rfl⟩, fk, HT3.out.1, H.out.1, H.out.2.2, HE.out, HT.out.2.trans HT3.out.2⟩
        · have hl1 := hl1 false (decide_eq_false hlt1)
          have HL : Hid _ := Lesser.left (n := n) (i := i) (f := fk) (by omega) (fun h => hlt1 h.2)
          clear hlt1 hT
          go_wp2_with (fail)
          refine hl1.mono ?_
          rintro e w2 ⟨rfl, hT2, hB2⟩
          have HT' : Aside _ := (⟨hT2, HT.out.2.trans hB2⟩ : Turns base w2 hp v (n + 1) fk ∧ Below base w w2)
          clear hT2 hB2 HT hl1 mL
          have HT := HT'
          clear HT'
          have hl2 := less_at HT.out.1 (by omega) (2 * i + 1) i (by omega) (by omega)
          rw [e1] at hl2
          have mL2 := m_less HT.out.1.cell
          by_cases hlt2 : lt (fk (2 * i + 1)) (fk i)
          · have hl2 := hl2 true (decide_eq_true hlt2)
            have HG : Hid _ := hlt2
            clear hlt2
            go_wp2_with (fail)
            refine hl2.mono ?_
            rintro e w3 ⟨rfl, hT3, hB3⟩
            have mS := m_swap hT3.cell
            have hs := swap_at hT3 (by omega) i (2 * i + 1) (by omega) (by omega)
            rw [e1] at hs
            have HB3 : Aside _ := hB3
            clear hT3 hB3 mL2 hl2
            go_wp2_with (fail)
            refine hs.mono ?_
            rintro e w4 ⟨rfl, hT4, hB4⟩
            clear hs mS
            have HT4 : Aside _ := (⟨hT4, hB4⟩ : Turns base w4 hp v (n + 1) (swp fk i (2 * i + 1)) ∧ Below base w3 w4)
            clear hT4 hB4
            go_wp2
            go_roundg (n - (2 * i + 1))
            case measure => omega
            case rel =>
              obtain ⟨hS, hD, hl⟩ := H.out
              exact ⟨2 * i + 1, swp fk i (2 * i + 1), by go_num, by omega, by omega, HT4.out.1, hS.trans (Same.swp fk (by omega) (by omega)), by rw [swp_o fk (by omega) (by omega)]; exact hl, hD.step HL.out HG.out, (HT.out.2.trans HB3.out).trans HT4.out.2⟩
          · have hl2 := hl2 false (decide_eq_false hlt2)
            have HE : Hid _ := H.out.2.1.stop HL.out hlt2
            clear hlt2
            go_wp2_with (fail)
            refine hl2.mono ?_
            rintro e w3 ⟨rfl, hT3, hB3⟩
            have HT3 : Aside _ := (⟨hT3, hB3⟩ : Turns base w3 hp v (n + 1) fk ∧ Below base w2 w3)
            clear hT3 hB3 mL2 hl2
            go_wp2
            go_ret
            exact ⟨⟨_, rfl⟩, fk, HT3.out.1, H.out.1, H.out.2.2, HE.out, HT.out.2.trans HT3.out.2⟩
      · have h1z : ¬ (2 * (i : Int) + 1 + 1 < (n : Int)) := by omega
        have HL : Hid _ := Lesser.left (n := n) (i := i) (f := fk) (by omega) (fun h => h1 h.1)
        clear hT mL
        have hl2 := less_at HT.out.1 (by omega) (2 * i + 1) i (by omega) (by omega)
        rw [e1] at hl2
        have mL2 := m_less HT.out.1.cell
        by_cases hlt2 : lt (fk (2 * i + 1)) (fk i)
        · have hl2 := hl2 true (decide_eq_true hlt2)
          have HG : Hid _ := hlt2
          clear hlt2
          go_wp2_with (fail)
          refine hl2.mono ?_
          rintro e w3 ⟨rfl, hT3, hB3⟩
          have mS := m_swap hT3.cell
          have hs := swap_at hT3 (by omega) i (2 * i + 1) (by omega) (by omega)
          rw [e1] at hs
          have HB3 : Aside _ := hB3
          clear hT3 hB3 mL2 hl2
          go_wp2_with (fail)
          refine hs.mono ?_
          rintro e w4 ⟨rfl, hT4, hB4⟩
          clear hs mS
          have HT4 : Aside _ := (⟨hT4, hB4⟩ : Turns base w4 hp v (n + 1) (swp fk i (2 * i + 1)) ∧ Below base w3 w4)
          clear hT4 hB4
          go_wp2
          go_roundg (n - (2 * i + 1))
          case measure => omega
          case rel =>
            obtain ⟨hS, hD, hl⟩ := H.out
            exact ⟨2 * i + 1, swp fk i (2 * i + 1), by go_num, by omega, by omega, HT4.out.1, hS.trans (Same.swp fk (by omega) (by omega)), by rw [swp_o fk (by omega) (by omega)]; exact hl, hD.step HL.out HG.out, (HT.out.2.trans HB3.out).trans HT4.out.2⟩
        · have hl2 := hl2 false (decide_eq_false hlt2)
          have HE : Hid _ := H.out.2.1.stop HL.out hlt2
          clear hlt2
          go_wp2_with (fail)
          refine hl2.mono ?_
          rintro e w3 ⟨rfl, hT3, hB3⟩
          have HT3 : Aside _ := (⟨hT3, hB3⟩ : Turns base w3 hp v (n + 1) fk ∧ Below base wr w3)
          clear hT3 hB3 mL2 hl2
          go_wp2
          go_ret
          exact ⟨⟨_, rfl⟩, fk, HT3.out.1, H.out.1, H.out.2.2, HE.out, HT.out.2.trans HT3.out.2⟩
end Go.Rt
