/-
  The walk of RateActive (own work; this text was printed by mkactive.py).
-/
import Derived.Test.YtikdflkllffaaaaRtTable
import Derived.Test.YtikdflkllffaaaaRtActive
import Derived.Test.YtikdflkllffaaaaRtAlive
namespace Go.Rt
open Go Go.RowKit Go.Proofs

theorem lst_one (w : World) (p o : Int) : Lst (w.alloc (.cells #[.int .i64 p, .int .i64 o] 35)).heap.size (some ⟨w.heap.size, 0, none⟩) 1 (fun _ => (p, o)) (w.alloc (.cells #[.int .i64 p, .int .i64 o] 35)) := fun _ =>
  ⟨w.heap.size, 0, rfl, by simp, fun k hk => by
    obtain rfl : k = 0 := by omega
    constructor <;> simp⟩

theorem base_one {p o n : Int} (h : Base (fun _ => (p, o)) 1 n 0) : 1 ≤ p ∧ p ≤ 64 ∧ 0 ≤ o ∧ o < p ∧ n = p := by
  rcases h with ⟨_, _, h⟩ | ⟨_, _, _, h⟩ | ⟨_, _, _, _, h⟩ | ⟨h1, h2, h3, h4, _⟩
  · cases h
  · cases h
  · cases h
  · obtain ⟨a, b, c, d⟩ := h1 0 (by omega)
    simp only at a b c d
    refine ⟨a, b, c, d, ?_⟩
    rw [h4]
    show ((Nat.lcm 1 p.toNat : Nat) : Int) = p
    rw [Nat.lcm_one_left]
    omega

set_option maxHeartbeats 8000000 in
set_option maxRecDepth 100000 in
theorem RateActive_in (p o t : Int) (hp0 : -9223372036854775808 ≤ p) (hp : p ≤ 9223372036854775807) (ht0 : -9223372036854775808 ≤ t) (ht : t ≤ 9223372036854775807) (w : World) :
    Calls Try.prog 4 #[.int .i64 p, .int .i64 o, .int .i64 t] w fun e w' => e = .returned (.bool true) ∧ Old w w' := by
  have hal := alive_in w
  have hac := fun w => Active_in p o t hp ht w
  have hmx := fun h w => max1_in p h w
  have hnm := num_in
  have hc := act_cases p o t
  have hT := fun w => callsIn_wide.1 (Table_in 5 (cap := 1) (lst_one w p o) (by omega))
  rcases hc with ⟨h1, e⟩ | ⟨h1, h2, e⟩ | ⟨h1, h2, h3, e⟩ | ⟨h1, h2, h3, h4, e⟩ | ⟨h1, h2, h3, h4, h5, h6, e⟩ | ⟨h1, h2, h3, h4, h5, e⟩
  · rw [e] at hac
    clear hmx
    go_enter Try.func4, Try.ntmps4
    go_wp2_with (fail)
    refine hal.mono ?_
    rintro x wA ⟨rfl, hA⟩
    have HA : Aside _ := hA
    have hT := hT wA
    clear hal hA
    go_wp2_with (fail)
    refine (hac _).mono ?_
    rintro x w2 ⟨rfl, rfl⟩
    go_wp2_with (fail)
    refine hT.mono ?_
    rintro x w3 ⟨n, er, hB, hbe, hx⟩
    have HO : Hid (Old w w3) := HA.out.trans ((Old.of_below ((Below.refl _ wA).alloc (Nat.le_refl _) _)).trans (Old.of_below hbe))
    clear hT hbe hac
    rcases hx with ⟨her, rfl⟩ | ⟨rfl, g, N, hg, hN, rfl, hM⟩
    · have her' : (er == 0) = false := by simpa using her
      clear hB
      go_wp2_with (fail)
      refine (hnm _ _).mono ?_
      rintro x w4 ⟨rfl, rfl⟩
      go_wp2
      go_ret
      exact ⟨rfl, HO.out⟩
    · exfalso
      have := base_one hB
      omega
  · rw [e] at hac
    clear hmx
    go_enter Try.func4, Try.ntmps4
    go_wp2_with (fail)
    refine hal.mono ?_
    rintro x wA ⟨rfl, hA⟩
    have HA : Aside _ := hA
    have hT := hT wA
    clear hal hA
    go_wp2_with (fail)
    refine (hac _).mono ?_
    rintro x w2 ⟨rfl, rfl⟩
    go_wp2_with (fail)
    refine hT.mono ?_
    rintro x w3 ⟨n, er, hB, hbe, hx⟩
    have HO : Hid (Old w w3) := HA.out.trans ((Old.of_below ((Below.refl _ wA).alloc (Nat.le_refl _) _)).trans (Old.of_below hbe))
    clear hT hbe hac
    rcases hx with ⟨her, rfl⟩ | ⟨rfl, g, N, hg, hN, rfl, hM⟩
    · have her' : (er == 0) = false := by simpa using her
      clear hB
      go_wp2_with (fail)
      refine (hnm _ _).mono ?_
      rintro x w4 ⟨rfl, rfl⟩
      go_wp2
      go_ret
      exact ⟨rfl, HO.out⟩
    · exfalso
      have := base_one hB
      omega
  · rw [e] at hac
    clear hmx
    go_enter Try.func4, Try.ntmps4
    go_wp2_with (fail)
    refine hal.mono ?_
    rintro x wA ⟨rfl, hA⟩
    have HA : Aside _ := hA
    have hT := hT wA
    clear hal hA
    go_wp2_with (fail)
    refine (hac _).mono ?_
    rintro x w2 ⟨rfl, rfl⟩
    go_wp2_with (fail)
    refine hT.mono ?_
    rintro x w3 ⟨n, er, hB, hbe, hx⟩
    have HO : Hid (Old w w3) := HA.out.trans ((Old.of_below ((Below.refl _ wA).alloc (Nat.le_refl _) _)).trans (Old.of_below hbe))
    clear hT hbe hac
    rcases hx with ⟨her, rfl⟩ | ⟨rfl, g, N, hg, hN, rfl, hM⟩
    · have her' : (er == 0) = false := by simpa using her
      clear hB
      go_wp2_with (fail)
      refine (hnm _ _).mono ?_
      rintro x w4 ⟨rfl, rfl⟩
      go_wp2
      go_ret
      exact ⟨rfl, HO.out⟩
    · exfalso
      have := base_one hB
      omega
  · rw [e] at hac
    clear hmx
    go_enter Try.func4, Try.ntmps4
    go_wp2_with (fail)
    refine hal.mono ?_
    rintro x wA ⟨rfl, hA⟩
    have HA : Aside _ := hA
    have hT := hT wA
    clear hal hA
    go_wp2_with (fail)
    refine (hac _).mono ?_
    rintro x w2 ⟨rfl, rfl⟩
    go_wp2_with (fail)
    refine hT.mono ?_
    rintro x w3 ⟨n, er, hB, hbe, hx⟩
    have HO : Hid (Old w w3) := HA.out.trans ((Old.of_below ((Below.refl _ wA).alloc (Nat.le_refl _) _)).trans (Old.of_below hbe))
    clear hT hbe hac
    rcases hx with ⟨her, rfl⟩ | ⟨rfl, g, N, hg, hN, rfl, hM⟩
    · have her' : (er == 0) = false := by simpa using her
      clear hB
      go_wp2_with (fail)
      refine (hnm _ _).mono ?_
      rintro x w4 ⟨rfl, rfl⟩
      go_wp2
      go_ret
      exact ⟨rfl, HO.out⟩
    · obtain ⟨b1, b2, b3, b4, rfl⟩ := base_one hB
      clear hB
      go_wp2_with (fail)
      refine (hnm _ _).mono ?_
      rintro x w4 ⟨rfl, rfl⟩
      go_wp2
      go_ret
      exact ⟨rfl, HO.out⟩
  · rw [e] at hac
    have hmx := hmx h1
    have hb : 0 ≤ t % p ∧ t % p < p := ⟨Int.emod_nonneg _ (by omega), Int.emod_lt_of_pos _ (by omega)⟩
    go_enter Try.func4, Try.ntmps4
    go_wp2_with (fail)
    refine hal.mono ?_
    rintro x wA ⟨rfl, hA⟩
    have HA : Aside _ := hA
    have hT := hT wA
    clear hal hA
    go_wp2_with (fail)
    refine (hmx _).mono ?_
    rintro x w2 ⟨rfl, rfl⟩
    go_wp2_with (fail)
    refine (hac _).mono ?_
    rintro x w2 ⟨rfl, rfl⟩
    go_wp2_with (fail)
    refine hT.mono ?_
    rintro x w3 ⟨n, er, hB, hbe, hx⟩
    have HO : Hid (Old w w3) := HA.out.trans ((Old.of_below ((Below.refl _ wA).alloc (Nat.le_refl _) _)).trans (Old.of_below hbe))
    clear hT hbe hac
    rcases hx with ⟨her, rfl⟩ | ⟨rfl, g, N, hg, hN, rfl, hM⟩
    · have her' : (er == 0) = false := by simpa using her
      clear hB
      go_wp2_with (fail)
      refine (hnm _ _).mono ?_
      rintro x w4 ⟨rfl, rfl⟩
      go_wp2
      go_ret
      exact ⟨rfl, HO.out⟩
    · obtain ⟨b1, b2, b3, b4, rfl⟩ := base_one hB
      clear hB
      go_wp2_with (fail)
      refine (hnm _ _).mono ?_
      rintro x w4 ⟨rfl, rfl⟩
      obtain ⟨pn, rfl⟩ : ∃ k : Nat, n = k := ⟨n.toNat, by omega⟩
      obtain ⟨tk, hk⟩ : ∃ k : Nat, t % (pn : Int) = k := ⟨(t % (pn : Int)).toNat, by omega⟩
      have hend : decide ((tk : Int) % pn = o) = false := by rw [← hk, Int.emod_emod_of_dvd _ (Int.dvd_refl _)]; simp [h5]
      simp only [Int.toNat_natCast] at hM ⊢
      have hlt : tk < pn := by omega
      have hlt' : (tk : Int) < pn := by omega
      have hr := hM.rows.cell hlt
      have hcl := (hM.cells tk hlt).cell (i := 0) (by omega)
      rw [hend] at hcl
      clear hend hM hmx hnm
      go_wp2
      go_ret
      exact ⟨rfl, HO.out⟩
  · rw [e] at hac
    have hmx := hmx h1
    have hb : 0 ≤ t % p ∧ t % p < p := ⟨Int.emod_nonneg _ (by omega), Int.emod_lt_of_pos _ (by omega)⟩
    go_enter Try.func4, Try.ntmps4
    go_wp2_with (fail)
    refine hal.mono ?_
    rintro x wA ⟨rfl, hA⟩
    have HA : Aside _ := hA
    have hT := hT wA
    clear hal hA
    go_wp2_with (fail)
    refine (hmx _).mono ?_
    rintro x w2 ⟨rfl, rfl⟩
    go_wp2_with (fail)
    refine (hac _).mono ?_
    rintro x w2 ⟨rfl, rfl⟩
    go_wp2_with (fail)
    refine hT.mono ?_
    rintro x w3 ⟨n, er, hB, hbe, hx⟩
    have HO : Hid (Old w w3) := HA.out.trans ((Old.of_below ((Below.refl _ wA).alloc (Nat.le_refl _) _)).trans (Old.of_below hbe))
    clear hT hbe hac
    rcases hx with ⟨her, rfl⟩ | ⟨rfl, g, N, hg, hN, rfl, hM⟩
    · have her' : (er == 0) = false := by simpa using her
      clear hB
      go_wp2_with (fail)
      refine (hnm _ _).mono ?_
      rintro x w4 ⟨rfl, rfl⟩
      go_wp2
      go_ret
      exact ⟨rfl, HO.out⟩
    · obtain ⟨b1, b2, b3, b4, rfl⟩ := base_one hB
      clear hB
      go_wp2_with (fail)
      refine (hnm _ _).mono ?_
      rintro x w4 ⟨rfl, rfl⟩
      obtain ⟨pn, rfl⟩ : ∃ k : Nat, n = k := ⟨n.toNat, by omega⟩
      obtain ⟨tk, rfl⟩ : ∃ k : Nat, o = k := ⟨o.toNat, by omega⟩
      have hend : decide ((tk : Int) % pn = tk) = true := by rw [Int.emod_eq_of_lt (by omega) (by omega)]; simp
      simp only [Int.toNat_natCast] at hM ⊢
      have hlt : tk < pn := by omega
      have hlt' : (tk : Int) < pn := by omega
      have hr := hM.rows.cell hlt
      have hcl := (hM.cells tk hlt).cell (i := 0) (by omega)
      rw [hend] at hcl
      clear hend hM hmx hnm
      go_wp2
      go_ret
      exact ⟨rfl, HO.out⟩
end Go.Rt
