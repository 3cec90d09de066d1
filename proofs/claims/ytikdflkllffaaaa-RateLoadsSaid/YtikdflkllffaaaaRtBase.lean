/-
  The greatest common divisor and the base period (own work).
-/
import Derived.Test.YtikdflkllffaaaaRtOn
namespace Go.Rt
open Go Go.RowKit Go.Proofs

set_option maxHeartbeats 4000000 in
set_option maxRecDepth 100000 in
theorem common_in (a b : Nat) (w : World) (ha : a ≤ 1000000) (hb : b ≤ 1000000) :
    Calls Try.prog 23 #[.int .i64 a, .int .i64 b] w fun e w' => e = .returned (.int .i64 (Nat.gcd a b)) ∧ ∃ q, w' = w.drewN q := by
  go_enter Try.func23, Try.ntmps23
  go_wp2
  go_loopg [0, 1] b (fun kx s0 s1 wr => ∃ x y : Nat, s0 = .int .i64 (x : Int) ∧ s1 = .int .i64 (y : Int) ∧ x ≤ 1000000 ∧ y ≤ 1000000 ∧ y ≤ kx ∧ Aside (Nat.gcd x y = Nat.gcd a b ∧ ∃ q, wr = w.drewN q))
  case atStart => exact ⟨a, b, rfl, rfl, ha, hb, Nat.le_refl _, rfl, 0, rfl⟩
  case round =>
    obtain ⟨x, y, rfl, rfl, hx, hy, hyk, A⟩ := hrel
    rcases Nat.eq_zero_or_pos y with rfl | hy0
    · have hg : Hid _ := (show Nat.gcd a b = x by rw [← A.out.1, Nat.gcd_zero_right])
      go_wp2
      go_ret
      exact ⟨by rw [hg.out]; rfl, A.out.2⟩
    · have hy1 : ¬ (y : Int) = 0 := by omega
      have hy2 : ((y : Int) == 0) = false := by simpa using hy1
      go_wp2
      go_region
      all_goals
        go_wp2
        go_roundg (x % y)
        case measure => have := Nat.mod_lt x hy0; omega
        case rel =>
          have hm := Nat.mod_lt x hy0
          exact ⟨y, x % y, by go_num, by simp, hy, by omega, Nat.le_refl _, by rw [← A.out.1, Nat.gcd_comm x y, Nat.gcd_rec y x, Nat.gcd_comm], (by obtain ⟨q, rfl⟩ := A.out.2; exact ⟨q + 1, rfl⟩)⟩

/-- A list of clocks in memory. -/
def Lst (N : Nat) (ao : Option Addr) (m : Nat) (cl : Row) (w : World) : Prop :=
  0 < m → ∃ b o, ao = some ⟨b, o, none⟩ ∧ b < N ∧ ∀ k, k < m → w.cell? ⟨b, o + k * 2, none⟩ = some (.int .i64 (cl k).1) ∧ w.cell? ⟨b, o + k * 2 + 1, none⟩ = some (.int .i64 (cl k).2)
theorem Lst.below {N : Nat} {ao : Option Addr} {m : Nat} {cl : Row} {w w' : World} (h : Lst N ao m cl w) (hb : Below N w w') : Lst N ao m cl w' := fun hm => by
  obtain ⟨b, o, e, h1, h2⟩ := h hm
  exact ⟨b, o, e, h1, fun k hk => ⟨(hb.cell (p := ⟨b, o + k * 2, none⟩) h1).trans (h2 k hk).1, (hb.cell (p := ⟨b, o + k * 2 + 1, none⟩) h1).trans (h2 k hk).2⟩⟩

def lcmTo (cl : Row) : Nat → Nat
  | 0 => 1
  | k + 1 => Nat.lcm (lcmTo cl k) (cl k).1.toNat

/-- The base period, or why there is none. -/
def Base (cl : Row) (m : Nat) (n e : Int) : Prop :=
  (¬ Good cl m ∧ n = 0 ∧ e = 1) ∨ (Good cl m ∧ 64 < m ∧ n = 0 ∧ e = 2) ∨ (Good cl m ∧ m ≤ 64 ∧ 5000 < lcmTo cl m ∧ n = 0 ∧ e = 2) ∨ (Good cl m ∧ m ≤ 64 ∧ lcmTo cl m ≤ 5000 ∧ n = lcmTo cl m ∧ e = 0)

theorem Good.mono {cl : Row} {m k : Nat} (h : Good cl m) (hk : k ≤ m) : Good cl k := fun j hj => h j (by omega)
theorem lcmTo_pos {cl : Row} : ∀ {m : Nat}, Good cl m → 0 < lcmTo cl m
  | 0, _ => Nat.one_pos
  | m + 1, h => Nat.lcm_pos (lcmTo_pos (h.mono (by omega))) (by have := h m (by omega); omega)
theorem lcmTo_le {cl : Row} {m : Nat} (h : Good cl m) : ∀ {k : Nat}, k ≤ m → lcmTo cl k ≤ lcmTo cl m := by
  induction m with
  | zero => intro k hk; rw [Nat.le_zero.1 hk]; exact Nat.le_refl _
  | succ m ih =>
    intro k hk
    rcases Nat.lt_or_ge k (m + 1) with h1 | h1
    · exact Nat.le_trans (ih (h.mono (by omega)) (by omega)) (Nat.le_of_dvd (lcmTo_pos h) (Nat.dvd_lcm_left _ _))
    · rw [show k = m + 1 by omega]; exact Nat.le_refl _
theorem lcm_quot (n p : Nat) : n * (p / Nat.gcd n p) = Nat.lcm n p := by
  unfold Nat.lcm
  rw [Nat.mul_div_assoc _ (Nat.gcd_dvd_right n p)]

set_option maxHeartbeats 4000000 in
set_option maxRecDepth 100000 in
theorem base_in {ao : Option Addr} {m cap : Nat} {cl : Row} {w : World} (h : Lst w.heap.size ao m cl w) (hm : m ≤ 1000) :
    Calls Try.prog 18 #[.slice ao m cap] w fun e w' => (∃ n er, e = .returned (.tuple #[.int .i64 n, .int .i64 er]) ∧ Base cl m n er) ∧ Below w.heap.size w w' := by
  go_enter Try.func18, Try.ntmps18
  go_wp2
  go_loopg [11] m (fun kx s wr => ∃ k : Nat, s = .int .i64 (k : Int) ∧ k ≤ m ∧ m - k ≤ kx ∧ Aside (Good cl k ∧ Below w.heap.size w wr))
  case atStart => exact ⟨0, rfl, Nat.zero_le _, Nat.le_refl _, fun j h => absurd h (by omega), Below.refl _ _⟩
  case round =>
    obtain ⟨k, rfl, hkm, hkx, A⟩ := hrel
    rcases Nat.lt_or_ge k m with hlt | hge
    · obtain ⟨b, o, rfl, hb, hcells⟩ := h.below A.out.2 (by omega)
      obtain ⟨hc1, hc2⟩ := hcells k hlt
      obtain ⟨⟨p, q⟩, hcl⟩ : ∃ x, cl k = x := ⟨_, rfl⟩
      rw [hcl] at hc1 hc2
      simp only at hc1 hc2
      have hlt' : (k : Int) < m := by omega
      have HC : Hid _ := hcl
      clear hcells hcl
      by_cases hg : 1 ≤ p ∧ p ≤ 64 ∧ 0 ≤ q ∧ q < p
      · obtain ⟨g1, g2, g3, g4⟩ := hg
        go_wp2
        go_roundg (m - (k + 1))
        case measure => omega
        case rel =>
          refine ⟨k + 1, by go_num, by omega, by omega, fun j hj => ?_, A.out.2.alloc A.out.2.size _⟩
          rcases Nat.lt_or_ge j k with h1 | h1
          · exact A.out.1 j h1
          · rw [show j = k by omega, HC.out]; exact ⟨g1, g2, g3, g4⟩
      · have HB : Hid _ := (show ¬ Good cl m from fun hG => hg (by have := hG k hlt; rw [HC.out] at this; exact this))
        have hg' : p < 1 ∨ (1 ≤ p ∧ 64 < p) ∨ (1 ≤ p ∧ p ≤ 64 ∧ q < 0) ∨ (1 ≤ p ∧ p ≤ 64 ∧ 0 ≤ q ∧ p ≤ q) := by omega
        clear hg
        rcases hg' with g | ⟨g1, g2⟩ | ⟨g1, g2, g3⟩ | ⟨g1, g2, g3, g4⟩
        all_goals
          go_wp2
          go_ret2
          exact ⟨⟨_, _, rfl, .inl ⟨HB.out, rfl, rfl⟩⟩, A.out.2.alloc A.out.2.size _⟩
    · obtain rfl : k = m := by omega
      clear hge hkm
      by_cases h64 : 64 < k
      · have h64' : (64 : Int) < k := by omega
        go_wp2
        go_ret2
        exact ⟨⟨_, _, rfl, .inr (.inl ⟨A.out.1, h64, rfl, rfl⟩)⟩, A.out.2⟩
      · have h64' : ¬ (64 : Int) < k := by omega
        go_wp2
        go_loopg [4, 41] k (fun kx s4 s wr2 => ∃ j : Nat, s4 = .int .i64 (lcmTo cl j : Int) ∧ s = .int .i64 (j : Int) ∧ j ≤ k ∧ k - j ≤ kx ∧ Aside (lcmTo cl j ≤ 5000 ∧ Below w.heap.size w wr2))
        case atStart => exact ⟨0, rfl, rfl, Nat.zero_le _, Nat.le_refl _, by show 1 ≤ 5000; omega, A.out.2⟩
        case round =>
          have HG : Aside _ := A.out.1
          clear A
          obtain ⟨j, rfl, rfl, hjm, hjx, A⟩ := hrel
          rcases Nat.lt_or_ge j k with hlt | hge
          · obtain ⟨b, o, rfl, hb, hcells⟩ := h.below A.out.2 (by omega)
            obtain ⟨hc1, hc2⟩ := hcells j hlt
            have hlt' : (j : Int) < k := by omega
            obtain ⟨p, hp, hp1, hp2⟩ : ∃ p : Nat, (cl j).1 = (p : Int) ∧ 1 ≤ p ∧ p ≤ 64 := ⟨(cl j).1.toNat, by have := HG.out j hlt; omega, by have := HG.out j hlt; omega, by have := HG.out j hlt; omega⟩
            rw [hp] at hc1
            obtain ⟨n, hn⟩ : ∃ n, lcmTo cl j = n := ⟨_, rfl⟩
            have hn5 : n ≤ 5000 := by rw [← hn]; exact A.out.1
            have hg0 : 0 < Nat.gcd n p := Nat.gcd_pos_of_pos_right n (by omega)
            have hq : n * (p / Nat.gcd n p) ≤ 5000 * 64 := Nat.mul_le_mul hn5 (Nat.le_trans (Nat.div_le_self _ _) hp2)
            have hnext : lcmTo cl (j + 1) = n * (p / Nat.gcd n p) := by rw [lcm_quot]; show Nat.lcm (lcmTo cl j) (cl j).1.toNat = _; rw [hn, hp]; rfl
            obtain ⟨g, hg⟩ : ∃ g, Nat.gcd n p = g := ⟨_, rfl⟩
            rw [hg] at hg0 hq hnext
            obtain ⟨x, hx⟩ : ∃ x, n * (p / g) = x := ⟨_, rfl⟩
            rw [hx] at hq hnext
            have hyz : (p : Int) / (g : Int) = ((p / g : Nat) : Int) := by simp
            have w1 : wrap64 ((p : Int) / (g : Int)) = (p : Int) / (g : Int) := by
              have hle := Nat.div_le_self p g
              rw [hyz]
              obtain ⟨y, hy⟩ : ∃ y, p / g = y := ⟨_, rfl⟩
              rw [hy] at hle ⊢
              exact IntWalk.wrap64_in _ ⟨by omega, by omega⟩
            have w2 : wrap64 ((n : Int) * ((p : Int) / (g : Int))) = (x : Int) := by
              rw [hyz, ← hx]
              have e : (n : Int) * ((p / g : Nat) : Int) = ((n * (p / g) : Nat) : Int) := by simp
              rw [e]
              exact IntWalk.wrap64_in _ ⟨by omega, by rw [hx]; omega⟩
            have W12 : Hid (wrap64 ((n : Int) * wrap64 ((p : Int) / (g : Int))) = (x : Int)) := by rw [w1]; exact w2
            clear hyz w1 w2
            have hcm := fun q => common_in n p (((wr.alloc (.cells #[.int .i64 p, .int .i64 (cl j).2] 35))).drewN q) (by omega) (by omega)
            rw [hg] at hcm
            have HN : Hid _ := (⟨hn, hnext⟩ : lcmTo cl j = n ∧ lcmTo cl (j + 1) = x)
            rw [hn]
            clear hcells hp hn hnext hg hx
            have hBe : Hid (∀ q, Below w.heap.size w ((wr.alloc (.cells #[.int .i64 p, .int .i64 (cl j).2] 35)).drewN q)) := fun q =>
              (A.out.2.alloc A.out.2.size _).trans ⟨rfl, rfl, rfl, Nat.le_refl _, fun _ _ => rfl⟩
            by_cases h5 : 5000 < x
            · have h5z : (5000 : Int) < x := by omega
              have HB : Hid (Base cl k 0 2) := .inr (.inr (.inl ⟨HG.out, by omega, Nat.lt_of_lt_of_le (by rw [HN.out.2]; exact h5) (lcmTo_le HG.out (show j + 1 ≤ k by omega)), rfl, rfl⟩))
              go_wp2
              go_quiet ((go_at_call 23; refine Calls.quiet_of (hcm _)))
              simp only [W12.out]
              go_wp2
              go_ret2
              exact ⟨⟨_, _, rfl, HB.out⟩, hBe.out _⟩
            · have h5z : ¬ (5000 : Int) < x := by omega
              go_wp2
              go_quiet ((go_at_call 23; refine Calls.quiet_of (hcm _)))
              simp only [W12.out]
              go_wp2
              go_roundg (k - (j + 1))
              case measure => omega
              case rel => exact ⟨j + 1, by rw [HN.out.2], by go_num, by omega, by omega, by rw [HN.out.2]; omega, hBe.out _⟩
          · obtain rfl : j = k := by omega
            have HG2 : Hid (Base cl j (lcmTo cl j) 0) := .inr (.inr (.inr ⟨HG.out, by omega, A.out.1, rfl, rfl⟩))
            clear h hkx
            go_wp2
            go_ret2
            exact ⟨⟨_, _, rfl, HG2.out⟩, A.out.2⟩
end Go.Rt
