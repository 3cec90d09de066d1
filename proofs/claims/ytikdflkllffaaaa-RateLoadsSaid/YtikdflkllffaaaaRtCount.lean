/-
  The plain law of RateCounts (own work): how often a clock is on, and that the base period is the least.
-/
import Derived.Test.YtikdflkllffaaaaRtBase
namespace Go.Rt

/-- How often a clock of period p and offset o is on below the tick t. -/
def cnt (p o t : Nat) : Nat := t / p + (if o < t % p then 1 else 0)
theorem cnt_zero (p o : Nat) : cnt p o 0 = 0 := by simp [cnt]
theorem cnt_succ {p o t : Nat} (hp : 0 < p) (ho : o < p) : cnt p o (t + 1) = cnt p o t + (if t % p = o then 1 else 0) := by
  have hd := Nat.div_add_mod t p
  have hr := Nat.mod_lt t hp
  unfold cnt
  obtain ⟨q, hq⟩ : ∃ q, t / p = q := ⟨_, rfl⟩
  obtain ⟨r, hr'⟩ : ∃ r, t % p = r := ⟨_, rfl⟩
  rw [hq, hr'] at hd ⊢
  rw [hr'] at hr
  by_cases h : r + 1 < p
  · have e1 : (t + 1) / p = q := by
      rw [← hd, Nat.add_assoc, Nat.mul_add_div hp, Nat.div_eq_of_lt h]; rfl
    have e2 : (t + 1) % p = r + 1 := by
      rw [← hd, Nat.add_assoc, Nat.mul_add_mod, Nat.mod_eq_of_lt h]
    rw [e1, e2]
    split <;> split <;> split <;> omega
  · have hp' : r + 1 = p := by omega
    have e0 : t + 1 = p * (q + 1) := by rw [Nat.mul_add, Nat.mul_one]; omega
    have e1 : (t + 1) / p = q + 1 := by rw [e0, Nat.mul_div_cancel_left _ hp]
    have e2 : (t + 1) % p = 0 := by rw [e0, Nat.mul_mod_right]
    rw [e1, e2]
    split <;> split <;> split <;> omega
theorem cnt_le {p o t : Nat} : cnt p o t ≤ t + 1 := by
  unfold cnt
  have := Nat.div_le_self t p
  split <;> omega
theorem cnt_end {p o t : Nat} (h : p ∣ t) : cnt p o t * p = t := by
  unfold cnt
  rw [Nat.mod_eq_zero_of_dvd h, if_neg (by omega), Nat.add_zero, Nat.div_mul_cancel h]

theorem dvd_lcmTo {cl : Row} {m : Nat} : ∀ {k : Nat}, k < m → (cl k).1.toNat ∣ lcmTo cl m := by
  induction m with
  | zero => intro k hk; omega
  | succ m ih =>
    intro k hk
    rcases Nat.lt_or_ge k m with h | h
    · exact Nat.dvd_trans (ih h) (Nat.dvd_lcm_left _ _)
    · rw [show k = m by omega]; exact Nat.dvd_lcm_right _ _
theorem lcmTo_dvd {cl : Row} {b : Nat} : ∀ {m : Nat}, (∀ k, k < m → (cl k).1.toNat ∣ b) → lcmTo cl m ∣ b
  | 0, _ => Nat.one_dvd b
  | m + 1, h => Nat.lcm_dvd (lcmTo_dvd fun k hk => h k (by omega)) (h m (by omega))
theorem some_not {cl : Row} {m b : Nat} (hb : 0 < b) (hl : b < lcmTo cl m) : ¬ ∀ k, k < m → b % (cl k).1.toNat = 0 := fun h => by
  have := Nat.le_of_dvd hb (lcmTo_dvd fun k hk => Nat.dvd_of_mod_eq_zero (h k hk))
  omega

/-- All periods up to i divide b. -/
def allTo (cl : Row) (b : Nat) : Nat → Bool
  | 0 => true
  | i + 1 => allTo cl b i && decide (b % (cl i).1.toNat = 0)
theorem allTo_iff {cl : Row} {b : Nat} : ∀ {i : Nat}, allTo cl b i = true ↔ ∀ k, k < i → b % (cl k).1.toNat = 0
  | 0 => by simp [allTo]
  | i + 1 => by
    simp only [allTo, Bool.and_eq_true, decide_eq_true_eq, allTo_iff (i := i)]
    constructor
    · rintro ⟨h1, h2⟩ k hk
      rcases Nat.lt_or_ge k i with h | h
      · exact h1 k h
      · rw [show k = i by omega]; exact h2
    · exact fun h => ⟨fun k hk => h k (by omega), h i (by omega)⟩
theorem allTo_end {cl : Row} {m b : Nat} (hb : 0 < b) (hl : b < lcmTo cl m) : allTo cl b m = false := by
  cases h : allTo cl b m with
  | false => rfl
  | true => exact absurd (allTo_iff.1 h) (some_not hb hl)
end Go.Rt
