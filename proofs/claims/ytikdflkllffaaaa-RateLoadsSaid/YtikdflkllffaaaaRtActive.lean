/-
  The small functions (own work): Active, max1, num.
-/
import Derived.Test.YtikdflkllffaaaaProg
import Derived.WalkKit
namespace Go.Rt
open Go Go.RowKit Go.Proofs

set_option maxHeartbeats 4000000 in
set_option maxRecDepth 100000 in
theorem num_in (e : Int) (w : World) : Calls Try.prog 11 #[.int .i64 e] w fun x w' => x = .returned (.int .i64 e) ∧ w = w' := by
  go_enter Try.func11, Try.ntmps11
  go_wp2
  go_ret
  exact ⟨rfl, rfl⟩

set_option maxHeartbeats 4000000 in
set_option maxRecDepth 100000 in
theorem max1_in (n : Int) (h : 1 ≤ n) (w : World) : Calls Try.prog 12 #[.int .i64 n] w fun x w' => x = .returned (.int .i64 n) ∧ w = w' := by
  have h' : ¬ n < 1 := by omega
  go_enter Try.func12, Try.ntmps12
  go_wp2
  go_ret
  exact ⟨rfl, rfl⟩

def act (p o t : Int) : Bool := decide (1 ≤ p) && (decide (0 ≤ o) && (decide (o < p) && (decide (0 ≤ t) && decide (t % p = o))))

theorem act_cases (p o t : Int) :
    (¬ 1 ≤ p ∧ act p o t = false) ∨ (1 ≤ p ∧ ¬ 0 ≤ o ∧ act p o t = false) ∨ (1 ≤ p ∧ 0 ≤ o ∧ ¬ o < p ∧ act p o t = false) ∨ (1 ≤ p ∧ 0 ≤ o ∧ o < p ∧ ¬ 0 ≤ t ∧ act p o t = false) ∨
      (1 ≤ p ∧ 0 ≤ o ∧ o < p ∧ 0 ≤ t ∧ ¬ t % p = o ∧ (t % p == o) = false ∧ act p o t = false) ∨ (1 ≤ p ∧ 0 ≤ o ∧ o < p ∧ 0 ≤ t ∧ t % p = o ∧ act p o t = true) := by
  unfold act
  by_cases h1 : 1 ≤ p <;> by_cases h2 : 0 ≤ o <;> by_cases h3 : o < p <;> by_cases h4 : 0 ≤ t <;> by_cases h5 : t % p = o <;> simp [h1, h2, h3, h4, h5]

set_option maxHeartbeats 4000000 in
set_option maxRecDepth 100000 in
theorem Active_in (p o t : Int) (hp : p ≤ 9223372036854775807) (ht : t ≤ 9223372036854775807) (w : World) :
    Calls Try.prog 13 #[.int .i64 p, .int .i64 o, .int .i64 t] w fun x w' => x = .returned (.bool (act p o t)) ∧ w = w' := by
  rcases act_cases p o t with ⟨h1, e⟩ | ⟨h1, h2, e⟩ | ⟨h1, h2, h3, e⟩ | ⟨h1, h2, h3, h4, e⟩ | ⟨h1, h2, h3, h4, h5, h6, e⟩ | ⟨h1, h2, h3, h4, h5, e⟩
  all_goals
    rw [e]
    go_enter Try.func13, Try.ntmps13
    have hb : 1 ≤ p → 0 ≤ t % p ∧ t % p < p := fun h => ⟨Int.emod_nonneg _ (by omega), Int.emod_lt_of_pos _ (by omega)⟩
    try (have hb := hb h1)
    go_wp2
    go_ret
    exact ⟨rfl, rfl⟩
end Go.Rt
