/-
  The methods behind the interface value (own work).
-/
import Derived.Test.YtikdflkllffaaaaRtPush
import Derived.KernelRfl
namespace Go.Rt
open Go Go.RowKit Go.Proofs

theorem nil_len (a : Addr) (w : World) : (nilAhead 182 53 (.pointer (some a)) "Len").run Try.prog w = .ok (some false) w := by kernel_rfl
theorem nil_less (a : Addr) (w : World) : (nilAhead 182 53 (.pointer (some a)) "Less").run Try.prog w = .ok (some false) w := by kernel_rfl
theorem nil_swap (a : Addr) (w : World) : (nilAhead 182 53 (.pointer (some a)) "Swap").run Try.prog w = .ok (some false) w := by kernel_rfl
theorem nil_push (a : Addr) (w : World) : (nilAhead 182 53 (.pointer (some a)) "Push").run Try.prog w = .ok (some false) w := by kernel_rfl
theorem nil_pop (a : Addr) (w : World) : (nilAhead 182 53 (.pointer (some a)) "Pop").run Try.prog w = .ok (some false) w := by kernel_rfl

theorem m_push (a : Addr) (w : World) : (method 182 53 (.pointer (some a)) "Push").run Try.prog w = .ok (48, .pointer (some a)) w := by kernel_rfl
theorem m_pop (a : Addr) (w : World) : (method 182 53 (.pointer (some a)) "Pop").run Try.prog w = .ok (47, .pointer (some a)) w := by kernel_rfl

theorem m_len0 (a : Addr) (w : World) : (method 182 53 (.pointer (some a)) "Len").run Try.prog w = (do let v ← loadVar 55 a; pure (26, v) : Sem (FuncId × Value)).run Try.prog w := by kernel_rfl
theorem m_less0 (a : Addr) (w : World) : (method 182 53 (.pointer (some a)) "Less").run Try.prog w = (do let v ← loadVar 55 a; pure (46, v) : Sem (FuncId × Value)).run Try.prog w := by kernel_rfl
theorem m_swap0 (a : Addr) (w : World) : (method 182 53 (.pointer (some a)) "Swap").run Try.prog w = (do let v ← loadVar 55 a; pure (49, v) : Sem (FuncId × Value)).run Try.prog w := by kernel_rfl

theorem load55 {a : Addr} {w : World} {v : Value} (hc : w.cell? a = some v) : (loadVar 55 a).run Try.prog w = .ok v w := by
  simp [loadVar, go_sem, hc]
theorem m_len {a : Addr} {w : World} {v : Value} (hc : w.cell? a = some v) : (method 182 53 (.pointer (some a)) "Len").run Try.prog w = .ok (26, v) w := by
  rw [m_len0]; simp [go_sem, hc, Result.andThen]
theorem m_less {a : Addr} {w : World} {v : Value} (hc : w.cell? a = some v) : (method 182 53 (.pointer (some a)) "Less").run Try.prog w = .ok (46, v) w := by
  rw [m_less0]; simp [go_sem, hc, Result.andThen]
theorem m_swap {a : Addr} {w : World} {v : Value} (hc : w.cell? a = some v) : (method 182 53 (.pointer (some a)) "Swap").run Try.prog w = .ok (49, v) w := by
  rw [m_swap0]; simp [go_sem, hc, Result.andThen]
end Go.Rt
