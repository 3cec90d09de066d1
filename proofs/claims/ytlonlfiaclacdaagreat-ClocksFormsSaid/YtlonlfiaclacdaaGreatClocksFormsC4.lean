/-
  ClocksForms: cases, each by the kernel (4 of 4)
-/
import Derived.Test.YtlonlfiaclacdaaGreatClocksFormsM
import Derived.KernelRfl
namespace Go.Proofs.YtlonlfiaclacdaaGreat.clocksForms
theorem e3 : Go.Ab.evalsK YtlonlfiaclacdaaGreatK.table memo (nat_lit 300) (nat_lit 8) [.int .i64 (.ofNat (nat_lit 0)), .rng .i64 (.ofNat (nat_lit 3)) (.ofNat (nat_lit 9223372036854775807))] = true := by kernel_rfl
theorem e7 : Go.Ab.evalsK YtlonlfiaclacdaaGreatK.table memo (nat_lit 300) (nat_lit 8) [.int .i64 (.ofNat (nat_lit 1)), .rng .i64 (.negSucc (nat_lit 9223372036854775807)) (.negSucc (nat_lit 0))] = true := by kernel_rfl
theorem e11 : Go.Ab.evalsK YtlonlfiaclacdaaGreatK.table memo (nat_lit 300) (nat_lit 8) [.int .i64 (.ofNat (nat_lit 1)), .int .i64 (.ofNat (nat_lit 2))] = true := by kernel_rfl
theorem e15 : Go.Ab.evalsK YtlonlfiaclacdaaGreatK.table memo (nat_lit 300) (nat_lit 8) [.int .i64 (.ofNat (nat_lit 2)), .int .i64 (.ofNat (nat_lit 1))] = true := by kernel_rfl
theorem e19 : Go.Ab.evalsK YtlonlfiaclacdaaGreatK.table memo (nat_lit 300) (nat_lit 8) [.int .i64 (.ofNat (nat_lit 3)), .int .i64 (.ofNat (nat_lit 0))] = true := by kernel_rfl
theorem e23 : Go.Ab.evalsK YtlonlfiaclacdaaGreatK.table memo (nat_lit 300) (nat_lit 8) [.int .i64 (.ofNat (nat_lit 4)), .rng .i64 (.ofNat (nat_lit 3)) (.ofNat (nat_lit 9223372036854775807))] = true := by kernel_rfl
theorem e27 : Go.Ab.evalsK YtlonlfiaclacdaaGreatK.table memo (nat_lit 300) (nat_lit 8) [.int .i64 (.ofNat (nat_lit 5)), .rng .i64 (.negSucc (nat_lit 9223372036854775807)) (.negSucc (nat_lit 0))] = true := by kernel_rfl
theorem e31 : Go.Ab.evalsK YtlonlfiaclacdaaGreatK.table memo (nat_lit 300) (nat_lit 8) [.int .i64 (.ofNat (nat_lit 5)), .int .i64 (.ofNat (nat_lit 2))] = true := by kernel_rfl
theorem e35 : Go.Ab.evalsK YtlonlfiaclacdaaGreatK.table memo (nat_lit 300) (nat_lit 8) [.int .i64 (.ofNat (nat_lit 6)), .int .i64 (.ofNat (nat_lit 1))] = true := by kernel_rfl
theorem e39 : Go.Ab.evalsK YtlonlfiaclacdaaGreatK.table memo (nat_lit 300) (nat_lit 8) [.int .i64 (.ofNat (nat_lit 7)), .int .i64 (.ofNat (nat_lit 0))] = true := by kernel_rfl
theorem e43 : Go.Ab.evalsK YtlonlfiaclacdaaGreatK.table memo (nat_lit 300) (nat_lit 8) [.int .i64 (.ofNat (nat_lit 8)), .rng .i64 (.ofNat (nat_lit 3)) (.ofNat (nat_lit 9223372036854775807))] = true := by kernel_rfl
theorem e47 : Go.Ab.evalsK YtlonlfiaclacdaaGreatK.table memo (nat_lit 300) (nat_lit 8) [.int .i64 (.ofNat (nat_lit 9)), .rng .i64 (.negSucc (nat_lit 9223372036854775807)) (.negSucc (nat_lit 0))] = true := by kernel_rfl
theorem e51 : Go.Ab.evalsK YtlonlfiaclacdaaGreatK.table memo (nat_lit 300) (nat_lit 8) [.int .i64 (.ofNat (nat_lit 9)), .int .i64 (.ofNat (nat_lit 2))] = true := by kernel_rfl
theorem e55 : Go.Ab.evalsK YtlonlfiaclacdaaGreatK.table memo (nat_lit 300) (nat_lit 8) [.int .i64 (.ofNat (nat_lit 10)), .int .i64 (.ofNat (nat_lit 1))] = true := by kernel_rfl
theorem e59 : Go.Ab.evalsK YtlonlfiaclacdaaGreatK.table memo (nat_lit 300) (nat_lit 8) [.int .i64 (.ofNat (nat_lit 11)), .int .i64 (.ofNat (nat_lit 0))] = true := by kernel_rfl
theorem e63 : Go.Ab.evalsK YtlonlfiaclacdaaGreatK.table memo (nat_lit 300) (nat_lit 8) [.int .i64 (.ofNat (nat_lit 12)), .rng .i64 (.ofNat (nat_lit 3)) (.ofNat (nat_lit 9223372036854775807))] = true := by kernel_rfl
theorem e67 : Go.Ab.evalsK YtlonlfiaclacdaaGreatK.table memo (nat_lit 300) (nat_lit 8) [.int .i64 (.ofNat (nat_lit 13)), .rng .i64 (.negSucc (nat_lit 9223372036854775807)) (.negSucc (nat_lit 0))] = true := by kernel_rfl
theorem e71 : Go.Ab.evalsK YtlonlfiaclacdaaGreatK.table memo (nat_lit 300) (nat_lit 8) [.int .i64 (.ofNat (nat_lit 13)), .int .i64 (.ofNat (nat_lit 2))] = true := by kernel_rfl
theorem e75 : Go.Ab.evalsK YtlonlfiaclacdaaGreatK.table memo (nat_lit 300) (nat_lit 8) [.int .i64 (.ofNat (nat_lit 14)), .int .i64 (.ofNat (nat_lit 1))] = true := by kernel_rfl
theorem e79 : Go.Ab.evalsK YtlonlfiaclacdaaGreatK.table memo (nat_lit 300) (nat_lit 8) [.int .i64 (.ofNat (nat_lit 15)), .int .i64 (.ofNat (nat_lit 0))] = true := by kernel_rfl
theorem e83 : Go.Ab.evalsK YtlonlfiaclacdaaGreatK.table memo (nat_lit 300) (nat_lit 8) [.int .i64 (.ofNat (nat_lit 16)), .rng .i64 (.ofNat (nat_lit 3)) (.ofNat (nat_lit 9223372036854775807))] = true := by kernel_rfl
theorem e87 : Go.Ab.evalsK YtlonlfiaclacdaaGreatK.table memo (nat_lit 300) (nat_lit 8) [.int .i64 (.ofNat (nat_lit 17)), .rng .i64 (.negSucc (nat_lit 9223372036854775807)) (.negSucc (nat_lit 0))] = true := by kernel_rfl
theorem e91 : Go.Ab.evalsK YtlonlfiaclacdaaGreatK.table memo (nat_lit 300) (nat_lit 8) [.int .i64 (.ofNat (nat_lit 17)), .int .i64 (.ofNat (nat_lit 2))] = true := by kernel_rfl
theorem e95 : Go.Ab.evalsK YtlonlfiaclacdaaGreatK.table memo (nat_lit 300) (nat_lit 8) [.int .i64 (.ofNat (nat_lit 18)), .int .i64 (.ofNat (nat_lit 1))] = true := by kernel_rfl
theorem e99 : Go.Ab.evalsK YtlonlfiaclacdaaGreatK.table memo (nat_lit 300) (nat_lit 8) [.int .i64 (.ofNat (nat_lit 19)), .int .i64 (.ofNat (nat_lit 0))] = true := by kernel_rfl
theorem e103 : Go.Ab.evalsK YtlonlfiaclacdaaGreatK.table memo (nat_lit 300) (nat_lit 8) [.int .i64 (.ofNat (nat_lit 20)), .rng .i64 (.ofNat (nat_lit 3)) (.ofNat (nat_lit 9223372036854775807))] = true := by kernel_rfl
theorem e107 : Go.Ab.evalsK YtlonlfiaclacdaaGreatK.table memo (nat_lit 300) (nat_lit 8) [.int .i64 (.ofNat (nat_lit 21)), .rng .i64 (.negSucc (nat_lit 9223372036854775807)) (.negSucc (nat_lit 0))] = true := by kernel_rfl
theorem e111 : Go.Ab.evalsK YtlonlfiaclacdaaGreatK.table memo (nat_lit 300) (nat_lit 8) [.int .i64 (.ofNat (nat_lit 21)), .int .i64 (.ofNat (nat_lit 2))] = true := by kernel_rfl
theorem e115 : Go.Ab.evalsK YtlonlfiaclacdaaGreatK.table memo (nat_lit 300) (nat_lit 8) [.int .i64 (.ofNat (nat_lit 22)), .int .i64 (.ofNat (nat_lit 1))] = true := by kernel_rfl
theorem e119 : Go.Ab.evalsK YtlonlfiaclacdaaGreatK.table memo (nat_lit 300) (nat_lit 8) [.int .i64 (.ofNat (nat_lit 23)), .int .i64 (.ofNat (nat_lit 0))] = true := by kernel_rfl
theorem e123 : Go.Ab.evalsK YtlonlfiaclacdaaGreatK.table memo (nat_lit 300) (nat_lit 8) [.int .i64 (.ofNat (nat_lit 24)), .rng .i64 (.ofNat (nat_lit 3)) (.ofNat (nat_lit 9223372036854775807))] = true := by kernel_rfl
theorem e127 : Go.Ab.evalsK YtlonlfiaclacdaaGreatK.table memo (nat_lit 300) (nat_lit 8) [.int .i64 (.ofNat (nat_lit 25)), .rng .i64 (.negSucc (nat_lit 9223372036854775807)) (.negSucc (nat_lit 0))] = true := by kernel_rfl
theorem e131 : Go.Ab.evalsK YtlonlfiaclacdaaGreatK.table memo (nat_lit 300) (nat_lit 8) [.int .i64 (.ofNat (nat_lit 25)), .int .i64 (.ofNat (nat_lit 2))] = true := by kernel_rfl
theorem e135 : Go.Ab.evalsK YtlonlfiaclacdaaGreatK.table memo (nat_lit 300) (nat_lit 8) [.int .i64 (.ofNat (nat_lit 26)), .int .i64 (.ofNat (nat_lit 1))] = true := by kernel_rfl
theorem e139 : Go.Ab.evalsK YtlonlfiaclacdaaGreatK.table memo (nat_lit 300) (nat_lit 8) [.int .i64 (.ofNat (nat_lit 27)), .int .i64 (.ofNat (nat_lit 0))] = true := by kernel_rfl
end Go.Proofs.YtlonlfiaclacdaaGreat.clocksForms
