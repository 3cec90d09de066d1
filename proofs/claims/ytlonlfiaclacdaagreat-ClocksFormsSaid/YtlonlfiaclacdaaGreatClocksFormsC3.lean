/-
  ClocksForms: cases, each by the kernel (3 of 4)
-/
import Derived.Test.YtlonlfiaclacdaaGreatClocksFormsM
import Derived.KernelRfl
namespace Go.Proofs.YtlonlfiaclacdaaGreat.clocksForms
theorem e2 : Go.Ab.evalsK YtlonlfiaclacdaaGreatK.table memo (nat_lit 300) (nat_lit 8) [.int .i64 (.ofNat (nat_lit 0)), .rng .i64 (.negSucc (nat_lit 9223372036854775807)) (.negSucc (nat_lit 0))] = true := by kernel_rfl
theorem e6 : Go.Ab.evalsK YtlonlfiaclacdaaGreatK.table memo (nat_lit 300) (nat_lit 8) [.int .i64 (.ofNat (nat_lit 0)), .int .i64 (.ofNat (nat_lit 2))] = true := by kernel_rfl
theorem e10 : Go.Ab.evalsK YtlonlfiaclacdaaGreatK.table memo (nat_lit 300) (nat_lit 8) [.int .i64 (.ofNat (nat_lit 1)), .int .i64 (.ofNat (nat_lit 1))] = true := by kernel_rfl
theorem e14 : Go.Ab.evalsK YtlonlfiaclacdaaGreatK.table memo (nat_lit 300) (nat_lit 8) [.int .i64 (.ofNat (nat_lit 2)), .int .i64 (.ofNat (nat_lit 0))] = true := by kernel_rfl
theorem e18 : Go.Ab.evalsK YtlonlfiaclacdaaGreatK.table memo (nat_lit 300) (nat_lit 8) [.int .i64 (.ofNat (nat_lit 3)), .rng .i64 (.ofNat (nat_lit 3)) (.ofNat (nat_lit 9223372036854775807))] = true := by kernel_rfl
theorem e22 : Go.Ab.evalsK YtlonlfiaclacdaaGreatK.table memo (nat_lit 300) (nat_lit 8) [.int .i64 (.ofNat (nat_lit 4)), .rng .i64 (.negSucc (nat_lit 9223372036854775807)) (.negSucc (nat_lit 0))] = true := by kernel_rfl
theorem e26 : Go.Ab.evalsK YtlonlfiaclacdaaGreatK.table memo (nat_lit 300) (nat_lit 8) [.int .i64 (.ofNat (nat_lit 4)), .int .i64 (.ofNat (nat_lit 2))] = true := by kernel_rfl
theorem e30 : Go.Ab.evalsK YtlonlfiaclacdaaGreatK.table memo (nat_lit 300) (nat_lit 8) [.int .i64 (.ofNat (nat_lit 5)), .int .i64 (.ofNat (nat_lit 1))] = true := by kernel_rfl
theorem e34 : Go.Ab.evalsK YtlonlfiaclacdaaGreatK.table memo (nat_lit 300) (nat_lit 8) [.int .i64 (.ofNat (nat_lit 6)), .int .i64 (.ofNat (nat_lit 0))] = true := by kernel_rfl
theorem e38 : Go.Ab.evalsK YtlonlfiaclacdaaGreatK.table memo (nat_lit 300) (nat_lit 8) [.int .i64 (.ofNat (nat_lit 7)), .rng .i64 (.ofNat (nat_lit 3)) (.ofNat (nat_lit 9223372036854775807))] = true := by kernel_rfl
theorem e42 : Go.Ab.evalsK YtlonlfiaclacdaaGreatK.table memo (nat_lit 300) (nat_lit 8) [.int .i64 (.ofNat (nat_lit 8)), .rng .i64 (.negSucc (nat_lit 9223372036854775807)) (.negSucc (nat_lit 0))] = true := by kernel_rfl
theorem e46 : Go.Ab.evalsK YtlonlfiaclacdaaGreatK.table memo (nat_lit 300) (nat_lit 8) [.int .i64 (.ofNat (nat_lit 8)), .int .i64 (.ofNat (nat_lit 2))] = true := by kernel_rfl
theorem e50 : Go.Ab.evalsK YtlonlfiaclacdaaGreatK.table memo (nat_lit 300) (nat_lit 8) [.int .i64 (.ofNat (nat_lit 9)), .int .i64 (.ofNat (nat_lit 1))] = true := by kernel_rfl
theorem e54 : Go.Ab.evalsK YtlonlfiaclacdaaGreatK.table memo (nat_lit 300) (nat_lit 8) [.int .i64 (.ofNat (nat_lit 10)), .int .i64 (.ofNat (nat_lit 0))] = true := by kernel_rfl
theorem e58 : Go.Ab.evalsK YtlonlfiaclacdaaGreatK.table memo (nat_lit 300) (nat_lit 8) [.int .i64 (.ofNat (nat_lit 11)), .rng .i64 (.ofNat (nat_lit 3)) (.ofNat (nat_lit 9223372036854775807))] = true := by kernel_rfl
theorem e62 : Go.Ab.evalsK YtlonlfiaclacdaaGreatK.table memo (nat_lit 300) (nat_lit 8) [.int .i64 (.ofNat (nat_lit 12)), .rng .i64 (.negSucc (nat_lit 9223372036854775807)) (.negSucc (nat_lit 0))] = true := by kernel_rfl
theorem e66 : Go.Ab.evalsK YtlonlfiaclacdaaGreatK.table memo (nat_lit 300) (nat_lit 8) [.int .i64 (.ofNat (nat_lit 12)), .int .i64 (.ofNat (nat_lit 2))] = true := by kernel_rfl
theorem e70 : Go.Ab.evalsK YtlonlfiaclacdaaGreatK.table memo (nat_lit 300) (nat_lit 8) [.int .i64 (.ofNat (nat_lit 13)), .int .i64 (.ofNat (nat_lit 1))] = true := by kernel_rfl
theorem e74 : Go.Ab.evalsK YtlonlfiaclacdaaGreatK.table memo (nat_lit 300) (nat_lit 8) [.int .i64 (.ofNat (nat_lit 14)), .int .i64 (.ofNat (nat_lit 0))] = true := by kernel_rfl
theorem e78 : Go.Ab.evalsK YtlonlfiaclacdaaGreatK.table memo (nat_lit 300) (nat_lit 8) [.int .i64 (.ofNat (nat_lit 15)), .rng .i64 (.ofNat (nat_lit 3)) (.ofNat (nat_lit 9223372036854775807))] = true := by kernel_rfl
theorem e82 : Go.Ab.evalsK YtlonlfiaclacdaaGreatK.table memo (nat_lit 300) (nat_lit 8) [.int .i64 (.ofNat (nat_lit 16)), .rng .i64 (.negSucc (nat_lit 9223372036854775807)) (.negSucc (nat_lit 0))] = true := by kernel_rfl
theorem e86 : Go.Ab.evalsK YtlonlfiaclacdaaGreatK.table memo (nat_lit 300) (nat_lit 8) [.int .i64 (.ofNat (nat_lit 16)), .int .i64 (.ofNat (nat_lit 2))] = true := by kernel_rfl
theorem e90 : Go.Ab.evalsK YtlonlfiaclacdaaGreatK.table memo (nat_lit 300) (nat_lit 8) [.int .i64 (.ofNat (nat_lit 17)), .int .i64 (.ofNat (nat_lit 1))] = true := by kernel_rfl
theorem e94 : Go.Ab.evalsK YtlonlfiaclacdaaGreatK.table memo (nat_lit 300) (nat_lit 8) [.int .i64 (.ofNat (nat_lit 18)), .int .i64 (.ofNat (nat_lit 0))] = true := by kernel_rfl
theorem e98 : Go.Ab.evalsK YtlonlfiaclacdaaGreatK.table memo (nat_lit 300) (nat_lit 8) [.int .i64 (.ofNat (nat_lit 19)), .rng .i64 (.ofNat (nat_lit 3)) (.ofNat (nat_lit 9223372036854775807))] = true := by kernel_rfl
theorem e102 : Go.Ab.evalsK YtlonlfiaclacdaaGreatK.table memo (nat_lit 300) (nat_lit 8) [.int .i64 (.ofNat (nat_lit 20)), .rng .i64 (.negSucc (nat_lit 9223372036854775807)) (.negSucc (nat_lit 0))] = true := by kernel_rfl
theorem e106 : Go.Ab.evalsK YtlonlfiaclacdaaGreatK.table memo (nat_lit 300) (nat_lit 8) [.int .i64 (.ofNat (nat_lit 20)), .int .i64 (.ofNat (nat_lit 2))] = true := by kernel_rfl
theorem e110 : Go.Ab.evalsK YtlonlfiaclacdaaGreatK.table memo (nat_lit 300) (nat_lit 8) [.int .i64 (.ofNat (nat_lit 21)), .int .i64 (.ofNat (nat_lit 1))] = true := by kernel_rfl
theorem e114 : Go.Ab.evalsK YtlonlfiaclacdaaGreatK.table memo (nat_lit 300) (nat_lit 8) [.int .i64 (.ofNat (nat_lit 22)), .int .i64 (.ofNat (nat_lit 0))] = true := by kernel_rfl
theorem e118 : Go.Ab.evalsK YtlonlfiaclacdaaGreatK.table memo (nat_lit 300) (nat_lit 8) [.int .i64 (.ofNat (nat_lit 23)), .rng .i64 (.ofNat (nat_lit 3)) (.ofNat (nat_lit 9223372036854775807))] = true := by kernel_rfl
theorem e122 : Go.Ab.evalsK YtlonlfiaclacdaaGreatK.table memo (nat_lit 300) (nat_lit 8) [.int .i64 (.ofNat (nat_lit 24)), .rng .i64 (.negSucc (nat_lit 9223372036854775807)) (.negSucc (nat_lit 0))] = true := by kernel_rfl
theorem e126 : Go.Ab.evalsK YtlonlfiaclacdaaGreatK.table memo (nat_lit 300) (nat_lit 8) [.int .i64 (.ofNat (nat_lit 24)), .int .i64 (.ofNat (nat_lit 2))] = true := by kernel_rfl
theorem e130 : Go.Ab.evalsK YtlonlfiaclacdaaGreatK.table memo (nat_lit 300) (nat_lit 8) [.int .i64 (.ofNat (nat_lit 25)), .int .i64 (.ofNat (nat_lit 1))] = true := by kernel_rfl
theorem e134 : Go.Ab.evalsK YtlonlfiaclacdaaGreatK.table memo (nat_lit 300) (nat_lit 8) [.int .i64 (.ofNat (nat_lit 26)), .int .i64 (.ofNat (nat_lit 0))] = true := by kernel_rfl
theorem e138 : Go.Ab.evalsK YtlonlfiaclacdaaGreatK.table memo (nat_lit 300) (nat_lit 8) [.int .i64 (.ofNat (nat_lit 27)), .rng .i64 (.ofNat (nat_lit 3)) (.ofNat (nat_lit 9223372036854775807))] = true := by kernel_rfl
end Go.Proofs.YtlonlfiaclacdaaGreat.clocksForms
