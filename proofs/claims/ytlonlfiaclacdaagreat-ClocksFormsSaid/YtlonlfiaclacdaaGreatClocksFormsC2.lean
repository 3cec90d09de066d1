/-
  ClocksForms: cases, each by the kernel (2 of 4)
-/
import Derived.Test.YtlonlfiaclacdaaGreatClocksFormsM
import Derived.KernelRfl
namespace Go.Proofs.YtlonlfiaclacdaaGreat.clocksForms
theorem e1 : Go.Ab.evalsK YtlonlfiaclacdaaGreatK.table memo (nat_lit 300) (nat_lit 8) [.rng .i64 (.ofNat (nat_lit 28)) (.ofNat (nat_lit 9223372036854775807)), .rng .i64 (.negSucc (nat_lit 9223372036854775807)) (.ofNat (nat_lit 9223372036854775807))] = true := by kernel_rfl
theorem e5 : Go.Ab.evalsK YtlonlfiaclacdaaGreatK.table memo (nat_lit 300) (nat_lit 8) [.int .i64 (.ofNat (nat_lit 0)), .int .i64 (.ofNat (nat_lit 1))] = true := by kernel_rfl
theorem e9 : Go.Ab.evalsK YtlonlfiaclacdaaGreatK.table memo (nat_lit 300) (nat_lit 8) [.int .i64 (.ofNat (nat_lit 1)), .int .i64 (.ofNat (nat_lit 0))] = true := by kernel_rfl
theorem e13 : Go.Ab.evalsK YtlonlfiaclacdaaGreatK.table memo (nat_lit 300) (nat_lit 8) [.int .i64 (.ofNat (nat_lit 2)), .rng .i64 (.ofNat (nat_lit 3)) (.ofNat (nat_lit 9223372036854775807))] = true := by kernel_rfl
theorem e17 : Go.Ab.evalsK YtlonlfiaclacdaaGreatK.table memo (nat_lit 300) (nat_lit 8) [.int .i64 (.ofNat (nat_lit 3)), .rng .i64 (.negSucc (nat_lit 9223372036854775807)) (.negSucc (nat_lit 0))] = true := by kernel_rfl
theorem e21 : Go.Ab.evalsK YtlonlfiaclacdaaGreatK.table memo (nat_lit 300) (nat_lit 8) [.int .i64 (.ofNat (nat_lit 3)), .int .i64 (.ofNat (nat_lit 2))] = true := by kernel_rfl
theorem e25 : Go.Ab.evalsK YtlonlfiaclacdaaGreatK.table memo (nat_lit 300) (nat_lit 8) [.int .i64 (.ofNat (nat_lit 4)), .int .i64 (.ofNat (nat_lit 1))] = true := by kernel_rfl
theorem e29 : Go.Ab.evalsK YtlonlfiaclacdaaGreatK.table memo (nat_lit 300) (nat_lit 8) [.int .i64 (.ofNat (nat_lit 5)), .int .i64 (.ofNat (nat_lit 0))] = true := by kernel_rfl
theorem e33 : Go.Ab.evalsK YtlonlfiaclacdaaGreatK.table memo (nat_lit 300) (nat_lit 8) [.int .i64 (.ofNat (nat_lit 6)), .rng .i64 (.ofNat (nat_lit 3)) (.ofNat (nat_lit 9223372036854775807))] = true := by kernel_rfl
theorem e37 : Go.Ab.evalsK YtlonlfiaclacdaaGreatK.table memo (nat_lit 300) (nat_lit 8) [.int .i64 (.ofNat (nat_lit 7)), .rng .i64 (.negSucc (nat_lit 9223372036854775807)) (.negSucc (nat_lit 0))] = true := by kernel_rfl
theorem e41 : Go.Ab.evalsK YtlonlfiaclacdaaGreatK.table memo (nat_lit 300) (nat_lit 8) [.int .i64 (.ofNat (nat_lit 7)), .int .i64 (.ofNat (nat_lit 2))] = true := by kernel_rfl
theorem e45 : Go.Ab.evalsK YtlonlfiaclacdaaGreatK.table memo (nat_lit 300) (nat_lit 8) [.int .i64 (.ofNat (nat_lit 8)), .int .i64 (.ofNat (nat_lit 1))] = true := by kernel_rfl
theorem e49 : Go.Ab.evalsK YtlonlfiaclacdaaGreatK.table memo (nat_lit 300) (nat_lit 8) [.int .i64 (.ofNat (nat_lit 9)), .int .i64 (.ofNat (nat_lit 0))] = true := by kernel_rfl
theorem e53 : Go.Ab.evalsK YtlonlfiaclacdaaGreatK.table memo (nat_lit 300) (nat_lit 8) [.int .i64 (.ofNat (nat_lit 10)), .rng .i64 (.ofNat (nat_lit 3)) (.ofNat (nat_lit 9223372036854775807))] = true := by kernel_rfl
theorem e57 : Go.Ab.evalsK YtlonlfiaclacdaaGreatK.table memo (nat_lit 300) (nat_lit 8) [.int .i64 (.ofNat (nat_lit 11)), .rng .i64 (.negSucc (nat_lit 9223372036854775807)) (.negSucc (nat_lit 0))] = true := by kernel_rfl
theorem e61 : Go.Ab.evalsK YtlonlfiaclacdaaGreatK.table memo (nat_lit 300) (nat_lit 8) [.int .i64 (.ofNat (nat_lit 11)), .int .i64 (.ofNat (nat_lit 2))] = true := by kernel_rfl
theorem e65 : Go.Ab.evalsK YtlonlfiaclacdaaGreatK.table memo (nat_lit 300) (nat_lit 8) [.int .i64 (.ofNat (nat_lit 12)), .int .i64 (.ofNat (nat_lit 1))] = true := by kernel_rfl
theorem e69 : Go.Ab.evalsK YtlonlfiaclacdaaGreatK.table memo (nat_lit 300) (nat_lit 8) [.int .i64 (.ofNat (nat_lit 13)), .int .i64 (.ofNat (nat_lit 0))] = true := by kernel_rfl
theorem e73 : Go.Ab.evalsK YtlonlfiaclacdaaGreatK.table memo (nat_lit 300) (nat_lit 8) [.int .i64 (.ofNat (nat_lit 14)), .rng .i64 (.ofNat (nat_lit 3)) (.ofNat (nat_lit 9223372036854775807))] = true := by kernel_rfl
theorem e77 : Go.Ab.evalsK YtlonlfiaclacdaaGreatK.table memo (nat_lit 300) (nat_lit 8) [.int .i64 (.ofNat (nat_lit 15)), .rng .i64 (.negSucc (nat_lit 9223372036854775807)) (.negSucc (nat_lit 0))] = true := by kernel_rfl
theorem e81 : Go.Ab.evalsK YtlonlfiaclacdaaGreatK.table memo (nat_lit 300) (nat_lit 8) [.int .i64 (.ofNat (nat_lit 15)), .int .i64 (.ofNat (nat_lit 2))] = true := by kernel_rfl
theorem e85 : Go.Ab.evalsK YtlonlfiaclacdaaGreatK.table memo (nat_lit 300) (nat_lit 8) [.int .i64 (.ofNat (nat_lit 16)), .int .i64 (.ofNat (nat_lit 1))] = true := by kernel_rfl
theorem e89 : Go.Ab.evalsK YtlonlfiaclacdaaGreatK.table memo (nat_lit 300) (nat_lit 8) [.int .i64 (.ofNat (nat_lit 17)), .int .i64 (.ofNat (nat_lit 0))] = true := by kernel_rfl
theorem e93 : Go.Ab.evalsK YtlonlfiaclacdaaGreatK.table memo (nat_lit 300) (nat_lit 8) [.int .i64 (.ofNat (nat_lit 18)), .rng .i64 (.ofNat (nat_lit 3)) (.ofNat (nat_lit 9223372036854775807))] = true := by kernel_rfl
theorem e97 : Go.Ab.evalsK YtlonlfiaclacdaaGreatK.table memo (nat_lit 300) (nat_lit 8) [.int .i64 (.ofNat (nat_lit 19)), .rng .i64 (.negSucc (nat_lit 9223372036854775807)) (.negSucc (nat_lit 0))] = true := by kernel_rfl
theorem e101 : Go.Ab.evalsK YtlonlfiaclacdaaGreatK.table memo (nat_lit 300) (nat_lit 8) [.int .i64 (.ofNat (nat_lit 19)), .int .i64 (.ofNat (nat_lit 2))] = true := by kernel_rfl
theorem e105 : Go.Ab.evalsK YtlonlfiaclacdaaGreatK.table memo (nat_lit 300) (nat_lit 8) [.int .i64 (.ofNat (nat_lit 20)), .int .i64 (.ofNat (nat_lit 1))] = true := by kernel_rfl
theorem e109 : Go.Ab.evalsK YtlonlfiaclacdaaGreatK.table memo (nat_lit 300) (nat_lit 8) [.int .i64 (.ofNat (nat_lit 21)), .int .i64 (.ofNat (nat_lit 0))] = true := by kernel_rfl
theorem e113 : Go.Ab.evalsK YtlonlfiaclacdaaGreatK.table memo (nat_lit 300) (nat_lit 8) [.int .i64 (.ofNat (nat_lit 22)), .rng .i64 (.ofNat (nat_lit 3)) (.ofNat (nat_lit 9223372036854775807))] = true := by kernel_rfl
theorem e117 : Go.Ab.evalsK YtlonlfiaclacdaaGreatK.table memo (nat_lit 300) (nat_lit 8) [.int .i64 (.ofNat (nat_lit 23)), .rng .i64 (.negSucc (nat_lit 9223372036854775807)) (.negSucc (nat_lit 0))] = true := by kernel_rfl
theorem e121 : Go.Ab.evalsK YtlonlfiaclacdaaGreatK.table memo (nat_lit 300) (nat_lit 8) [.int .i64 (.ofNat (nat_lit 23)), .int .i64 (.ofNat (nat_lit 2))] = true := by kernel_rfl
theorem e125 : Go.Ab.evalsK YtlonlfiaclacdaaGreatK.table memo (nat_lit 300) (nat_lit 8) [.int .i64 (.ofNat (nat_lit 24)), .int .i64 (.ofNat (nat_lit 1))] = true := by kernel_rfl
theorem e129 : Go.Ab.evalsK YtlonlfiaclacdaaGreatK.table memo (nat_lit 300) (nat_lit 8) [.int .i64 (.ofNat (nat_lit 25)), .int .i64 (.ofNat (nat_lit 0))] = true := by kernel_rfl
theorem e133 : Go.Ab.evalsK YtlonlfiaclacdaaGreatK.table memo (nat_lit 300) (nat_lit 8) [.int .i64 (.ofNat (nat_lit 26)), .rng .i64 (.ofNat (nat_lit 3)) (.ofNat (nat_lit 9223372036854775807))] = true := by kernel_rfl
theorem e137 : Go.Ab.evalsK YtlonlfiaclacdaaGreatK.table memo (nat_lit 300) (nat_lit 8) [.int .i64 (.ofNat (nat_lit 27)), .rng .i64 (.negSucc (nat_lit 9223372036854775807)) (.negSucc (nat_lit 0))] = true := by kernel_rfl
theorem e141 : Go.Ab.evalsK YtlonlfiaclacdaaGreatK.table memo (nat_lit 300) (nat_lit 8) [.int .i64 (.ofNat (nat_lit 27)), .int .i64 (.ofNat (nat_lit 2))] = true := by kernel_rfl
end Go.Proofs.YtlonlfiaclacdaaGreat.clocksForms
