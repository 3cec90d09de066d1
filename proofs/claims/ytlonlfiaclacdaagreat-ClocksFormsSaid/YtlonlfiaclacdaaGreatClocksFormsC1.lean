/-
  ClocksForms: cases, each by the kernel (1 of 4)
-/
import Derived.Test.YtlonlfiaclacdaaGreatClocksFormsM
import Derived.KernelRfl
namespace Go.Proofs.YtlonlfiaclacdaaGreat.clocksForms
theorem e0 : Go.Ab.evalsK YtlonlfiaclacdaaGreatK.table memo (nat_lit 300) (nat_lit 8) [.rng .i64 (.negSucc (nat_lit 9223372036854775807)) (.negSucc (nat_lit 0)), .rng .i64 (.negSucc (nat_lit 9223372036854775807)) (.ofNat (nat_lit 9223372036854775807))] = true := by kernel_rfl
theorem e4 : Go.Ab.evalsK YtlonlfiaclacdaaGreatK.table memo (nat_lit 300) (nat_lit 8) [.int .i64 (.ofNat (nat_lit 0)), .int .i64 (.ofNat (nat_lit 0))] = true := by kernel_rfl
theorem e8 : Go.Ab.evalsK YtlonlfiaclacdaaGreatK.table memo (nat_lit 300) (nat_lit 8) [.int .i64 (.ofNat (nat_lit 1)), .rng .i64 (.ofNat (nat_lit 3)) (.ofNat (nat_lit 9223372036854775807))] = true := by kernel_rfl
theorem e12 : Go.Ab.evalsK YtlonlfiaclacdaaGreatK.table memo (nat_lit 300) (nat_lit 8) [.int .i64 (.ofNat (nat_lit 2)), .rng .i64 (.negSucc (nat_lit 9223372036854775807)) (.negSucc (nat_lit 0))] = true := by kernel_rfl
theorem e16 : Go.Ab.evalsK YtlonlfiaclacdaaGreatK.table memo (nat_lit 300) (nat_lit 8) [.int .i64 (.ofNat (nat_lit 2)), .int .i64 (.ofNat (nat_lit 2))] = true := by kernel_rfl
theorem e20 : Go.Ab.evalsK YtlonlfiaclacdaaGreatK.table memo (nat_lit 300) (nat_lit 8) [.int .i64 (.ofNat (nat_lit 3)), .int .i64 (.ofNat (nat_lit 1))] = true := by kernel_rfl
theorem e24 : Go.Ab.evalsK YtlonlfiaclacdaaGreatK.table memo (nat_lit 300) (nat_lit 8) [.int .i64 (.ofNat (nat_lit 4)), .int .i64 (.ofNat (nat_lit 0))] = true := by kernel_rfl
theorem e28 : Go.Ab.evalsK YtlonlfiaclacdaaGreatK.table memo (nat_lit 300) (nat_lit 8) [.int .i64 (.ofNat (nat_lit 5)), .rng .i64 (.ofNat (nat_lit 3)) (.ofNat (nat_lit 9223372036854775807))] = true := by kernel_rfl
theorem e32 : Go.Ab.evalsK YtlonlfiaclacdaaGreatK.table memo (nat_lit 300) (nat_lit 8) [.int .i64 (.ofNat (nat_lit 6)), .rng .i64 (.negSucc (nat_lit 9223372036854775807)) (.negSucc (nat_lit 0))] = true := by kernel_rfl
theorem e36 : Go.Ab.evalsK YtlonlfiaclacdaaGreatK.table memo (nat_lit 300) (nat_lit 8) [.int .i64 (.ofNat (nat_lit 6)), .int .i64 (.ofNat (nat_lit 2))] = true := by kernel_rfl
theorem e40 : Go.Ab.evalsK YtlonlfiaclacdaaGreatK.table memo (nat_lit 300) (nat_lit 8) [.int .i64 (.ofNat (nat_lit 7)), .int .i64 (.ofNat (nat_lit 1))] = true := by kernel_rfl
theorem e44 : Go.Ab.evalsK YtlonlfiaclacdaaGreatK.table memo (nat_lit 300) (nat_lit 8) [.int .i64 (.ofNat (nat_lit 8)), .int .i64 (.ofNat (nat_lit 0))] = true := by kernel_rfl
theorem e48 : Go.Ab.evalsK YtlonlfiaclacdaaGreatK.table memo (nat_lit 300) (nat_lit 8) [.int .i64 (.ofNat (nat_lit 9)), .rng .i64 (.ofNat (nat_lit 3)) (.ofNat (nat_lit 9223372036854775807))] = true := by kernel_rfl
theorem e52 : Go.Ab.evalsK YtlonlfiaclacdaaGreatK.table memo (nat_lit 300) (nat_lit 8) [.int .i64 (.ofNat (nat_lit 10)), .rng .i64 (.negSucc (nat_lit 9223372036854775807)) (.negSucc (nat_lit 0))] = true := by kernel_rfl
theorem e56 : Go.Ab.evalsK YtlonlfiaclacdaaGreatK.table memo (nat_lit 300) (nat_lit 8) [.int .i64 (.ofNat (nat_lit 10)), .int .i64 (.ofNat (nat_lit 2))] = true := by kernel_rfl
theorem e60 : Go.Ab.evalsK YtlonlfiaclacdaaGreatK.table memo (nat_lit 300) (nat_lit 8) [.int .i64 (.ofNat (nat_lit 11)), .int .i64 (.ofNat (nat_lit 1))] = true := by kernel_rfl
theorem e64 : Go.Ab.evalsK YtlonlfiaclacdaaGreatK.table memo (nat_lit 300) (nat_lit 8) [.int .i64 (.ofNat (nat_lit 12)), .int .i64 (.ofNat (nat_lit 0))] = true := by kernel_rfl
theorem e68 : Go.Ab.evalsK YtlonlfiaclacdaaGreatK.table memo (nat_lit 300) (nat_lit 8) [.int .i64 (.ofNat (nat_lit 13)), .rng .i64 (.ofNat (nat_lit 3)) (.ofNat (nat_lit 9223372036854775807))] = true := by kernel_rfl
theorem e72 : Go.Ab.evalsK YtlonlfiaclacdaaGreatK.table memo (nat_lit 300) (nat_lit 8) [.int .i64 (.ofNat (nat_lit 14)), .rng .i64 (.negSucc (nat_lit 9223372036854775807)) (.negSucc (nat_lit 0))] = true := by kernel_rfl
theorem e76 : Go.Ab.evalsK YtlonlfiaclacdaaGreatK.table memo (nat_lit 300) (nat_lit 8) [.int .i64 (.ofNat (nat_lit 14)), .int .i64 (.ofNat (nat_lit 2))] = true := by kernel_rfl
theorem e80 : Go.Ab.evalsK YtlonlfiaclacdaaGreatK.table memo (nat_lit 300) (nat_lit 8) [.int .i64 (.ofNat (nat_lit 15)), .int .i64 (.ofNat (nat_lit 1))] = true := by kernel_rfl
theorem e84 : Go.Ab.evalsK YtlonlfiaclacdaaGreatK.table memo (nat_lit 300) (nat_lit 8) [.int .i64 (.ofNat (nat_lit 16)), .int .i64 (.ofNat (nat_lit 0))] = true := by kernel_rfl
theorem e88 : Go.Ab.evalsK YtlonlfiaclacdaaGreatK.table memo (nat_lit 300) (nat_lit 8) [.int .i64 (.ofNat (nat_lit 17)), .rng .i64 (.ofNat (nat_lit 3)) (.ofNat (nat_lit 9223372036854775807))] = true := by kernel_rfl
theorem e92 : Go.Ab.evalsK YtlonlfiaclacdaaGreatK.table memo (nat_lit 300) (nat_lit 8) [.int .i64 (.ofNat (nat_lit 18)), .rng .i64 (.negSucc (nat_lit 9223372036854775807)) (.negSucc (nat_lit 0))] = true := by kernel_rfl
theorem e96 : Go.Ab.evalsK YtlonlfiaclacdaaGreatK.table memo (nat_lit 300) (nat_lit 8) [.int .i64 (.ofNat (nat_lit 18)), .int .i64 (.ofNat (nat_lit 2))] = true := by kernel_rfl
theorem e100 : Go.Ab.evalsK YtlonlfiaclacdaaGreatK.table memo (nat_lit 300) (nat_lit 8) [.int .i64 (.ofNat (nat_lit 19)), .int .i64 (.ofNat (nat_lit 1))] = true := by kernel_rfl
theorem e104 : Go.Ab.evalsK YtlonlfiaclacdaaGreatK.table memo (nat_lit 300) (nat_lit 8) [.int .i64 (.ofNat (nat_lit 20)), .int .i64 (.ofNat (nat_lit 0))] = true := by kernel_rfl
theorem e108 : Go.Ab.evalsK YtlonlfiaclacdaaGreatK.table memo (nat_lit 300) (nat_lit 8) [.int .i64 (.ofNat (nat_lit 21)), .rng .i64 (.ofNat (nat_lit 3)) (.ofNat (nat_lit 9223372036854775807))] = true := by kernel_rfl
theorem e112 : Go.Ab.evalsK YtlonlfiaclacdaaGreatK.table memo (nat_lit 300) (nat_lit 8) [.int .i64 (.ofNat (nat_lit 22)), .rng .i64 (.negSucc (nat_lit 9223372036854775807)) (.negSucc (nat_lit 0))] = true := by kernel_rfl
theorem e116 : Go.Ab.evalsK YtlonlfiaclacdaaGreatK.table memo (nat_lit 300) (nat_lit 8) [.int .i64 (.ofNat (nat_lit 22)), .int .i64 (.ofNat (nat_lit 2))] = true := by kernel_rfl
theorem e120 : Go.Ab.evalsK YtlonlfiaclacdaaGreatK.table memo (nat_lit 300) (nat_lit 8) [.int .i64 (.ofNat (nat_lit 23)), .int .i64 (.ofNat (nat_lit 1))] = true := by kernel_rfl
theorem e124 : Go.Ab.evalsK YtlonlfiaclacdaaGreatK.table memo (nat_lit 300) (nat_lit 8) [.int .i64 (.ofNat (nat_lit 24)), .int .i64 (.ofNat (nat_lit 0))] = true := by kernel_rfl
theorem e128 : Go.Ab.evalsK YtlonlfiaclacdaaGreatK.table memo (nat_lit 300) (nat_lit 8) [.int .i64 (.ofNat (nat_lit 25)), .rng .i64 (.ofNat (nat_lit 3)) (.ofNat (nat_lit 9223372036854775807))] = true := by kernel_rfl
theorem e132 : Go.Ab.evalsK YtlonlfiaclacdaaGreatK.table memo (nat_lit 300) (nat_lit 8) [.int .i64 (.ofNat (nat_lit 26)), .rng .i64 (.negSucc (nat_lit 9223372036854775807)) (.negSucc (nat_lit 0))] = true := by kernel_rfl
theorem e136 : Go.Ab.evalsK YtlonlfiaclacdaaGreatK.table memo (nat_lit 300) (nat_lit 8) [.int .i64 (.ofNat (nat_lit 26)), .int .i64 (.ofNat (nat_lit 2))] = true := by kernel_rfl
theorem e140 : Go.Ab.evalsK YtlonlfiaclacdaaGreatK.table memo (nat_lit 300) (nat_lit 8) [.int .i64 (.ofNat (nat_lit 27)), .int .i64 (.ofNat (nat_lit 1))] = true := by kernel_rfl
end Go.Proofs.YtlonlfiaclacdaaGreat.clocksForms
