/-
  NamesOrder: cases, each by the kernel (1 of 6)
-/
import Derived.Test.YtlonlfiaclacdaaNamesOrderM
import Derived.KernelRfl
namespace Go.Proofs.Ytlonlfiaclacdaa.namesOrder
theorem e0 : Go.Ab.evalsK YtlonlfiaclacdaaK.table memo (nat_lit 300) (nat_lit 4) [.rng .i64 (.negSucc (nat_lit 9223372036854775807)) (.ofNat (nat_lit 0)), .rng .i64 (.negSucc (nat_lit 9223372036854775807)) (.ofNat (nat_lit 9223372036854775807)), .rng .i64 (.negSucc (nat_lit 9223372036854775807)) (.ofNat (nat_lit 9223372036854775807))] = true := by kernel_rfl
theorem e6 : Go.Ab.evalsK YtlonlfiaclacdaaK.table memo (nat_lit 300) (nat_lit 4) [.int .i64 (.ofNat (nat_lit 1)), .int .i64 (.ofNat (nat_lit 0)), .int .i64 (.ofNat (nat_lit 0))] = true := by kernel_rfl
theorem e12 : Go.Ab.evalsK YtlonlfiaclacdaaK.table memo (nat_lit 300) (nat_lit 4) [.int .i64 (.ofNat (nat_lit 2)), .int .i64 (.ofNat (nat_lit 0)), .int .i64 (.ofNat (nat_lit 0))] = true := by kernel_rfl
theorem e18 : Go.Ab.evalsK YtlonlfiaclacdaaK.table memo (nat_lit 300) (nat_lit 4) [.int .i64 (.ofNat (nat_lit 2)), .int .i64 (.ofNat (nat_lit 1)), .int .i64 (.ofNat (nat_lit 1))] = true := by kernel_rfl
theorem e24 : Go.Ab.evalsK YtlonlfiaclacdaaK.table memo (nat_lit 300) (nat_lit 4) [.int .i64 (.ofNat (nat_lit 3)), .int .i64 (.ofNat (nat_lit 0)), .int .i64 (.ofNat (nat_lit 0))] = true := by kernel_rfl
theorem e30 : Go.Ab.evalsK YtlonlfiaclacdaaK.table memo (nat_lit 300) (nat_lit 4) [.int .i64 (.ofNat (nat_lit 3)), .int .i64 (.ofNat (nat_lit 1)), .int .i64 (.ofNat (nat_lit 0))] = true := by kernel_rfl
theorem e36 : Go.Ab.evalsK YtlonlfiaclacdaaK.table memo (nat_lit 300) (nat_lit 4) [.int .i64 (.ofNat (nat_lit 3)), .int .i64 (.ofNat (nat_lit 2)), .int .i64 (.ofNat (nat_lit 0))] = true := by kernel_rfl
theorem e42 : Go.Ab.evalsK YtlonlfiaclacdaaK.table memo (nat_lit 300) (nat_lit 4) [.int .i64 (.ofNat (nat_lit 4)), .int .i64 (.ofNat (nat_lit 0)), .rng .i64 (.negSucc (nat_lit 9223372036854775807)) (.negSucc (nat_lit 0))] = true := by kernel_rfl
theorem e48 : Go.Ab.evalsK YtlonlfiaclacdaaK.table memo (nat_lit 300) (nat_lit 4) [.int .i64 (.ofNat (nat_lit 4)), .int .i64 (.ofNat (nat_lit 0)), .int .i64 (.ofNat (nat_lit 4))] = true := by kernel_rfl
theorem e54 : Go.Ab.evalsK YtlonlfiaclacdaaK.table memo (nat_lit 300) (nat_lit 4) [.int .i64 (.ofNat (nat_lit 4)), .int .i64 (.ofNat (nat_lit 1)), .int .i64 (.ofNat (nat_lit 3))] = true := by kernel_rfl
theorem e60 : Go.Ab.evalsK YtlonlfiaclacdaaK.table memo (nat_lit 300) (nat_lit 4) [.int .i64 (.ofNat (nat_lit 4)), .int .i64 (.ofNat (nat_lit 2)), .int .i64 (.ofNat (nat_lit 2))] = true := by kernel_rfl
theorem e66 : Go.Ab.evalsK YtlonlfiaclacdaaK.table memo (nat_lit 300) (nat_lit 4) [.int .i64 (.ofNat (nat_lit 4)), .int .i64 (.ofNat (nat_lit 3)), .int .i64 (.ofNat (nat_lit 1))] = true := by kernel_rfl
theorem e72 : Go.Ab.evalsK YtlonlfiaclacdaaK.table memo (nat_lit 300) (nat_lit 4) [.int .i64 (.ofNat (nat_lit 5)), .int .i64 (.ofNat (nat_lit 0)), .rng .i64 (.negSucc (nat_lit 9223372036854775807)) (.negSucc (nat_lit 0))] = true := by kernel_rfl
theorem e78 : Go.Ab.evalsK YtlonlfiaclacdaaK.table memo (nat_lit 300) (nat_lit 4) [.int .i64 (.ofNat (nat_lit 5)), .int .i64 (.ofNat (nat_lit 0)), .int .i64 (.ofNat (nat_lit 4))] = true := by kernel_rfl
theorem e84 : Go.Ab.evalsK YtlonlfiaclacdaaK.table memo (nat_lit 300) (nat_lit 4) [.int .i64 (.ofNat (nat_lit 5)), .int .i64 (.ofNat (nat_lit 1)), .int .i64 (.ofNat (nat_lit 2))] = true := by kernel_rfl
theorem e90 : Go.Ab.evalsK YtlonlfiaclacdaaK.table memo (nat_lit 300) (nat_lit 4) [.int .i64 (.ofNat (nat_lit 5)), .int .i64 (.ofNat (nat_lit 2)), .int .i64 (.ofNat (nat_lit 0))] = true := by kernel_rfl
theorem e96 : Go.Ab.evalsK YtlonlfiaclacdaaK.table memo (nat_lit 300) (nat_lit 4) [.int .i64 (.ofNat (nat_lit 5)), .int .i64 (.ofNat (nat_lit 3)), .rng .i64 (.negSucc (nat_lit 9223372036854775807)) (.negSucc (nat_lit 0))] = true := by kernel_rfl
theorem e102 : Go.Ab.evalsK YtlonlfiaclacdaaK.table memo (nat_lit 300) (nat_lit 4) [.int .i64 (.ofNat (nat_lit 5)), .int .i64 (.ofNat (nat_lit 3)), .int .i64 (.ofNat (nat_lit 4))] = true := by kernel_rfl
theorem e108 : Go.Ab.evalsK YtlonlfiaclacdaaK.table memo (nat_lit 300) (nat_lit 4) [.int .i64 (.ofNat (nat_lit 5)), .int .i64 (.ofNat (nat_lit 4)), .int .i64 (.ofNat (nat_lit 2))] = true := by kernel_rfl
theorem e114 : Go.Ab.evalsK YtlonlfiaclacdaaK.table memo (nat_lit 300) (nat_lit 4) [.int .i64 (.ofNat (nat_lit 6)), .int .i64 (.ofNat (nat_lit 0)), .rng .i64 (.negSucc (nat_lit 9223372036854775807)) (.negSucc (nat_lit 0))] = true := by kernel_rfl
theorem e120 : Go.Ab.evalsK YtlonlfiaclacdaaK.table memo (nat_lit 300) (nat_lit 4) [.int .i64 (.ofNat (nat_lit 6)), .int .i64 (.ofNat (nat_lit 0)), .int .i64 (.ofNat (nat_lit 4))] = true := by kernel_rfl
theorem e126 : Go.Ab.evalsK YtlonlfiaclacdaaK.table memo (nat_lit 300) (nat_lit 4) [.int .i64 (.ofNat (nat_lit 6)), .int .i64 (.ofNat (nat_lit 1)), .int .i64 (.ofNat (nat_lit 1))] = true := by kernel_rfl
theorem e132 : Go.Ab.evalsK YtlonlfiaclacdaaK.table memo (nat_lit 300) (nat_lit 4) [.int .i64 (.ofNat (nat_lit 6)), .int .i64 (.ofNat (nat_lit 2)), .rng .i64 (.negSucc (nat_lit 9223372036854775807)) (.negSucc (nat_lit 0))] = true := by kernel_rfl
theorem e138 : Go.Ab.evalsK YtlonlfiaclacdaaK.table memo (nat_lit 300) (nat_lit 4) [.int .i64 (.ofNat (nat_lit 6)), .int .i64 (.ofNat (nat_lit 2)), .int .i64 (.ofNat (nat_lit 4))] = true := by kernel_rfl
theorem e144 : Go.Ab.evalsK YtlonlfiaclacdaaK.table memo (nat_lit 300) (nat_lit 4) [.int .i64 (.ofNat (nat_lit 6)), .int .i64 (.ofNat (nat_lit 3)), .int .i64 (.ofNat (nat_lit 1))] = true := by kernel_rfl
theorem e150 : Go.Ab.evalsK YtlonlfiaclacdaaK.table memo (nat_lit 300) (nat_lit 4) [.int .i64 (.ofNat (nat_lit 6)), .int .i64 (.ofNat (nat_lit 4)), .rng .i64 (.negSucc (nat_lit 9223372036854775807)) (.negSucc (nat_lit 0))] = true := by kernel_rfl
theorem e156 : Go.Ab.evalsK YtlonlfiaclacdaaK.table memo (nat_lit 300) (nat_lit 4) [.int .i64 (.ofNat (nat_lit 6)), .int .i64 (.ofNat (nat_lit 4)), .int .i64 (.ofNat (nat_lit 4))] = true := by kernel_rfl
theorem e162 : Go.Ab.evalsK YtlonlfiaclacdaaK.table memo (nat_lit 300) (nat_lit 4) [.int .i64 (.ofNat (nat_lit 6)), .int .i64 (.ofNat (nat_lit 5)), .int .i64 (.ofNat (nat_lit 1))] = true := by kernel_rfl
theorem e168 : Go.Ab.evalsK YtlonlfiaclacdaaK.table memo (nat_lit 300) (nat_lit 4) [.int .i64 (.ofNat (nat_lit 7)), .rng .i64 (.negSucc (nat_lit 9223372036854775807)) (.negSucc (nat_lit 0)), .rng .i64 (.negSucc (nat_lit 9223372036854775807)) (.ofNat (nat_lit 9223372036854775807))] = true := by kernel_rfl
theorem e174 : Go.Ab.evalsK YtlonlfiaclacdaaK.table memo (nat_lit 300) (nat_lit 4) [.int .i64 (.ofNat (nat_lit 7)), .int .i64 (.ofNat (nat_lit 0)), .int .i64 (.ofNat (nat_lit 2))] = true := by kernel_rfl
theorem e180 : Go.Ab.evalsK YtlonlfiaclacdaaK.table memo (nat_lit 300) (nat_lit 4) [.int .i64 (.ofNat (nat_lit 7)), .int .i64 (.ofNat (nat_lit 1)), .rng .i64 (.negSucc (nat_lit 9223372036854775807)) (.negSucc (nat_lit 0))] = true := by kernel_rfl
theorem e186 : Go.Ab.evalsK YtlonlfiaclacdaaK.table memo (nat_lit 300) (nat_lit 4) [.int .i64 (.ofNat (nat_lit 7)), .int .i64 (.ofNat (nat_lit 1)), .int .i64 (.ofNat (nat_lit 4))] = true := by kernel_rfl
theorem e192 : Go.Ab.evalsK YtlonlfiaclacdaaK.table memo (nat_lit 300) (nat_lit 4) [.int .i64 (.ofNat (nat_lit 7)), .int .i64 (.ofNat (nat_lit 2)), .int .i64 (.ofNat (nat_lit 0))] = true := by kernel_rfl
theorem e198 : Go.Ab.evalsK YtlonlfiaclacdaaK.table memo (nat_lit 300) (nat_lit 4) [.int .i64 (.ofNat (nat_lit 7)), .int .i64 (.ofNat (nat_lit 2)), .int .i64 (.ofNat (nat_lit 6))] = true := by kernel_rfl
theorem e204 : Go.Ab.evalsK YtlonlfiaclacdaaK.table memo (nat_lit 300) (nat_lit 4) [.int .i64 (.ofNat (nat_lit 7)), .int .i64 (.ofNat (nat_lit 3)), .int .i64 (.ofNat (nat_lit 2))] = true := by kernel_rfl
theorem e210 : Go.Ab.evalsK YtlonlfiaclacdaaK.table memo (nat_lit 300) (nat_lit 4) [.int .i64 (.ofNat (nat_lit 7)), .int .i64 (.ofNat (nat_lit 4)), .rng .i64 (.negSucc (nat_lit 9223372036854775807)) (.negSucc (nat_lit 0))] = true := by kernel_rfl
theorem e216 : Go.Ab.evalsK YtlonlfiaclacdaaK.table memo (nat_lit 300) (nat_lit 4) [.int .i64 (.ofNat (nat_lit 7)), .int .i64 (.ofNat (nat_lit 4)), .int .i64 (.ofNat (nat_lit 4))] = true := by kernel_rfl
theorem e222 : Go.Ab.evalsK YtlonlfiaclacdaaK.table memo (nat_lit 300) (nat_lit 4) [.int .i64 (.ofNat (nat_lit 7)), .int .i64 (.ofNat (nat_lit 5)), .int .i64 (.ofNat (nat_lit 0))] = true := by kernel_rfl
theorem e228 : Go.Ab.evalsK YtlonlfiaclacdaaK.table memo (nat_lit 300) (nat_lit 4) [.int .i64 (.ofNat (nat_lit 7)), .int .i64 (.ofNat (nat_lit 5)), .int .i64 (.ofNat (nat_lit 6))] = true := by kernel_rfl
theorem e234 : Go.Ab.evalsK YtlonlfiaclacdaaK.table memo (nat_lit 300) (nat_lit 4) [.int .i64 (.ofNat (nat_lit 7)), .int .i64 (.ofNat (nat_lit 6)), .int .i64 (.ofNat (nat_lit 2))] = true := by kernel_rfl
theorem e240 : Go.Ab.evalsK YtlonlfiaclacdaaK.table memo (nat_lit 300) (nat_lit 4) [.int .i64 (.ofNat (nat_lit 8)), .rng .i64 (.negSucc (nat_lit 9223372036854775807)) (.negSucc (nat_lit 0)), .rng .i64 (.negSucc (nat_lit 9223372036854775807)) (.ofNat (nat_lit 9223372036854775807))] = true := by kernel_rfl
theorem e246 : Go.Ab.evalsK YtlonlfiaclacdaaK.table memo (nat_lit 300) (nat_lit 4) [.int .i64 (.ofNat (nat_lit 8)), .int .i64 (.ofNat (nat_lit 0)), .int .i64 (.ofNat (nat_lit 2))] = true := by kernel_rfl
theorem e252 : Go.Ab.evalsK YtlonlfiaclacdaaK.table memo (nat_lit 300) (nat_lit 4) [.int .i64 (.ofNat (nat_lit 8)), .int .i64 (.ofNat (nat_lit 0)), .int .i64 (.ofNat (nat_lit 8))] = true := by kernel_rfl
theorem e258 : Go.Ab.evalsK YtlonlfiaclacdaaK.table memo (nat_lit 300) (nat_lit 4) [.int .i64 (.ofNat (nat_lit 8)), .int .i64 (.ofNat (nat_lit 1)), .int .i64 (.ofNat (nat_lit 3))] = true := by kernel_rfl
theorem e264 : Go.Ab.evalsK YtlonlfiaclacdaaK.table memo (nat_lit 300) (nat_lit 4) [.int .i64 (.ofNat (nat_lit 8)), .int .i64 (.ofNat (nat_lit 2)), .rng .i64 (.negSucc (nat_lit 9223372036854775807)) (.negSucc (nat_lit 0))] = true := by kernel_rfl
theorem e270 : Go.Ab.evalsK YtlonlfiaclacdaaK.table memo (nat_lit 300) (nat_lit 4) [.int .i64 (.ofNat (nat_lit 8)), .int .i64 (.ofNat (nat_lit 2)), .int .i64 (.ofNat (nat_lit 4))] = true := by kernel_rfl
theorem e276 : Go.Ab.evalsK YtlonlfiaclacdaaK.table memo (nat_lit 300) (nat_lit 4) [.int .i64 (.ofNat (nat_lit 8)), .int .i64 (.ofNat (nat_lit 3)), .rng .i64 (.ofNat (nat_lit 9)) (.ofNat (nat_lit 9223372036854775807))] = true := by kernel_rfl
theorem e282 : Go.Ab.evalsK YtlonlfiaclacdaaK.table memo (nat_lit 300) (nat_lit 4) [.int .i64 (.ofNat (nat_lit 8)), .int .i64 (.ofNat (nat_lit 3)), .int .i64 (.ofNat (nat_lit 5))] = true := by kernel_rfl
theorem e288 : Go.Ab.evalsK YtlonlfiaclacdaaK.table memo (nat_lit 300) (nat_lit 4) [.int .i64 (.ofNat (nat_lit 8)), .int .i64 (.ofNat (nat_lit 4)), .int .i64 (.ofNat (nat_lit 0))] = true := by kernel_rfl
theorem e294 : Go.Ab.evalsK YtlonlfiaclacdaaK.table memo (nat_lit 300) (nat_lit 4) [.int .i64 (.ofNat (nat_lit 8)), .int .i64 (.ofNat (nat_lit 4)), .int .i64 (.ofNat (nat_lit 6))] = true := by kernel_rfl
theorem e300 : Go.Ab.evalsK YtlonlfiaclacdaaK.table memo (nat_lit 300) (nat_lit 4) [.int .i64 (.ofNat (nat_lit 8)), .int .i64 (.ofNat (nat_lit 5)), .int .i64 (.ofNat (nat_lit 1))] = true := by kernel_rfl
theorem e306 : Go.Ab.evalsK YtlonlfiaclacdaaK.table memo (nat_lit 300) (nat_lit 4) [.int .i64 (.ofNat (nat_lit 8)), .int .i64 (.ofNat (nat_lit 5)), .int .i64 (.ofNat (nat_lit 7))] = true := by kernel_rfl
theorem e312 : Go.Ab.evalsK YtlonlfiaclacdaaK.table memo (nat_lit 300) (nat_lit 4) [.int .i64 (.ofNat (nat_lit 8)), .int .i64 (.ofNat (nat_lit 6)), .int .i64 (.ofNat (nat_lit 2))] = true := by kernel_rfl
theorem e318 : Go.Ab.evalsK YtlonlfiaclacdaaK.table memo (nat_lit 300) (nat_lit 4) [.int .i64 (.ofNat (nat_lit 8)), .int .i64 (.ofNat (nat_lit 6)), .int .i64 (.ofNat (nat_lit 8))] = true := by kernel_rfl
theorem e324 : Go.Ab.evalsK YtlonlfiaclacdaaK.table memo (nat_lit 300) (nat_lit 4) [.int .i64 (.ofNat (nat_lit 8)), .int .i64 (.ofNat (nat_lit 7)), .int .i64 (.ofNat (nat_lit 3))] = true := by kernel_rfl
theorem e330 : Go.Ab.evalsK YtlonlfiaclacdaaK.table memo (nat_lit 300) (nat_lit 4) [.int .i64 (.ofNat (nat_lit 9)), .rng .i64 (.negSucc (nat_lit 9223372036854775807)) (.negSucc (nat_lit 0)), .rng .i64 (.negSucc (nat_lit 9223372036854775807)) (.ofNat (nat_lit 9223372036854775807))] = true := by kernel_rfl
theorem e336 : Go.Ab.evalsK YtlonlfiaclacdaaK.table memo (nat_lit 300) (nat_lit 4) [.int .i64 (.ofNat (nat_lit 9)), .int .i64 (.ofNat (nat_lit 0)), .int .i64 (.ofNat (nat_lit 2))] = true := by kernel_rfl
theorem e342 : Go.Ab.evalsK YtlonlfiaclacdaaK.table memo (nat_lit 300) (nat_lit 4) [.int .i64 (.ofNat (nat_lit 9)), .int .i64 (.ofNat (nat_lit 0)), .int .i64 (.ofNat (nat_lit 8))] = true := by kernel_rfl
theorem e348 : Go.Ab.evalsK YtlonlfiaclacdaaK.table memo (nat_lit 300) (nat_lit 4) [.int .i64 (.ofNat (nat_lit 9)), .int .i64 (.ofNat (nat_lit 1)), .int .i64 (.ofNat (nat_lit 2))] = true := by kernel_rfl
theorem e354 : Go.Ab.evalsK YtlonlfiaclacdaaK.table memo (nat_lit 300) (nat_lit 4) [.int .i64 (.ofNat (nat_lit 9)), .int .i64 (.ofNat (nat_lit 1)), .int .i64 (.ofNat (nat_lit 8))] = true := by kernel_rfl
theorem e360 : Go.Ab.evalsK YtlonlfiaclacdaaK.table memo (nat_lit 300) (nat_lit 4) [.int .i64 (.ofNat (nat_lit 9)), .int .i64 (.ofNat (nat_lit 2)), .int .i64 (.ofNat (nat_lit 2))] = true := by kernel_rfl
theorem e366 : Go.Ab.evalsK YtlonlfiaclacdaaK.table memo (nat_lit 300) (nat_lit 4) [.int .i64 (.ofNat (nat_lit 9)), .int .i64 (.ofNat (nat_lit 2)), .int .i64 (.ofNat (nat_lit 8))] = true := by kernel_rfl
theorem e372 : Go.Ab.evalsK YtlonlfiaclacdaaK.table memo (nat_lit 300) (nat_lit 4) [.int .i64 (.ofNat (nat_lit 9)), .int .i64 (.ofNat (nat_lit 3)), .int .i64 (.ofNat (nat_lit 2))] = true := by kernel_rfl
theorem e378 : Go.Ab.evalsK YtlonlfiaclacdaaK.table memo (nat_lit 300) (nat_lit 4) [.int .i64 (.ofNat (nat_lit 9)), .int .i64 (.ofNat (nat_lit 3)), .int .i64 (.ofNat (nat_lit 8))] = true := by kernel_rfl
theorem e384 : Go.Ab.evalsK YtlonlfiaclacdaaK.table memo (nat_lit 300) (nat_lit 4) [.int .i64 (.ofNat (nat_lit 9)), .int .i64 (.ofNat (nat_lit 4)), .int .i64 (.ofNat (nat_lit 2))] = true := by kernel_rfl
theorem e390 : Go.Ab.evalsK YtlonlfiaclacdaaK.table memo (nat_lit 300) (nat_lit 4) [.int .i64 (.ofNat (nat_lit 9)), .int .i64 (.ofNat (nat_lit 4)), .int .i64 (.ofNat (nat_lit 8))] = true := by kernel_rfl
theorem e396 : Go.Ab.evalsK YtlonlfiaclacdaaK.table memo (nat_lit 300) (nat_lit 4) [.int .i64 (.ofNat (nat_lit 9)), .int .i64 (.ofNat (nat_lit 5)), .int .i64 (.ofNat (nat_lit 2))] = true := by kernel_rfl
theorem e402 : Go.Ab.evalsK YtlonlfiaclacdaaK.table memo (nat_lit 300) (nat_lit 4) [.int .i64 (.ofNat (nat_lit 9)), .int .i64 (.ofNat (nat_lit 5)), .int .i64 (.ofNat (nat_lit 8))] = true := by kernel_rfl
theorem e408 : Go.Ab.evalsK YtlonlfiaclacdaaK.table memo (nat_lit 300) (nat_lit 4) [.int .i64 (.ofNat (nat_lit 9)), .int .i64 (.ofNat (nat_lit 6)), .int .i64 (.ofNat (nat_lit 2))] = true := by kernel_rfl
theorem e414 : Go.Ab.evalsK YtlonlfiaclacdaaK.table memo (nat_lit 300) (nat_lit 4) [.int .i64 (.ofNat (nat_lit 9)), .int .i64 (.ofNat (nat_lit 6)), .int .i64 (.ofNat (nat_lit 8))] = true := by kernel_rfl
theorem e420 : Go.Ab.evalsK YtlonlfiaclacdaaK.table memo (nat_lit 300) (nat_lit 4) [.int .i64 (.ofNat (nat_lit 9)), .int .i64 (.ofNat (nat_lit 7)), .int .i64 (.ofNat (nat_lit 2))] = true := by kernel_rfl
theorem e426 : Go.Ab.evalsK YtlonlfiaclacdaaK.table memo (nat_lit 300) (nat_lit 4) [.int .i64 (.ofNat (nat_lit 9)), .int .i64 (.ofNat (nat_lit 7)), .int .i64 (.ofNat (nat_lit 8))] = true := by kernel_rfl
theorem e432 : Go.Ab.evalsK YtlonlfiaclacdaaK.table memo (nat_lit 300) (nat_lit 4) [.int .i64 (.ofNat (nat_lit 9)), .int .i64 (.ofNat (nat_lit 8)), .int .i64 (.ofNat (nat_lit 2))] = true := by kernel_rfl
theorem e438 : Go.Ab.evalsK YtlonlfiaclacdaaK.table memo (nat_lit 300) (nat_lit 4) [.int .i64 (.ofNat (nat_lit 9)), .int .i64 (.ofNat (nat_lit 8)), .int .i64 (.ofNat (nat_lit 8))] = true := by kernel_rfl
end Go.Proofs.Ytlonlfiaclacdaa.namesOrder
