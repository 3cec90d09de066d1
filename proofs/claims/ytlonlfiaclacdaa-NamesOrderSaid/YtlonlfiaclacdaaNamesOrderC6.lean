/-
  NamesOrder: cases, each by the kernel (6 of 6)
-/
import Derived.Test.YtlonlfiaclacdaaNamesOrderM
import Derived.KernelRfl
namespace Go.Proofs.Ytlonlfiaclacdaa.namesOrder
theorem e5 : Go.Ab.evalsK YtlonlfiaclacdaaK.table memo (nat_lit 300) (nat_lit 4) [.int .i64 (.ofNat (nat_lit 1)), .int .i64 (.ofNat (nat_lit 0)), .rng .i64 (.ofNat (nat_lit 2)) (.ofNat (nat_lit 9223372036854775807))] = true := by kernel_rfl
theorem e11 : Go.Ab.evalsK YtlonlfiaclacdaaK.table memo (nat_lit 300) (nat_lit 4) [.int .i64 (.ofNat (nat_lit 2)), .int .i64 (.ofNat (nat_lit 0)), .rng .i64 (.ofNat (nat_lit 3)) (.ofNat (nat_lit 9223372036854775807))] = true := by kernel_rfl
theorem e17 : Go.Ab.evalsK YtlonlfiaclacdaaK.table memo (nat_lit 300) (nat_lit 4) [.int .i64 (.ofNat (nat_lit 2)), .int .i64 (.ofNat (nat_lit 1)), .int .i64 (.ofNat (nat_lit 0))] = true := by kernel_rfl
theorem e23 : Go.Ab.evalsK YtlonlfiaclacdaaK.table memo (nat_lit 300) (nat_lit 4) [.int .i64 (.ofNat (nat_lit 3)), .int .i64 (.ofNat (nat_lit 0)), .rng .i64 (.ofNat (nat_lit 4)) (.ofNat (nat_lit 9223372036854775807))] = true := by kernel_rfl
theorem e29 : Go.Ab.evalsK YtlonlfiaclacdaaK.table memo (nat_lit 300) (nat_lit 4) [.int .i64 (.ofNat (nat_lit 3)), .int .i64 (.ofNat (nat_lit 1)), .rng .i64 (.ofNat (nat_lit 4)) (.ofNat (nat_lit 9223372036854775807))] = true := by kernel_rfl
theorem e35 : Go.Ab.evalsK YtlonlfiaclacdaaK.table memo (nat_lit 300) (nat_lit 4) [.int .i64 (.ofNat (nat_lit 3)), .int .i64 (.ofNat (nat_lit 2)), .rng .i64 (.ofNat (nat_lit 4)) (.ofNat (nat_lit 9223372036854775807))] = true := by kernel_rfl
theorem e41 : Go.Ab.evalsK YtlonlfiaclacdaaK.table memo (nat_lit 300) (nat_lit 4) [.int .i64 (.ofNat (nat_lit 4)), .rng .i64 (.ofNat (nat_lit 4)) (.ofNat (nat_lit 9223372036854775807)), .rng .i64 (.negSucc (nat_lit 9223372036854775807)) (.ofNat (nat_lit 9223372036854775807))] = true := by kernel_rfl
theorem e47 : Go.Ab.evalsK YtlonlfiaclacdaaK.table memo (nat_lit 300) (nat_lit 4) [.int .i64 (.ofNat (nat_lit 4)), .int .i64 (.ofNat (nat_lit 0)), .int .i64 (.ofNat (nat_lit 3))] = true := by kernel_rfl
theorem e53 : Go.Ab.evalsK YtlonlfiaclacdaaK.table memo (nat_lit 300) (nat_lit 4) [.int .i64 (.ofNat (nat_lit 4)), .int .i64 (.ofNat (nat_lit 1)), .int .i64 (.ofNat (nat_lit 2))] = true := by kernel_rfl
theorem e59 : Go.Ab.evalsK YtlonlfiaclacdaaK.table memo (nat_lit 300) (nat_lit 4) [.int .i64 (.ofNat (nat_lit 4)), .int .i64 (.ofNat (nat_lit 2)), .int .i64 (.ofNat (nat_lit 1))] = true := by kernel_rfl
theorem e65 : Go.Ab.evalsK YtlonlfiaclacdaaK.table memo (nat_lit 300) (nat_lit 4) [.int .i64 (.ofNat (nat_lit 4)), .int .i64 (.ofNat (nat_lit 3)), .int .i64 (.ofNat (nat_lit 0))] = true := by kernel_rfl
theorem e71 : Go.Ab.evalsK YtlonlfiaclacdaaK.table memo (nat_lit 300) (nat_lit 4) [.int .i64 (.ofNat (nat_lit 5)), .rng .i64 (.ofNat (nat_lit 5)) (.ofNat (nat_lit 9223372036854775807)), .rng .i64 (.negSucc (nat_lit 9223372036854775807)) (.ofNat (nat_lit 9223372036854775807))] = true := by kernel_rfl
theorem e77 : Go.Ab.evalsK YtlonlfiaclacdaaK.table memo (nat_lit 300) (nat_lit 4) [.int .i64 (.ofNat (nat_lit 5)), .int .i64 (.ofNat (nat_lit 0)), .int .i64 (.ofNat (nat_lit 3))] = true := by kernel_rfl
theorem e83 : Go.Ab.evalsK YtlonlfiaclacdaaK.table memo (nat_lit 300) (nat_lit 4) [.int .i64 (.ofNat (nat_lit 5)), .int .i64 (.ofNat (nat_lit 1)), .int .i64 (.ofNat (nat_lit 1))] = true := by kernel_rfl
theorem e89 : Go.Ab.evalsK YtlonlfiaclacdaaK.table memo (nat_lit 300) (nat_lit 4) [.int .i64 (.ofNat (nat_lit 5)), .int .i64 (.ofNat (nat_lit 2)), .rng .i64 (.ofNat (nat_lit 6)) (.ofNat (nat_lit 9223372036854775807))] = true := by kernel_rfl
theorem e95 : Go.Ab.evalsK YtlonlfiaclacdaaK.table memo (nat_lit 300) (nat_lit 4) [.int .i64 (.ofNat (nat_lit 5)), .int .i64 (.ofNat (nat_lit 2)), .int .i64 (.ofNat (nat_lit 5))] = true := by kernel_rfl
theorem e101 : Go.Ab.evalsK YtlonlfiaclacdaaK.table memo (nat_lit 300) (nat_lit 4) [.int .i64 (.ofNat (nat_lit 5)), .int .i64 (.ofNat (nat_lit 3)), .int .i64 (.ofNat (nat_lit 3))] = true := by kernel_rfl
theorem e107 : Go.Ab.evalsK YtlonlfiaclacdaaK.table memo (nat_lit 300) (nat_lit 4) [.int .i64 (.ofNat (nat_lit 5)), .int .i64 (.ofNat (nat_lit 4)), .int .i64 (.ofNat (nat_lit 1))] = true := by kernel_rfl
theorem e113 : Go.Ab.evalsK YtlonlfiaclacdaaK.table memo (nat_lit 300) (nat_lit 4) [.int .i64 (.ofNat (nat_lit 6)), .rng .i64 (.ofNat (nat_lit 6)) (.ofNat (nat_lit 9223372036854775807)), .rng .i64 (.negSucc (nat_lit 9223372036854775807)) (.ofNat (nat_lit 9223372036854775807))] = true := by kernel_rfl
theorem e119 : Go.Ab.evalsK YtlonlfiaclacdaaK.table memo (nat_lit 300) (nat_lit 4) [.int .i64 (.ofNat (nat_lit 6)), .int .i64 (.ofNat (nat_lit 0)), .int .i64 (.ofNat (nat_lit 3))] = true := by kernel_rfl
theorem e125 : Go.Ab.evalsK YtlonlfiaclacdaaK.table memo (nat_lit 300) (nat_lit 4) [.int .i64 (.ofNat (nat_lit 6)), .int .i64 (.ofNat (nat_lit 1)), .int .i64 (.ofNat (nat_lit 0))] = true := by kernel_rfl
theorem e131 : Go.Ab.evalsK YtlonlfiaclacdaaK.table memo (nat_lit 300) (nat_lit 4) [.int .i64 (.ofNat (nat_lit 6)), .int .i64 (.ofNat (nat_lit 1)), .int .i64 (.ofNat (nat_lit 6))] = true := by kernel_rfl
theorem e137 : Go.Ab.evalsK YtlonlfiaclacdaaK.table memo (nat_lit 300) (nat_lit 4) [.int .i64 (.ofNat (nat_lit 6)), .int .i64 (.ofNat (nat_lit 2)), .int .i64 (.ofNat (nat_lit 3))] = true := by kernel_rfl
theorem e143 : Go.Ab.evalsK YtlonlfiaclacdaaK.table memo (nat_lit 300) (nat_lit 4) [.int .i64 (.ofNat (nat_lit 6)), .int .i64 (.ofNat (nat_lit 3)), .int .i64 (.ofNat (nat_lit 0))] = true := by kernel_rfl
theorem e149 : Go.Ab.evalsK YtlonlfiaclacdaaK.table memo (nat_lit 300) (nat_lit 4) [.int .i64 (.ofNat (nat_lit 6)), .int .i64 (.ofNat (nat_lit 3)), .int .i64 (.ofNat (nat_lit 6))] = true := by kernel_rfl
theorem e155 : Go.Ab.evalsK YtlonlfiaclacdaaK.table memo (nat_lit 300) (nat_lit 4) [.int .i64 (.ofNat (nat_lit 6)), .int .i64 (.ofNat (nat_lit 4)), .int .i64 (.ofNat (nat_lit 3))] = true := by kernel_rfl
theorem e161 : Go.Ab.evalsK YtlonlfiaclacdaaK.table memo (nat_lit 300) (nat_lit 4) [.int .i64 (.ofNat (nat_lit 6)), .int .i64 (.ofNat (nat_lit 5)), .int .i64 (.ofNat (nat_lit 0))] = true := by kernel_rfl
theorem e167 : Go.Ab.evalsK YtlonlfiaclacdaaK.table memo (nat_lit 300) (nat_lit 4) [.int .i64 (.ofNat (nat_lit 6)), .int .i64 (.ofNat (nat_lit 5)), .int .i64 (.ofNat (nat_lit 6))] = true := by kernel_rfl
theorem e173 : Go.Ab.evalsK YtlonlfiaclacdaaK.table memo (nat_lit 300) (nat_lit 4) [.int .i64 (.ofNat (nat_lit 7)), .int .i64 (.ofNat (nat_lit 0)), .int .i64 (.ofNat (nat_lit 1))] = true := by kernel_rfl
theorem e179 : Go.Ab.evalsK YtlonlfiaclacdaaK.table memo (nat_lit 300) (nat_lit 4) [.int .i64 (.ofNat (nat_lit 7)), .int .i64 (.ofNat (nat_lit 0)), .int .i64 (.ofNat (nat_lit 7))] = true := by kernel_rfl
theorem e185 : Go.Ab.evalsK YtlonlfiaclacdaaK.table memo (nat_lit 300) (nat_lit 4) [.int .i64 (.ofNat (nat_lit 7)), .int .i64 (.ofNat (nat_lit 1)), .int .i64 (.ofNat (nat_lit 3))] = true := by kernel_rfl
theorem e191 : Go.Ab.evalsK YtlonlfiaclacdaaK.table memo (nat_lit 300) (nat_lit 4) [.int .i64 (.ofNat (nat_lit 7)), .int .i64 (.ofNat (nat_lit 2)), .rng .i64 (.ofNat (nat_lit 8)) (.ofNat (nat_lit 9223372036854775807))] = true := by kernel_rfl
theorem e197 : Go.Ab.evalsK YtlonlfiaclacdaaK.table memo (nat_lit 300) (nat_lit 4) [.int .i64 (.ofNat (nat_lit 7)), .int .i64 (.ofNat (nat_lit 2)), .int .i64 (.ofNat (nat_lit 5))] = true := by kernel_rfl
theorem e203 : Go.Ab.evalsK YtlonlfiaclacdaaK.table memo (nat_lit 300) (nat_lit 4) [.int .i64 (.ofNat (nat_lit 7)), .int .i64 (.ofNat (nat_lit 3)), .int .i64 (.ofNat (nat_lit 1))] = true := by kernel_rfl
theorem e209 : Go.Ab.evalsK YtlonlfiaclacdaaK.table memo (nat_lit 300) (nat_lit 4) [.int .i64 (.ofNat (nat_lit 7)), .int .i64 (.ofNat (nat_lit 3)), .int .i64 (.ofNat (nat_lit 7))] = true := by kernel_rfl
theorem e215 : Go.Ab.evalsK YtlonlfiaclacdaaK.table memo (nat_lit 300) (nat_lit 4) [.int .i64 (.ofNat (nat_lit 7)), .int .i64 (.ofNat (nat_lit 4)), .int .i64 (.ofNat (nat_lit 3))] = true := by kernel_rfl
theorem e221 : Go.Ab.evalsK YtlonlfiaclacdaaK.table memo (nat_lit 300) (nat_lit 4) [.int .i64 (.ofNat (nat_lit 7)), .int .i64 (.ofNat (nat_lit 5)), .rng .i64 (.ofNat (nat_lit 8)) (.ofNat (nat_lit 9223372036854775807))] = true := by kernel_rfl
theorem e227 : Go.Ab.evalsK YtlonlfiaclacdaaK.table memo (nat_lit 300) (nat_lit 4) [.int .i64 (.ofNat (nat_lit 7)), .int .i64 (.ofNat (nat_lit 5)), .int .i64 (.ofNat (nat_lit 5))] = true := by kernel_rfl
theorem e233 : Go.Ab.evalsK YtlonlfiaclacdaaK.table memo (nat_lit 300) (nat_lit 4) [.int .i64 (.ofNat (nat_lit 7)), .int .i64 (.ofNat (nat_lit 6)), .int .i64 (.ofNat (nat_lit 1))] = true := by kernel_rfl
theorem e239 : Go.Ab.evalsK YtlonlfiaclacdaaK.table memo (nat_lit 300) (nat_lit 4) [.int .i64 (.ofNat (nat_lit 7)), .int .i64 (.ofNat (nat_lit 6)), .int .i64 (.ofNat (nat_lit 7))] = true := by kernel_rfl
theorem e245 : Go.Ab.evalsK YtlonlfiaclacdaaK.table memo (nat_lit 300) (nat_lit 4) [.int .i64 (.ofNat (nat_lit 8)), .int .i64 (.ofNat (nat_lit 0)), .int .i64 (.ofNat (nat_lit 1))] = true := by kernel_rfl
theorem e251 : Go.Ab.evalsK YtlonlfiaclacdaaK.table memo (nat_lit 300) (nat_lit 4) [.int .i64 (.ofNat (nat_lit 8)), .int .i64 (.ofNat (nat_lit 0)), .int .i64 (.ofNat (nat_lit 7))] = true := by kernel_rfl
theorem e257 : Go.Ab.evalsK YtlonlfiaclacdaaK.table memo (nat_lit 300) (nat_lit 4) [.int .i64 (.ofNat (nat_lit 8)), .int .i64 (.ofNat (nat_lit 1)), .int .i64 (.ofNat (nat_lit 2))] = true := by kernel_rfl
theorem e263 : Go.Ab.evalsK YtlonlfiaclacdaaK.table memo (nat_lit 300) (nat_lit 4) [.int .i64 (.ofNat (nat_lit 8)), .int .i64 (.ofNat (nat_lit 1)), .int .i64 (.ofNat (nat_lit 8))] = true := by kernel_rfl
theorem e269 : Go.Ab.evalsK YtlonlfiaclacdaaK.table memo (nat_lit 300) (nat_lit 4) [.int .i64 (.ofNat (nat_lit 8)), .int .i64 (.ofNat (nat_lit 2)), .int .i64 (.ofNat (nat_lit 3))] = true := by kernel_rfl
theorem e275 : Go.Ab.evalsK YtlonlfiaclacdaaK.table memo (nat_lit 300) (nat_lit 4) [.int .i64 (.ofNat (nat_lit 8)), .int .i64 (.ofNat (nat_lit 3)), .rng .i64 (.negSucc (nat_lit 9223372036854775807)) (.negSucc (nat_lit 0))] = true := by kernel_rfl
theorem e281 : Go.Ab.evalsK YtlonlfiaclacdaaK.table memo (nat_lit 300) (nat_lit 4) [.int .i64 (.ofNat (nat_lit 8)), .int .i64 (.ofNat (nat_lit 3)), .int .i64 (.ofNat (nat_lit 4))] = true := by kernel_rfl
theorem e287 : Go.Ab.evalsK YtlonlfiaclacdaaK.table memo (nat_lit 300) (nat_lit 4) [.int .i64 (.ofNat (nat_lit 8)), .int .i64 (.ofNat (nat_lit 4)), .rng .i64 (.ofNat (nat_lit 9)) (.ofNat (nat_lit 9223372036854775807))] = true := by kernel_rfl
theorem e293 : Go.Ab.evalsK YtlonlfiaclacdaaK.table memo (nat_lit 300) (nat_lit 4) [.int .i64 (.ofNat (nat_lit 8)), .int .i64 (.ofNat (nat_lit 4)), .int .i64 (.ofNat (nat_lit 5))] = true := by kernel_rfl
theorem e299 : Go.Ab.evalsK YtlonlfiaclacdaaK.table memo (nat_lit 300) (nat_lit 4) [.int .i64 (.ofNat (nat_lit 8)), .int .i64 (.ofNat (nat_lit 5)), .int .i64 (.ofNat (nat_lit 0))] = true := by kernel_rfl
theorem e305 : Go.Ab.evalsK YtlonlfiaclacdaaK.table memo (nat_lit 300) (nat_lit 4) [.int .i64 (.ofNat (nat_lit 8)), .int .i64 (.ofNat (nat_lit 5)), .int .i64 (.ofNat (nat_lit 6))] = true := by kernel_rfl
theorem e311 : Go.Ab.evalsK YtlonlfiaclacdaaK.table memo (nat_lit 300) (nat_lit 4) [.int .i64 (.ofNat (nat_lit 8)), .int .i64 (.ofNat (nat_lit 6)), .int .i64 (.ofNat (nat_lit 1))] = true := by kernel_rfl
theorem e317 : Go.Ab.evalsK YtlonlfiaclacdaaK.table memo (nat_lit 300) (nat_lit 4) [.int .i64 (.ofNat (nat_lit 8)), .int .i64 (.ofNat (nat_lit 6)), .int .i64 (.ofNat (nat_lit 7))] = true := by kernel_rfl
theorem e323 : Go.Ab.evalsK YtlonlfiaclacdaaK.table memo (nat_lit 300) (nat_lit 4) [.int .i64 (.ofNat (nat_lit 8)), .int .i64 (.ofNat (nat_lit 7)), .int .i64 (.ofNat (nat_lit 2))] = true := by kernel_rfl
theorem e329 : Go.Ab.evalsK YtlonlfiaclacdaaK.table memo (nat_lit 300) (nat_lit 4) [.int .i64 (.ofNat (nat_lit 8)), .int .i64 (.ofNat (nat_lit 7)), .int .i64 (.ofNat (nat_lit 8))] = true := by kernel_rfl
theorem e335 : Go.Ab.evalsK YtlonlfiaclacdaaK.table memo (nat_lit 300) (nat_lit 4) [.int .i64 (.ofNat (nat_lit 9)), .int .i64 (.ofNat (nat_lit 0)), .int .i64 (.ofNat (nat_lit 1))] = true := by kernel_rfl
theorem e341 : Go.Ab.evalsK YtlonlfiaclacdaaK.table memo (nat_lit 300) (nat_lit 4) [.int .i64 (.ofNat (nat_lit 9)), .int .i64 (.ofNat (nat_lit 0)), .int .i64 (.ofNat (nat_lit 7))] = true := by kernel_rfl
theorem e347 : Go.Ab.evalsK YtlonlfiaclacdaaK.table memo (nat_lit 300) (nat_lit 4) [.int .i64 (.ofNat (nat_lit 9)), .int .i64 (.ofNat (nat_lit 1)), .int .i64 (.ofNat (nat_lit 1))] = true := by kernel_rfl
theorem e353 : Go.Ab.evalsK YtlonlfiaclacdaaK.table memo (nat_lit 300) (nat_lit 4) [.int .i64 (.ofNat (nat_lit 9)), .int .i64 (.ofNat (nat_lit 1)), .int .i64 (.ofNat (nat_lit 7))] = true := by kernel_rfl
theorem e359 : Go.Ab.evalsK YtlonlfiaclacdaaK.table memo (nat_lit 300) (nat_lit 4) [.int .i64 (.ofNat (nat_lit 9)), .int .i64 (.ofNat (nat_lit 2)), .int .i64 (.ofNat (nat_lit 1))] = true := by kernel_rfl
theorem e365 : Go.Ab.evalsK YtlonlfiaclacdaaK.table memo (nat_lit 300) (nat_lit 4) [.int .i64 (.ofNat (nat_lit 9)), .int .i64 (.ofNat (nat_lit 2)), .int .i64 (.ofNat (nat_lit 7))] = true := by kernel_rfl
theorem e371 : Go.Ab.evalsK YtlonlfiaclacdaaK.table memo (nat_lit 300) (nat_lit 4) [.int .i64 (.ofNat (nat_lit 9)), .int .i64 (.ofNat (nat_lit 3)), .int .i64 (.ofNat (nat_lit 1))] = true := by kernel_rfl
theorem e377 : Go.Ab.evalsK YtlonlfiaclacdaaK.table memo (nat_lit 300) (nat_lit 4) [.int .i64 (.ofNat (nat_lit 9)), .int .i64 (.ofNat (nat_lit 3)), .int .i64 (.ofNat (nat_lit 7))] = true := by kernel_rfl
theorem e383 : Go.Ab.evalsK YtlonlfiaclacdaaK.table memo (nat_lit 300) (nat_lit 4) [.int .i64 (.ofNat (nat_lit 9)), .int .i64 (.ofNat (nat_lit 4)), .int .i64 (.ofNat (nat_lit 1))] = true := by kernel_rfl
theorem e389 : Go.Ab.evalsK YtlonlfiaclacdaaK.table memo (nat_lit 300) (nat_lit 4) [.int .i64 (.ofNat (nat_lit 9)), .int .i64 (.ofNat (nat_lit 4)), .int .i64 (.ofNat (nat_lit 7))] = true := by kernel_rfl
theorem e395 : Go.Ab.evalsK YtlonlfiaclacdaaK.table memo (nat_lit 300) (nat_lit 4) [.int .i64 (.ofNat (nat_lit 9)), .int .i64 (.ofNat (nat_lit 5)), .int .i64 (.ofNat (nat_lit 1))] = true := by kernel_rfl
theorem e401 : Go.Ab.evalsK YtlonlfiaclacdaaK.table memo (nat_lit 300) (nat_lit 4) [.int .i64 (.ofNat (nat_lit 9)), .int .i64 (.ofNat (nat_lit 5)), .int .i64 (.ofNat (nat_lit 7))] = true := by kernel_rfl
theorem e407 : Go.Ab.evalsK YtlonlfiaclacdaaK.table memo (nat_lit 300) (nat_lit 4) [.int .i64 (.ofNat (nat_lit 9)), .int .i64 (.ofNat (nat_lit 6)), .int .i64 (.ofNat (nat_lit 1))] = true := by kernel_rfl
theorem e413 : Go.Ab.evalsK YtlonlfiaclacdaaK.table memo (nat_lit 300) (nat_lit 4) [.int .i64 (.ofNat (nat_lit 9)), .int .i64 (.ofNat (nat_lit 6)), .int .i64 (.ofNat (nat_lit 7))] = true := by kernel_rfl
theorem e419 : Go.Ab.evalsK YtlonlfiaclacdaaK.table memo (nat_lit 300) (nat_lit 4) [.int .i64 (.ofNat (nat_lit 9)), .int .i64 (.ofNat (nat_lit 7)), .int .i64 (.ofNat (nat_lit 1))] = true := by kernel_rfl
theorem e425 : Go.Ab.evalsK YtlonlfiaclacdaaK.table memo (nat_lit 300) (nat_lit 4) [.int .i64 (.ofNat (nat_lit 9)), .int .i64 (.ofNat (nat_lit 7)), .int .i64 (.ofNat (nat_lit 7))] = true := by kernel_rfl
theorem e431 : Go.Ab.evalsK YtlonlfiaclacdaaK.table memo (nat_lit 300) (nat_lit 4) [.int .i64 (.ofNat (nat_lit 9)), .int .i64 (.ofNat (nat_lit 8)), .int .i64 (.ofNat (nat_lit 1))] = true := by kernel_rfl
theorem e437 : Go.Ab.evalsK YtlonlfiaclacdaaK.table memo (nat_lit 300) (nat_lit 4) [.int .i64 (.ofNat (nat_lit 9)), .int .i64 (.ofNat (nat_lit 8)), .int .i64 (.ofNat (nat_lit 7))] = true := by kernel_rfl
end Go.Proofs.Ytlonlfiaclacdaa.namesOrder
