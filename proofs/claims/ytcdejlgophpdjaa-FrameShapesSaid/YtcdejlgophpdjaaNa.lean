/-
  Plain facts on the numbers' kinds.
-/
import Derived.WalkKit
namespace Go.Proofs.Ytcdejlgophpdjaa
open Go

theorem p64 : (2 : Int) ^ 64 = 18446744073709551616 := by decide
theorem p63 : (2 : Int) ^ (64 - 1) = 9223372036854775808 := by decide

theorem w64 (n : Int) : IntKind.wrap .i64 n = if n % 18446744073709551616 ≥ 9223372036854775808 then n % 18446744073709551616 - 18446744073709551616 else n % 18446744073709551616 := by
  unfold IntKind.wrap
  simp only [IntKind.bits, IntKind.signed, Bool.true_and, decide_eq_true_eq, p64, p63]

theorem w64_in {n : Int} (h1 : -9223372036854775808 ≤ n) (h2 : n ≤ 9223372036854775807) : IntKind.wrap .i64 n = n := by
  rw [w64]; split <;> omega

theorem wu8 (n : Int) : IntKind.wrap .u8 n = n % 256 := by
  unfold IntKind.wrap
  simp only [IntKind.bits, IntKind.signed, Bool.false_and, Bool.false_eq_true, if_false]
  rfl

theorem wi8 (n : Int) : IntKind.wrap .i8 n = if n % 256 ≥ 128 then n % 256 - 256 else n % 256 := by
  unfold IntKind.wrap
  have h8 : (2 : Int) ^ 8 = 256 := by decide
  have h7 : (2 : Int) ^ (8 - 1) = 128 := by decide
  simp only [IntKind.bits, IntKind.signed, Bool.true_and, decide_eq_true_eq, h8, h7]

theorem sh16 (n : Int) : Int.fdiv n (2 ^ min (Int.toNat 16) (IntKind.bits .i64)) = n / 65536 := by
  have : (2 : Int) ^ min (Int.toNat 16) (IntKind.bits .i64) = 65536 := by decide
  rw [this, Int.fdiv_eq_ediv_of_nonneg _ (by omega)]

end Go.Proofs.Ytcdejlgophpdjaa
