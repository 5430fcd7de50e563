/-
  Bounds of kinds, as numbers.
-/
import Derived.WalkKit
namespace Go.Proofs.Ytcdejlgophpdjaa
open Go Go.RowKit

theorem bd_u8 {x : Int} (a : IntKind.min .u8 ≤ x) (b : x ≤ IntKind.max .u8) : 0 ≤ x ∧ x ≤ 255 := ⟨a, b⟩
theorem bd_u16 {x : Int} (a : IntKind.min .u16 ≤ x) (b : x ≤ IntKind.max .u16) : 0 ≤ x ∧ x ≤ 65535 := ⟨a, b⟩
theorem bd_u32 {x : Int} (a : IntKind.min .u32 ≤ x) (b : x ≤ IntKind.max .u32) : 0 ≤ x ∧ x ≤ 4294967295 := ⟨a, b⟩
theorem bd_i8 {x : Int} (a : IntKind.min .i8 ≤ x) (b : x ≤ IntKind.max .i8) : -128 ≤ x ∧ x ≤ 127 := ⟨a, b⟩
theorem bd_i16 {x : Int} (a : IntKind.min .i16 ≤ x) (b : x ≤ IntKind.max .i16) : -32768 ≤ x ∧ x ≤ 32767 := ⟨a, b⟩
theorem bd_i32 {x : Int} (a : IntKind.min .i32 ≤ x) (b : x ≤ IntKind.max .i32) : -2147483648 ≤ x ∧ x ≤ 2147483647 := ⟨a, b⟩
theorem bd_i64 {x : Int} (a : IntKind.min .i64 ≤ x) (b : x ≤ IntKind.max .i64) : -9223372036854775808 ≤ x ∧ x ≤ 9223372036854775807 := ⟨a, b⟩

end Go.Proofs.Ytcdejlgophpdjaa
