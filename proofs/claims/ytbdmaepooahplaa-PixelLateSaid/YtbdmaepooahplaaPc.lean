/-
  Pixels in plain numbers: tests, ops, blends, bytes, a pixel that is put.
-/
import Derived.Test.YtbdmaepooahplaaPb
import Derived.Test.YtbdmaepooahplaaNa
namespace Go.Proofs.Ytbdmaepooahplaa
open Go Go.RowKit Go.Proofs.Ytbdmaepooahplaa.V
set_option linter.unusedVariables false

theorem nat_of {x : Int} (h0 : 0 ≤ x) : ∃ n : Nat, x = n := ⟨x.toNat, by omega⟩

theorem bit_1 : ∀ n : Nat, n < 8 → (IntKind.wrap IntKind.u8 (Int.ofNat (Int.toNat ((n : Int) % stHolds_s0) &&& Int.toNat ((1 : Int) % stHolds_s0))) != (0 : Int)) = (Int.tmod (n : Int) 2 == 1) := by decide +kernel
theorem bit_2 : ∀ n : Nat, n < 8 → (IntKind.wrap IntKind.u8 (Int.ofNat (Int.toNat ((n : Int) % stHolds_s0) &&& Int.toNat ((2 : Int) % stHolds_s0))) != (0 : Int)) = (Int.tmod (IntKind.wrap .i64 (Int.tdiv (n : Int) 2)) 2 == 1) := by decide +kernel
theorem bit_4 : ∀ n : Nat, n < 8 → (IntKind.wrap IntKind.u8 (Int.ofNat (Int.toNat ((n : Int) % stHolds_s0) &&& Int.toNat ((4 : Int) % stHolds_s0))) != (0 : Int)) = (Int.tmod (IntKind.wrap .i64 (Int.tdiv (n : Int) 4)) 2 == 1) := by decide +kernel

theorem holds_1 (n : Nat) (hn : n < 8) (a b : Int) : stHolds_0 n a b = bif bif decide (a < b) then true else a == b then bif decide (a < b) then (Int.tmod (n : Int) 2 == 1) else (Int.tmod (IntKind.wrap .i64 (Int.tdiv (n : Int) 2)) 2 == 1) else (Int.tmod (IntKind.wrap .i64 (Int.tdiv (n : Int) 4)) 2 == 1) := by
  unfold stHolds_0
  rw [bit_1 n hn, bit_2 n hn, bit_4 n hn]
theorem holds_2 (n : Nat) (a b : Int) : rHolds_0 n a b = bif decide (a < b) then (Int.tmod (n : Int) 2 == 1) else bif a == b then (Int.tmod (IntKind.wrap .i64 (Int.tdiv (n : Int) 2)) 2 == 1) else (Int.tmod (IntKind.wrap .i64 (Int.tdiv (n : Int) 4)) 2 == 1) := by
  unfold rHolds_0
  rfl
theorem holds_3 (p q e1 e2 e3 : Bool) : (bif bif p then true else q then bif p then e1 else e2 else e3) = bif p then e1 else bif q then e2 else e3 := by cases p <;> cases q <;> rfl

theorem holds_eq {x a b : Int} (h0 : 0 ≤ x) (h1 : x ≤ 7) : stHolds_0 x a b = rHolds_0 x a b := by
  obtain ⟨n, rfl⟩ := nat_of h0
  rw [holds_1 n (by omega), holds_2, holds_3]

theorem inv_8 : ∀ n : Nat, n < 256 → IntKind.wrap IntKind.u8 (Int.ofNat (Int.toNat ((if false = true then (-1 : Int) else if false = true then (2 : Int) ^ (IntKind.bits IntKind.u8 - (1 : Nat)) - (1 : Int) else (2 : Int) ^ IntKind.bits IntKind.u8 - (1 : Int)) % stDo_s1) ^^^ Int.toNat ((n : Int) % stDo_s1))) = 255 - (n : Int) := by decide +kernel

theorem do_eq {o n r : Int} (o0 : 0 ≤ o) (o1 : o ≤ 5) (n0 : 0 ≤ n) (n1 : n ≤ 255) (r0 : 0 ≤ r) (r1 : r ≤ 255) : stDo_0 o n r = rDo_0 o n r ∧ 0 ≤ rDo_0 o n r ∧ rDo_0 o n r ≤ 255 := by
  obtain ⟨k, rfl⟩ := nat_of n0
  have e := inv_8 k (by omega)
  have hs : stDo_s0 (k : Int) = 255 - (k : Int) := by unfold stDo_s0; rw [wu8]; omega
  have a1 : IntKind.wrap .u8 ((k : Int) + if (255 - (k : Int)) < 1 then 255 - (k : Int) else 1) = if (k : Int) < 255 then (k : Int) + 1 else k := by
    rw [wu8]; split <;> split <;> omega
  have a2 : IntKind.wrap .u8 ((k : Int) - if (k : Int) < 1 then (k : Int) else 1) = if 0 < (k : Int) then (k : Int) - 1 else k := by
    rw [wu8]; split <;> split <;> omega
  have a3 : IntKind.wrap .i64 ((k : Int) + 1) = k + 1 := w64_in (by omega) (by omega)
  have a4 : IntKind.wrap .i64 ((k : Int) - 1) = k - 1 := w64_in (by omega) (by omega)
  have a5 : IntKind.wrap .i64 (255 - (k : Int)) = 255 - k := w64_in (by omega) (by omega)
  unfold stDo_0 rDo_0
  rw [e, hs, a1, a2, a3, a4, a5]
  have hc : o = 0 ∨ o = 1 ∨ o = 2 ∨ o = 3 ∨ o = 4 ∨ o = 5 := by omega
  rcases hc with rfl | rfl | rfl | rfl | rfl | rfl
  · simp; omega
  · simp
  · simp; omega
  · by_cases q : (k : Int) < 255 <;> simp [q] <;> omega
  · by_cases q : 0 < (k : Int)
    · rw [if_pos q, decide_eq_true q]; simp; omega
    · rw [if_neg q, decide_eq_false q]; simp; omega
  · simp; omega

theorem and_le {a b : Nat} : a &&& b ≤ a := Nat.and_le_left

theorem and_8 {a b : Int} (a0 : 0 ≤ a) (a1 : a ≤ 255) (b0 : 0 ≤ b) (b1 : b ≤ 255) : IntKind.wrap .u8 (Int.ofNat (Int.toNat (a % pPut_s0) &&& Int.toNat (b % pPut_s0))) = Int.ofNat (a.toNat &&& b.toNat) := by
  have e : pPut_s0 = 256 := rfl
  rw [e, Int.emod_eq_of_lt a0 (by omega), Int.emod_eq_of_lt b0 (by omega), wu8]
  have := @and_le a.toNat b.toNat
  simp only [Int.ofNat_eq_natCast]
  omega

theorem and_64 {a b : Int} (a0 : 0 ≤ a) (a1 : a ≤ 255) (b0 : 0 ≤ b) (b1 : b ≤ 255) : IntKind.wrap .i64 (Int.ofNat (Int.toNat (a % rPut_s0) &&& Int.toNat (b % rPut_s0))) = Int.ofNat (a.toNat &&& b.toNat) := by
  have e : rPut_s0 = 18446744073709551616 := rfl
  rw [e, Int.emod_eq_of_lt a0 (by omega), Int.emod_eq_of_lt b0 (by omega)]
  have := @and_le a.toNat b.toNat
  simp only [Int.ofNat_eq_natCast]
  exact w64_in (by omega) (by omega)

theorem and_bd {a b : Int} (a0 : 0 ≤ a) (a1 : a ≤ 255) : 0 ≤ Int.ofNat (a.toNat &&& b.toNat) ∧ Int.ofNat (a.toNat &&& b.toNat) ≤ 255 := by
  have := @and_le a.toNat b.toNat
  simp only [Int.ofNat_eq_natCast]
  omega

/-! Blends. -/
def bl (how over alpha under : Int) : Int := IntKind.wrap IntKind.u8 (bif how == (1 : Int) then IntKind.wrap IntKind.i64 (Int.tdiv (IntKind.wrap IntKind.i64 (IntKind.wrap IntKind.i64 (IntKind.wrap IntKind.i64 (IntKind.wrap IntKind.i64 over * IntKind.wrap IntKind.i64 alpha) + IntKind.wrap IntKind.i64 (IntKind.wrap IntKind.i64 under * pBlend_s2 alpha)) + (127 : Int))) (255 : Int)) else bif how == (2 : Int) then if (255 : Int) < IntKind.wrap IntKind.i64 (IntKind.wrap IntKind.i64 over + IntKind.wrap IntKind.i64 under) then (255 : Int) else IntKind.wrap IntKind.i64 (IntKind.wrap IntKind.i64 over + IntKind.wrap IntKind.i64 under) else bif how == (3 : Int) then pPart_0 (IntKind.wrap IntKind.i64 over) (IntKind.wrap IntKind.i64 under) else IntKind.wrap IntKind.i64 over)

theorem mul_8 {a b : Int} (a0 : 0 ≤ a) (a1 : a ≤ 255) (b0 : 0 ≤ b) (b1 : b ≤ 255) : 0 ≤ a * b ∧ a * b ≤ 255 * b := ⟨Int.mul_nonneg a0 b0, Int.mul_le_mul_of_nonneg_right a1 b0⟩

theorem bl_eq {how a al b : Int} (h0 : 0 ≤ how) (h1 : how ≤ 3) (a0 : 0 ≤ a) (a1 : a ≤ 255) (c0 : 0 ≤ al) (c1 : al ≤ 255) (b0 : 0 ≤ b) (b1 : b ≤ 255) : bl how a al b = rBlend_0 how a b al ∧ 0 ≤ rBlend_0 how a b al ∧ rBlend_0 how a b al ≤ 255 := by
  have m1 := mul_8 a0 a1 c0 c1
  have m2 := mul_8 b0 b1 (b := 255 - al) (by omega) (by omega)
  have m3 := mul_8 a0 a1 b0 b1
  have wa : IntKind.wrap .i64 a = a := w64_in (by omega) (by omega)
  have wb : IntKind.wrap .i64 b = b := w64_in (by omega) (by omega)
  have wc : IntKind.wrap .i64 al = al := w64_in (by omega) (by omega)
  have s2 : pBlend_s2 al = 255 - al := by unfold pBlend_s2; rw [wc]; exact w64_in (by omega) (by omega)
  have wd : IntKind.wrap .i64 (255 - al) = 255 - al := w64_in (by omega) (by omega)
  have q1 : IntKind.wrap .i64 (a * al) = a * al := w64_in (by omega) (by omega)
  have q2 : IntKind.wrap .i64 (b * (255 - al)) = b * (255 - al) := w64_in (by omega) (by omega)
  have q3 : IntKind.wrap .i64 (a * al + b * (255 - al)) = a * al + b * (255 - al) := w64_in (by omega) (by omega)
  have q4 : IntKind.wrap .i64 (a * al + b * (255 - al) + 127) = a * al + b * (255 - al) + 127 := w64_in (by omega) (by omega)
  have q5 : IntKind.wrap .i64 (a * b) = a * b := w64_in (by omega) (by omega)
  have q6 : IntKind.wrap .i64 (a * b + 127) = a * b + 127 := w64_in (by omega) (by omega)
  have q7 : IntKind.wrap .i64 (a + b) = a + b := w64_in (by omega) (by omega)
  have t1 : IntKind.wrap .i64 (Int.tdiv (a * al + b * (255 - al) + 127) 255) = (a * al + b * (255 - al) + 127) / 255 := by
    rw [Int.tdiv_eq_ediv_of_nonneg (by omega)]; exact w64_in (by omega) (by omega)
  have t2 : IntKind.wrap .i64 (Int.tdiv (a * b + 127) 255) = (a * b + 127) / 255 := by
    rw [Int.tdiv_eq_ediv_of_nonneg (by omega)]; exact w64_in (by omega) (by omega)
  unfold bl rBlend_0 rBlend_s0 pPart_0
  rw [wa, wb, wc, s2, wd, q1, q2, q3, q4, q5, q6, q7, t1, t2]
  have hc : how = 0 ∨ how = 1 ∨ how = 2 ∨ how = 3 := by omega
  rcases hc with rfl | rfl | rfl | rfl
  · simp [wu8]; omega
  · simp [wu8]; omega
  · by_cases q : 255 < a + b
    · simp [wu8, q]
    · simp [wu8, q]; omega
  · simp [wu8]; omega

theorem ch_0 : ∀ n : Nat, n < 256 → (IntKind.wrap IntKind.u8 (Int.ofNat (Int.toNat (Int.fdiv (n : Int) ((2 : Int) ^ min (Int.toNat (0 : Int)) (IntKind.bits IntKind.u8)) % pBlend_s0) &&& pBlend_s1)) == (0 : Int)) = !(Int.tmod (Int.fdiv (n : Int) ((2 : Int) ^ min (Int.toNat (0 : Int)) (IntKind.bits IntKind.i64))) (2 : Int) == (1 : Int)) := by decide +kernel
theorem ch_1 : ∀ n : Nat, n < 256 → (IntKind.wrap IntKind.u8 (Int.ofNat (Int.toNat (Int.fdiv (n : Int) ((2 : Int) ^ min (Int.toNat pBlend_s4) (IntKind.bits IntKind.u8)) % pBlend_s0) &&& pBlend_s1)) == (0 : Int)) = !(Int.tmod (Int.fdiv (n : Int) ((2 : Int) ^ min (Int.toNat rPut_s2) (IntKind.bits IntKind.i64))) (2 : Int) == (1 : Int)) := by decide +kernel
theorem ch_2 : ∀ n : Nat, n < 256 → (IntKind.wrap IntKind.u8 (Int.ofNat (Int.toNat (Int.fdiv (n : Int) ((2 : Int) ^ min (Int.toNat pBlend_s6) (IntKind.bits IntKind.u8)) % pBlend_s0) &&& pBlend_s1)) == (0 : Int)) = !(Int.tmod (Int.fdiv (n : Int) ((2 : Int) ^ min (Int.toNat rPut_s3) (IntKind.bits IntKind.i64))) (2 : Int) == (1 : Int)) := by decide +kernel
theorem ch_3 : ∀ n : Nat, n < 256 → (IntKind.wrap IntKind.u8 (Int.ofNat (Int.toNat (Int.fdiv (n : Int) ((2 : Int) ^ min (Int.toNat (IntKind.wrap IntKind.i64 (pBlend_s6 + (1 : Int)))) (IntKind.bits IntKind.u8)) % pBlend_s0) &&& pBlend_s1)) == (0 : Int)) = !(Int.tmod (Int.fdiv (n : Int) ((2 : Int) ^ min (Int.toNat (IntKind.wrap IntKind.i64 (rPut_s3 + (1 : Int)))) (IntKind.bits IntKind.i64))) (2 : Int) == (1 : Int)) := by decide +kernel

/-! Bytes. -/
def cl (x : Int) : Int := if x < 0 then 0 else if 65536 < x then 65536 else x
theorem cl_bd (x : Int) : 0 ≤ cl x ∧ cl x ≤ 65536 := by unfold cl; split <;> (try split) <;> omega
theorem vm_0 (x : Int) : vmColour_0 x = cl x := by unfold vmColour_0 vmColour_s0 cl; repeat' split <;> omega
theorem vm_1 (x : Int) : vmColour_1 x = cl x := by unfold vmColour_1 vmColour_s1 cl; repeat' split <;> omega
theorem vm_2 (x : Int) : vmColour_2 x = cl x := by unfold vmColour_2 vmColour_s2 cl; repeat' split <;> omega
theorem vm_3 (x : Int) : vmColour_3 x = cl x := by unfold vmColour_3 vmColour_s3 cl; repeat' split <;> omega
theorem rw_0 (x : Int) : rWithin_0 x 0 65536 = cl x := by
  unfold rWithin_0 rWithin_s0 cl
  by_cases q : x < 0
  · simp [q]
  · by_cases q2 : 65536 < x <;> simp [q, q2]
theorem rw_1 (x : Int) : rWithin_1 x 0 65536 = cl x := rw_0 x
theorem rw_2 (x : Int) : rWithin_2 x 0 65536 = cl x := rw_0 x
theorem rw_3 (x : Int) : rWithin_3 x 0 65536 = cl x := rw_0 x

def by8 (x : Int) : Int := (cl x * 255 + 32768) / 65536
theorem by8_bd (x : Int) : 0 ≤ by8 x ∧ by8 x ≤ 255 := by
  have := cl_bd x
  unfold by8; omega
theorem rByte_cl (x : Int) : rByte_0 (cl x) = by8 x := by
  have := cl_bd x
  unfold rByte_0 by8
  rw [w64_in (n := cl x * 255) (by omega) (by omega), w64_in (n := cl x * 255 + 32768) (by omega) (by omega), Int.tdiv_eq_ediv_of_nonneg (by omega)]
  exact w64_in (by omega) (by omega)
theorem pb (x : Int) : IntKind.wrap IntKind.u8 (Int.fdiv (IntKind.wrap IntKind.i64 (IntKind.wrap IntKind.i64 (cl x * (255 : Int)) + (32768 : Int))) pBytes_s0) = by8 x := by
  have := cl_bd x
  have e : pBytes_s0 = 65536 := by decide
  unfold by8
  rw [e, w64_in (n := cl x * 255) (by omega) (by omega), w64_in (n := cl x * 255 + 32768) (by omega) (by omega), Int.fdiv_eq_ediv_of_nonneg _ (by omega), wu8]
  omega
theorem pb_0 (x : Int) : pBytes_0 x = by8 x := by unfold pBytes_0; rw [vm_0, pb]
theorem pb_1 (x : Int) : pBytes_1 x = by8 x := by unfold pBytes_1; rw [vm_1, pb]
theorem pb_2 (x : Int) : pBytes_2 x = by8 x := by unfold pBytes_2; rw [vm_2, pb]
theorem pb_3 (x : Int) : pBytes_3 x = by8 x := by unfold pBytes_3; rw [vm_3, pb]

/-- Is a channel wanted? -/
def cw (c : Int) (i : Int) : Bool := Int.tmod (Int.fdiv c ((2 : Int) ^ min (Int.toNat i) (IntKind.bits IntKind.i64))) (2 : Int) == (1 : Int)

/-- One number of a colour that is put over another one. -/
def mix (how c i over alpha under : Int) : Int := bif cw c i then rBlend_0 how over under alpha else under

theorem mix_bd {how c i a al b : Int} (h0 : 0 ≤ how) (h1 : how ≤ 3) (a0 : 0 ≤ a) (a1 : a ≤ 255) (c0 : 0 ≤ al) (c1 : al ≤ 255) (b0 : 0 ≤ b) (b1 : b ≤ 255) : 0 ≤ mix how c i a al b ∧ mix how c i a al b ≤ 255 := by
  have := bl_eq h0 h1 a0 a1 c0 c1 b0 b1
  unfold mix
  cases cw c i
  · exact ⟨b0, b1⟩
  · exact this.2

section
variable {how c a al b : Int} (h0 : 0 ≤ how) (h1 : how ≤ 3) (k0 : 0 ≤ c) (k1 : c ≤ 255) (a0 : 0 ≤ a) (a1 : a ≤ 255) (c0 : 0 ≤ al) (c1 : al ≤ 255) (b0 : 0 ≤ b) (b1 : b ≤ 255)
include h0 h1 k0 k1 a0 a1 c0 c1 b0 b1

theorem blend_0 : pBlend_0 how c a al b = mix how c 0 a al b := by
  have hb := (bl_eq h0 h1 a0 a1 c0 c1 b0 b1).1
  obtain ⟨n, rfl⟩ := nat_of k0
  have e := ch_0 n (by omega)
  show (bif _ == (0 : Int) then b else bl how a al b) = _
  rw [e, hb]; unfold mix cw
  cases (Int.tmod _ _ == (1 : Int)) <;> rfl
theorem blend_1 : pBlend_1 how c a al b = mix how c 1 a al b := by
  have hb := (bl_eq h0 h1 a0 a1 c0 c1 b0 b1).1
  obtain ⟨n, rfl⟩ := nat_of k0
  have e := ch_1 n (by omega)
  show (bif _ == (0 : Int) then b else bl how a al b) = _
  rw [e, hb, show rPut_s2 = 1 by decide]; unfold mix cw
  cases (Int.tmod _ _ == (1 : Int)) <;> rfl
theorem blend_2 : pBlend_2 how c a al b = mix how c 2 a al b := by
  have hb := (bl_eq h0 h1 a0 a1 c0 c1 b0 b1).1
  obtain ⟨n, rfl⟩ := nat_of k0
  have e := ch_2 n (by omega)
  show (bif _ == (0 : Int) then b else bl how a al b) = _
  rw [e, hb, show rPut_s3 = 2 by decide]; unfold mix cw
  cases (Int.tmod _ _ == (1 : Int)) <;> rfl
end

theorem blend_3 {how c al b : Int} (h0 : 0 ≤ how) (h1 : how ≤ 3) (k0 : 0 ≤ c) (k1 : c ≤ 255) (c0 : 0 ≤ al) (c1 : al ≤ 255) (b0 : 0 ≤ b) (b1 : b ≤ 255) : pBlend_3 how c al b = mix how c 3 al al b := by
  have hb := (bl_eq h0 h1 c0 c1 c0 c1 b0 b1).1
  obtain ⟨n, rfl⟩ := nat_of k0
  have e := ch_3 n (by omega)
  show (bif _ == (0 : Int) then b else bl how al al b) = _
  rw [e, hb, show IntKind.wrap IntKind.i64 (rPut_s3 + (1 : Int)) = 3 by decide]; unfold mix cw
  cases (Int.tmod _ _ == (1 : Int)) <;> rfl

end Go.Proofs.Ytbdmaepooahplaa
