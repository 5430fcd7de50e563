/-
  States as bytes, and back.
-/
import Derived.Test.YtcdejlgophpdjaaWc1
import Derived.Test.YtcdejlgophpdjaaNa
import Derived.Test.YtcdejlgophpdjaaNc
namespace Go.Proofs.Ytcdejlgophpdjaa
open Go Go.RowKit Go.Proofs.Ytcdejlgophpdjaa.V
set_option linter.unusedVariables false
set_option linter.unusedSectionVars false

theorem w8_in {x : Int} (h0 : 0 ≤ x) (h1 : x ≤ 255) : IntKind.wrap .u8 x = x := by
  have e := IntKind.wrap_u8 x
  omega

section
variable {b0 b2 b3 b4 b5 b6 b7 b8 b9 b10 x0 y0 x1 y1 : Int} {fl : Bool} (h0 : 0 ≤ b0 ∧ b0 ≤ 7) (h2 : 0 ≤ b2 ∧ b2 ≤ 7) (h5 : 0 ≤ b5 ∧ b5 ≤ 5) (h6 : 0 ≤ b6 ∧ b6 ≤ 5) (h7 : 0 ≤ b7 ∧ b7 ≤ 5) (h8 : 0 ≤ b8 ∧ b8 ≤ 3) (h9 : 0 ≤ b9 ∧ b9 ≤ 15) (h10 : 0 ≤ b10 ∧ b10 ≤ 2) (hx : 0 ≤ x0 ∧ x0 ≤ x1 ∧ x1 ≤ 64) (hy : 0 ≤ y0 ∧ y0 ≤ y1 ∧ y1 ≤ 64)
include h0 h2 h5 h6 h7 h8 h9 h10 hx hy

theorem chk_ok : sChk_0 b0 b2 b5 b6 b7 b8 b9 b10 x0 y0 x1 y1 = 0 := by
  unfold sChk_0 sChk_s0
  rw [decide_eq_false (show ¬ 8 ≤ b0 by omega), decide_eq_false (show ¬ 8 ≤ b2 by omega), decide_eq_false (show ¬ 6 ≤ b5 by omega), decide_eq_false (show ¬ 6 ≤ b6 by omega), decide_eq_false (show ¬ 6 ≤ b7 by omega), decide_eq_false (show ¬ 4 ≤ b8 by omega), decide_eq_false (show ¬ 3 ≤ b10 by omega), decide_eq_false (show ¬ 15 < b9 by omega),
    decide_eq_false (show ¬ x0 < 0 by omega), decide_eq_false (show ¬ x1 < x0 by omega), decide_eq_false (show ¬ 64 < x1 by omega), decide_eq_false (show ¬ y0 < 0 by omega), decide_eq_false (show ¬ y1 < y0 by omega), decide_eq_false (show ¬ 64 < y1 by omega)]
  rfl

omit h0 h2 h5 h6 h7 h8 h9 h10 hx hy in
theorem put_s1 : stTakeK_s1 wRead_0 (wRead_s0 (wBytes_s0 (stPut0_0 b0 fl b2 b3 b4 b5 b6 b7 b8 b9 b10 x0 y0 x1 y1))) = [[b0], [stPut0_s0 fl], [b2], [b3], [b4], [b5], [b6], [b7], [b8], [b9], [b10], [IntKind.wrap .u8 x0], [IntKind.wrap .u8 y0], [IntKind.wrap .u8 x1], [IntKind.wrap .u8 y1], [0], [0], [0], [0], [0], [0], [0], [0], [0], [0], [0], [0], [0], [0], [0]] := by kernel_rfl

theorem put_s18 : stTakeK_s18 wRead_0 wRead_1 (wRead_s0 (wBytes_s0 (stPut0_0 b0 fl b2 b3 b4 b5 b6 b7 b8 b9 b10 x0 y0 x1 y1))) = 0 := by
  unfold stTakeK_s18 stTakeK_s17 stTakeK_s3 stTakeK_s16 stTakeK_s2 stTakeK_s4 stTakeK_s5 stTakeK_s6 stTakeK_s7 stTakeK_s8 stTakeK_s9 stTakeK_s10 stTakeK_s11 stTakeK_s12 stTakeK_s13 stTakeK_s14 stTakeK_s15
  rw [put_s1]
  have e : sChk_0 b0 b2 b5 b6 b7 b8 b9 b10 (IntKind.wrap .i64 (IntKind.wrap .u8 x0)) (IntKind.wrap .i64 (IntKind.wrap .u8 y0)) (IntKind.wrap .i64 (IntKind.wrap .u8 x1)) (IntKind.wrap .i64 (IntKind.wrap .u8 y1)) = 0 := by
    rw [w8_in hx.1 (by omega), w8_in hy.1 (by omega), w8_in (x := x1) (by omega) (by omega), w8_in (x := y1) (by omega) (by omega), w64_in (n := x0) (by omega) (by omega), w64_in (n := y0) (by omega) (by omega), w64_in (n := x1) (by omega) (by omega), w64_in (n := y1) (by omega) (by omega)]
    exact chk_ok h0 h2 h5 h6 h7 h8 h9 h10 hx hy
  have e1 : decide (1 < stPut0_s0 fl) = false := by cases fl <;> rfl
  show (bif wRead_1 == 0 then bif decide (1 < stPut0_s0 fl) then wFail_0 4 wRead_1 else bif sChk_0 b0 b2 b5 b6 b7 b8 b9 b10 (IntKind.wrap .i64 (IntKind.wrap .u8 x0)) (IntKind.wrap .i64 (IntKind.wrap .u8 y0)) (IntKind.wrap .i64 (IntKind.wrap .u8 x1)) (IntKind.wrap .i64 (IntKind.wrap .u8 y1)) != 0 then wFail_0 (sChk_0 b0 b2 b5 b6 b7 b8 b9 b10 (IntKind.wrap .i64 (IntKind.wrap .u8 x0)) (IntKind.wrap .i64 (IntKind.wrap .u8 y0)) (IntKind.wrap .i64 (IntKind.wrap .u8 x1)) (IntKind.wrap .i64 (IntKind.wrap .u8 y1))) wRead_1 else wRead_1 else wRead_1) = 0
  rw [e, e1]; rfl

theorem put_s19 : stTakeK_s19 wRead_0 wRead_1 (wRead_s0 (wBytes_s0 (stPut0_0 b0 fl b2 b3 b4 b5 b6 b7 b8 b9 b10 x0 y0 x1 y1))) = false := by
  unfold stTakeK_s19
  rw [put_s18 h0 h2 h5 h6 h7 h8 h9 h10 hx hy]; rfl

theorem put_0 : stTakeK_0 wRead_0 wRead_1 (wRead_s0 (wBytes_s0 (stPut0_0 b0 fl b2 b3 b4 b5 b6 b7 b8 b9 b10 x0 y0 x1 y1))) = b0 := by unfold stTakeK_0 stTakeK_s4; rw [put_s19 h0 h2 h5 h6 h7 h8 h9 h10 hx hy, put_s1]; rfl
theorem put_1 : stTakeK_1 wRead_0 wRead_1 (wRead_s0 (wBytes_s0 (stPut0_0 b0 fl b2 b3 b4 b5 b6 b7 b8 b9 b10 x0 y0 x1 y1))) = fl := by unfold stTakeK_1 stTakeK_s2; rw [put_s19 h0 h2 h5 h6 h7 h8 h9 h10 hx hy, put_s1]; cases fl <;> rfl
theorem put_2 : stTakeK_2 wRead_0 wRead_1 (wRead_s0 (wBytes_s0 (stPut0_0 b0 fl b2 b3 b4 b5 b6 b7 b8 b9 b10 x0 y0 x1 y1))) = b2 := by unfold stTakeK_2 stTakeK_s5; rw [put_s19 h0 h2 h5 h6 h7 h8 h9 h10 hx hy, put_s1]; rfl
theorem put_3 : stTakeK_3 wRead_0 wRead_1 (wRead_s0 (wBytes_s0 (stPut0_0 b0 fl b2 b3 b4 b5 b6 b7 b8 b9 b10 x0 y0 x1 y1))) = b3 := by unfold stTakeK_3; rw [put_s19 h0 h2 h5 h6 h7 h8 h9 h10 hx hy, put_s1]; rfl
theorem put_4 : stTakeK_4 wRead_0 wRead_1 (wRead_s0 (wBytes_s0 (stPut0_0 b0 fl b2 b3 b4 b5 b6 b7 b8 b9 b10 x0 y0 x1 y1))) = b4 := by unfold stTakeK_4; rw [put_s19 h0 h2 h5 h6 h7 h8 h9 h10 hx hy, put_s1]; rfl
theorem put_5 : stTakeK_5 wRead_0 wRead_1 (wRead_s0 (wBytes_s0 (stPut0_0 b0 fl b2 b3 b4 b5 b6 b7 b8 b9 b10 x0 y0 x1 y1))) = b5 := by unfold stTakeK_5 stTakeK_s6; rw [put_s19 h0 h2 h5 h6 h7 h8 h9 h10 hx hy, put_s1]; rfl
theorem put_6 : stTakeK_6 wRead_0 wRead_1 (wRead_s0 (wBytes_s0 (stPut0_0 b0 fl b2 b3 b4 b5 b6 b7 b8 b9 b10 x0 y0 x1 y1))) = b6 := by unfold stTakeK_6 stTakeK_s7; rw [put_s19 h0 h2 h5 h6 h7 h8 h9 h10 hx hy, put_s1]; rfl
theorem put_7 : stTakeK_7 wRead_0 wRead_1 (wRead_s0 (wBytes_s0 (stPut0_0 b0 fl b2 b3 b4 b5 b6 b7 b8 b9 b10 x0 y0 x1 y1))) = b7 := by unfold stTakeK_7 stTakeK_s8; rw [put_s19 h0 h2 h5 h6 h7 h8 h9 h10 hx hy, put_s1]; rfl
theorem put_8 : stTakeK_8 wRead_0 wRead_1 (wRead_s0 (wBytes_s0 (stPut0_0 b0 fl b2 b3 b4 b5 b6 b7 b8 b9 b10 x0 y0 x1 y1))) = b8 := by unfold stTakeK_8 stTakeK_s9; rw [put_s19 h0 h2 h5 h6 h7 h8 h9 h10 hx hy, put_s1]; rfl
theorem put_9 : stTakeK_9 wRead_0 wRead_1 (wRead_s0 (wBytes_s0 (stPut0_0 b0 fl b2 b3 b4 b5 b6 b7 b8 b9 b10 x0 y0 x1 y1))) = b9 := by unfold stTakeK_9 stTakeK_s10; rw [put_s19 h0 h2 h5 h6 h7 h8 h9 h10 hx hy, put_s1]; rfl
theorem put_10 : stTakeK_10 wRead_0 wRead_1 (wRead_s0 (wBytes_s0 (stPut0_0 b0 fl b2 b3 b4 b5 b6 b7 b8 b9 b10 x0 y0 x1 y1))) = b10 := by unfold stTakeK_10 stTakeK_s11; rw [put_s19 h0 h2 h5 h6 h7 h8 h9 h10 hx hy, put_s1]; rfl
theorem put_11 : stTakeK_11 wRead_0 wRead_1 (wRead_s0 (wBytes_s0 (stPut0_0 b0 fl b2 b3 b4 b5 b6 b7 b8 b9 b10 x0 y0 x1 y1))) = x0 := by unfold stTakeK_11 stTakeK_s12; rw [put_s19 h0 h2 h5 h6 h7 h8 h9 h10 hx hy, put_s1]; show IntKind.wrap .i64 (IntKind.wrap .u8 x0) = x0; rw [w8_in (x := x0) (by omega) (by omega), w64_in (by omega) (by omega)]
theorem put_12 : stTakeK_12 wRead_0 wRead_1 (wRead_s0 (wBytes_s0 (stPut0_0 b0 fl b2 b3 b4 b5 b6 b7 b8 b9 b10 x0 y0 x1 y1))) = y0 := by unfold stTakeK_12 stTakeK_s13; rw [put_s19 h0 h2 h5 h6 h7 h8 h9 h10 hx hy, put_s1]; show IntKind.wrap .i64 (IntKind.wrap .u8 y0) = y0; rw [w8_in (x := y0) (by omega) (by omega), w64_in (by omega) (by omega)]
theorem put_13 : stTakeK_13 wRead_0 wRead_1 (wRead_s0 (wBytes_s0 (stPut0_0 b0 fl b2 b3 b4 b5 b6 b7 b8 b9 b10 x0 y0 x1 y1))) = x1 := by unfold stTakeK_13 stTakeK_s14; rw [put_s19 h0 h2 h5 h6 h7 h8 h9 h10 hx hy, put_s1]; show IntKind.wrap .i64 (IntKind.wrap .u8 x1) = x1; rw [w8_in (x := x1) (by omega) (by omega), w64_in (by omega) (by omega)]
theorem put_14 : stTakeK_14 wRead_0 wRead_1 (wRead_s0 (wBytes_s0 (stPut0_0 b0 fl b2 b3 b4 b5 b6 b7 b8 b9 b10 x0 y0 x1 y1))) = y1 := by unfold stTakeK_14 stTakeK_s15; rw [put_s19 h0 h2 h5 h6 h7 h8 h9 h10 hx hy, put_s1]; show IntKind.wrap .i64 (IntKind.wrap .u8 y1) = y1; rw [w8_in (x := y1) (by omega) (by omega), w64_in (by omega) (by omega)]
theorem put_15 : stTakeK_15 wRead_0 wRead_1 (wRead_s0 (wBytes_s0 (stPut0_0 b0 fl b2 b3 b4 b5 b6 b7 b8 b9 b10 x0 y0 x1 y1))) = 15 := by
  unfold stTakeK_15
  have e : ∀ b c : Bool, (bif b then (15 : Int) else bif c then 15 else 15) = 15 := by decide
  exact e _ _
theorem put_16 : stTakeK_16 wRead_0 wRead_1 (wRead_s0 (wBytes_s0 (stPut0_0 b0 fl b2 b3 b4 b5 b6 b7 b8 b9 b10 x0 y0 x1 y1))) = 0 := put_s18 h0 h2 h5 h6 h7 h8 h9 h10 hx hy
end

theorem md_bd {x : Int} (l : 0 ≤ x) (m : Int) (hm : 0 < m) : 0 ≤ Int.tmod x m ∧ Int.tmod x m ≤ m - 1 := by
  rw [Int.tmod_eq_emod_of_nonneg l]
  have := Int.emod_nonneg x (show m ≠ 0 by omega)
  have := Int.emod_lt_of_pos x hm
  omega
theorem bif_bd {b : Bool} {x y lo hi : Int} (hx : lo ≤ x ∧ x ≤ hi) (hy : lo ≤ y ∧ y ≤ hi) : lo ≤ (bif b then x else y) ∧ (bif b then x else y) ≤ hi := by cases b <;> assumption
theorem td_bd {x : Int} (l : 0 ≤ x) (g : x ≤ 255) : IntKind.wrap .u8 (Int.tdiv x 3) = x / 3 := by
  rw [Int.tdiv_eq_ediv_of_nonneg l, w8_in (by omega) (by omega)]
theorem s1_bd {x : Int} (l : 0 ≤ x) (g : x ≤ 255) : 0 ≤ sm09_s1 x ∧ sm09_s1 x ≤ 29 := by
  unfold sm09_s1
  rw [td_bd l g]
  have := md_bd (x := x / 3) (by omega) 30 (by omega)
  rw [w64_in (by omega) (by omega)]; omega
theorem w30 {x : Int} (l : 0 ≤ x) (g : x ≤ 255) : 0 ≤ IntKind.wrap .i64 (Int.tmod x 30) ∧ IntKind.wrap .i64 (Int.tmod x 30) ≤ 29 := by
  have := md_bd (x := x) l 30 (by omega)
  rw [w64_in (by omega) (by omega)]; omega
theorem box_x {p q r : Int} (lp : 0 ≤ p) (gp : p ≤ 255) (lr : 0 ≤ r) (gr : r ≤ 255) : 0 ≤ sm09_8 p ∧ sm09_8 p ≤ sm09_10 p r ∧ sm09_10 p r ≤ 64 := by
  unfold sm09_8 sm09_10
  have a := s1_bd lp gp
  have b := w30 lr gr
  cases sm09_s0 p
  · simp only [cond_false]; omega
  · simp only [cond_true]; rw [w64_in (n := sm09_s1 p + _) (by omega) (by omega)]; omega
theorem box_y {p q s : Int} (lp : 0 ≤ p) (gp : p ≤ 255) (lq : 0 ≤ q) (gq : q ≤ 255) (ls : 0 ≤ s) (gs : s ≤ 255) : 0 ≤ sm09_9 p q ∧ sm09_9 p q ≤ sm09_11 p q s ∧ sm09_11 p q s ≤ 64 := by
  unfold sm09_9 sm09_11
  have a := w30 lq gq
  have b := w30 ls gs
  cases sm09_s0 p
  · simp only [cond_false]; omega
  · simp only [cond_true]; rw [w64_in (n := IntKind.wrap .i64 (Int.tmod q 30) + _) (by omega) (by omega)]; omega
theorem aw09_t : aw09_0 = true := by decide +kernel

theorem StateBack_true (x0_0 : Int) (a0_0 : IntKind.min .u8 ≤ x0_0) (b0_0 : x0_0 ≤ IntKind.max .u8) (x0_1 : Int) (a0_1 : IntKind.min .u8 ≤ x0_1) (b0_1 : x0_1 ≤ IntKind.max .u8) (x0_2 : Int) (a0_2 : IntKind.min .u8 ≤ x0_2) (b0_2 : x0_2 ≤ IntKind.max .u8) (x0_3 : Int) (a0_3 : IntKind.min .u8 ≤ x0_3) (b0_3 : x0_3 ≤ IntKind.max .u8) (x0_4 : Int) (a0_4 : IntKind.min .u8 ≤ x0_4) (b0_4 : x0_4 ≤ IntKind.max .u8) (x0_5 : Int) (a0_5 : IntKind.min .u8 ≤ x0_5) (b0_5 : x0_5 ≤ IntKind.max .u8) (x0_6 : Int) (a0_6 : IntKind.min .u8 ≤ x0_6) (b0_6 : x0_6 ≤ IntKind.max .u8) (x0_7 : Int) (a0_7 : IntKind.min .u8 ≤ x0_7) (b0_7 : x0_7 ≤ IntKind.max .u8) (x0_8 : Int) (a0_8 : IntKind.min .u8 ≤ x0_8) (b0_8 : x0_8 ≤ IntKind.max .u8) (x0_9 : Int) (a0_9 : IntKind.min .u8 ≤ x0_9) (b0_9 : x0_9 ≤ IntKind.max .u8) (x0_10 : Bool) (x0_11 : Bool) (x0_12 : Int) (a0_12 : IntKind.min .u8 ≤ x0_12) (b0_12 : x0_12 ≤ IntKind.max .u8) (x0_13 : Int) (a0_13 : IntKind.min .u8 ≤ x0_13) (b0_13 : x0_13 ≤ IntKind.max .u8) (x0_14 : Int) (a0_14 : IntKind.min .u8 ≤ x0_14) (b0_14 : x0_14 ≤ IntKind.max .u8) (x0_15 : Int) (a0_15 : IntKind.min .u8 ≤ x0_15) (b0_15 : x0_15 ≤ IntKind.max .u8) : lBack_0 x0_0 x0_1 x0_2 x0_3 x0_4 x0_5 x0_6 x0_7 x0_8 x0_9 x0_10 x0_11 x0_12 x0_13 x0_14 x0_15 = true := by
  obtain ⟨l0_0, g0_0⟩ := bd_u8 a0_0 b0_0
  have w0_0 : IntKind.wrap .i64 x0_0 = x0_0 := w64_in (by omega) (by omega)
  obtain ⟨l0_1, g0_1⟩ := bd_u8 a0_1 b0_1
  have w0_1 : IntKind.wrap .i64 x0_1 = x0_1 := w64_in (by omega) (by omega)
  obtain ⟨l0_2, g0_2⟩ := bd_u8 a0_2 b0_2
  have w0_2 : IntKind.wrap .i64 x0_2 = x0_2 := w64_in (by omega) (by omega)
  obtain ⟨l0_3, g0_3⟩ := bd_u8 a0_3 b0_3
  have w0_3 : IntKind.wrap .i64 x0_3 = x0_3 := w64_in (by omega) (by omega)
  obtain ⟨l0_4, g0_4⟩ := bd_u8 a0_4 b0_4
  have w0_4 : IntKind.wrap .i64 x0_4 = x0_4 := w64_in (by omega) (by omega)
  obtain ⟨l0_5, g0_5⟩ := bd_u8 a0_5 b0_5
  have w0_5 : IntKind.wrap .i64 x0_5 = x0_5 := w64_in (by omega) (by omega)
  obtain ⟨l0_6, g0_6⟩ := bd_u8 a0_6 b0_6
  have w0_6 : IntKind.wrap .i64 x0_6 = x0_6 := w64_in (by omega) (by omega)
  obtain ⟨l0_7, g0_7⟩ := bd_u8 a0_7 b0_7
  have w0_7 : IntKind.wrap .i64 x0_7 = x0_7 := w64_in (by omega) (by omega)
  obtain ⟨l0_8, g0_8⟩ := bd_u8 a0_8 b0_8
  have w0_8 : IntKind.wrap .i64 x0_8 = x0_8 := w64_in (by omega) (by omega)
  obtain ⟨l0_9, g0_9⟩ := bd_u8 a0_9 b0_9
  have w0_9 : IntKind.wrap .i64 x0_9 = x0_9 := w64_in (by omega) (by omega)
  obtain ⟨l0_12, g0_12⟩ := bd_u8 a0_12 b0_12
  have w0_12 : IntKind.wrap .i64 x0_12 = x0_12 := w64_in (by omega) (by omega)
  obtain ⟨l0_13, g0_13⟩ := bd_u8 a0_13 b0_13
  have w0_13 : IntKind.wrap .i64 x0_13 = x0_13 := w64_in (by omega) (by omega)
  obtain ⟨l0_14, g0_14⟩ := bd_u8 a0_14 b0_14
  have w0_14 : IntKind.wrap .i64 x0_14 = x0_14 := w64_in (by omega) (by omega)
  obtain ⟨l0_15, g0_15⟩ := bd_u8 a0_15 b0_15
  have w0_15 : IntKind.wrap .i64 x0_15 = x0_15 := w64_in (by omega) (by omega)
  have h0 := md_bd l0_0 8 (by omega)
  have h2 : 0 ≤ sm09_1 x0_1 x0_11 ∧ sm09_1 x0_1 x0_11 ≤ 7 := bif_bd (by omega) (md_bd l0_1 8 (by omega))
  have h5 : 0 ≤ sm09_2 x0_4 ∧ sm09_2 x0_4 ≤ 5 := md_bd l0_4 6 (by omega)
  have h6 : 0 ≤ sm09_3 x0_5 x0_11 ∧ sm09_3 x0_5 x0_11 ≤ 5 := bif_bd (by omega) (md_bd l0_5 6 (by omega))
  have h7 : 0 ≤ sm09_4 x0_6 x0_11 ∧ sm09_4 x0_6 x0_11 ≤ 5 := bif_bd (by omega) (md_bd l0_6 6 (by omega))
  have h8 : 0 ≤ sm09_5 x0_7 x0_11 ∧ sm09_5 x0_7 x0_11 ≤ 3 := bif_bd (by omega) (md_bd l0_7 4 (by omega))
  have h9 : 0 ≤ sm09_6 x0_8 x0_11 ∧ sm09_6 x0_8 x0_11 ≤ 15 := bif_bd (by omega) (md_bd l0_8 16 (by omega))
  have h10 : 0 ≤ sm09_7 x0_9 ∧ sm09_7 x0_9 ≤ 2 := md_bd l0_9 3 (by omega)
  have hx := box_x (q := x0_13) l0_12 g0_12 l0_14 g0_14
  have hy := box_y l0_12 g0_12 l0_13 g0_13 l0_15 g0_15
  have h0 : 0 ≤ sm09_0 x0_0 ∧ sm09_0 x0_0 ≤ 7 := h0
  unfold lBack_0 lBack_s0 lBack_s2 lBack_s4 lBack_s3 lBack_s1
  rw [aw09_t, chk_ok h0 h2 h5 h6 h7 h8 h9 h10 hx hy, put_0 h0 h2 h5 h6 h7 h8 h9 h10 hx hy, put_1 h0 h2 h5 h6 h7 h8 h9 h10 hx hy, put_2 h0 h2 h5 h6 h7 h8 h9 h10 hx hy, put_3 h0 h2 h5 h6 h7 h8 h9 h10 hx hy, put_4 h0 h2 h5 h6 h7 h8 h9 h10 hx hy, put_5 h0 h2 h5 h6 h7 h8 h9 h10 hx hy, put_6 h0 h2 h5 h6 h7 h8 h9 h10 hx hy, put_7 h0 h2 h5 h6 h7 h8 h9 h10 hx hy, put_8 h0 h2 h5 h6 h7 h8 h9 h10 hx hy, put_9 h0 h2 h5 h6 h7 h8 h9 h10 hx hy, put_10 h0 h2 h5 h6 h7 h8 h9 h10 hx hy, put_11 h0 h2 h5 h6 h7 h8 h9 h10 hx hy, put_12 h0 h2 h5 h6 h7 h8 h9 h10 hx hy, put_13 h0 h2 h5 h6 h7 h8 h9 h10 hx hy, put_14 h0 h2 h5 h6 h7 h8 h9 h10 hx hy, put_15 h0 h2 h5 h6 h7 h8 h9 h10 hx hy, put_16 h0 h2 h5 h6 h7 h8 h9 h10 hx hy]
  have e1 : sLate_0 (sm09_1 x0_1 x0_11) (sm09_3 x0_5 x0_11) (sm09_4 x0_6 x0_11) (sm09_5 x0_7 x0_11) (sm09_6 x0_8 x0_11) = lBack_s5 x0_1 x0_5 x0_6 x0_7 x0_8 x0_11 := by
    unfold sLate_0 lBack_s5
    generalize (sm09_1 x0_1 x0_11 == 7) = a
    generalize (sm09_3 x0_5 x0_11 == 0) = b
    generalize (sm09_4 x0_6 x0_11 == 0) = c
    generalize (sm09_5 x0_7 x0_11 == 0) = d
    generalize (sm09_6 x0_8 x0_11 == 15) = e
    cases a <;> cases b <;> cases c <;> cases d <;> rfl
  rw [e1]
  have e2 : (bif !x0_11 then true else lBack_s5 x0_1 x0_5 x0_6 x0_7 x0_8 x0_11) = true := by cases x0_11 <;> rfl
  simp only [beq_self_eq_true, Bool.and_self, cond_true, cond_false, Bool.not_true, e2]
  rfl

theorem StateBack_obs (x0_0 : Int) (a0_0 : IntKind.min .u8 ≤ x0_0) (b0_0 : x0_0 ≤ IntKind.max .u8) (x0_1 : Int) (a0_1 : IntKind.min .u8 ≤ x0_1) (b0_1 : x0_1 ≤ IntKind.max .u8) (x0_2 : Int) (a0_2 : IntKind.min .u8 ≤ x0_2) (b0_2 : x0_2 ≤ IntKind.max .u8) (x0_3 : Int) (a0_3 : IntKind.min .u8 ≤ x0_3) (b0_3 : x0_3 ≤ IntKind.max .u8) (x0_4 : Int) (a0_4 : IntKind.min .u8 ≤ x0_4) (b0_4 : x0_4 ≤ IntKind.max .u8) (x0_5 : Int) (a0_5 : IntKind.min .u8 ≤ x0_5) (b0_5 : x0_5 ≤ IntKind.max .u8) (x0_6 : Int) (a0_6 : IntKind.min .u8 ≤ x0_6) (b0_6 : x0_6 ≤ IntKind.max .u8) (x0_7 : Int) (a0_7 : IntKind.min .u8 ≤ x0_7) (b0_7 : x0_7 ≤ IntKind.max .u8) (x0_8 : Int) (a0_8 : IntKind.min .u8 ≤ x0_8) (b0_8 : x0_8 ≤ IntKind.max .u8) (x0_9 : Int) (a0_9 : IntKind.min .u8 ≤ x0_9) (b0_9 : x0_9 ≤ IntKind.max .u8) (x0_10 : Bool) (x0_11 : Bool) (x0_12 : Int) (a0_12 : IntKind.min .u8 ≤ x0_12) (b0_12 : x0_12 ≤ IntKind.max .u8) (x0_13 : Int) (a0_13 : IntKind.min .u8 ≤ x0_13) (b0_13 : x0_13 ≤ IntKind.max .u8) (x0_14 : Int) (a0_14 : IntKind.min .u8 ≤ x0_14) (b0_14 : x0_14 ≤ IntKind.max .u8) (x0_15 : Int) (a0_15 : IntKind.min .u8 ≤ x0_15) (b0_15 : x0_15 ≤ IntKind.max .u8) : Alls (lBack_o x0_0 x0_1 x0_2 x0_3 x0_4 x0_5 x0_6 x0_7 x0_8 x0_9 x0_10 x0_11 x0_12 x0_13 x0_14 x0_15) := by
  obtain ⟨l0_0, g0_0⟩ := bd_u8 a0_0 b0_0
  have w0_0 : IntKind.wrap .i64 x0_0 = x0_0 := w64_in (by omega) (by omega)
  obtain ⟨l0_1, g0_1⟩ := bd_u8 a0_1 b0_1
  have w0_1 : IntKind.wrap .i64 x0_1 = x0_1 := w64_in (by omega) (by omega)
  obtain ⟨l0_2, g0_2⟩ := bd_u8 a0_2 b0_2
  have w0_2 : IntKind.wrap .i64 x0_2 = x0_2 := w64_in (by omega) (by omega)
  obtain ⟨l0_3, g0_3⟩ := bd_u8 a0_3 b0_3
  have w0_3 : IntKind.wrap .i64 x0_3 = x0_3 := w64_in (by omega) (by omega)
  obtain ⟨l0_4, g0_4⟩ := bd_u8 a0_4 b0_4
  have w0_4 : IntKind.wrap .i64 x0_4 = x0_4 := w64_in (by omega) (by omega)
  obtain ⟨l0_5, g0_5⟩ := bd_u8 a0_5 b0_5
  have w0_5 : IntKind.wrap .i64 x0_5 = x0_5 := w64_in (by omega) (by omega)
  obtain ⟨l0_6, g0_6⟩ := bd_u8 a0_6 b0_6
  have w0_6 : IntKind.wrap .i64 x0_6 = x0_6 := w64_in (by omega) (by omega)
  obtain ⟨l0_7, g0_7⟩ := bd_u8 a0_7 b0_7
  have w0_7 : IntKind.wrap .i64 x0_7 = x0_7 := w64_in (by omega) (by omega)
  obtain ⟨l0_8, g0_8⟩ := bd_u8 a0_8 b0_8
  have w0_8 : IntKind.wrap .i64 x0_8 = x0_8 := w64_in (by omega) (by omega)
  obtain ⟨l0_9, g0_9⟩ := bd_u8 a0_9 b0_9
  have w0_9 : IntKind.wrap .i64 x0_9 = x0_9 := w64_in (by omega) (by omega)
  obtain ⟨l0_12, g0_12⟩ := bd_u8 a0_12 b0_12
  have w0_12 : IntKind.wrap .i64 x0_12 = x0_12 := w64_in (by omega) (by omega)
  obtain ⟨l0_13, g0_13⟩ := bd_u8 a0_13 b0_13
  have w0_13 : IntKind.wrap .i64 x0_13 = x0_13 := w64_in (by omega) (by omega)
  obtain ⟨l0_14, g0_14⟩ := bd_u8 a0_14 b0_14
  have w0_14 : IntKind.wrap .i64 x0_14 = x0_14 := w64_in (by omega) (by omega)
  obtain ⟨l0_15, g0_15⟩ := bd_u8 a0_15 b0_15
  have w0_15 : IntKind.wrap .i64 x0_15 = x0_15 := w64_in (by omega) (by omega)
  have h0 : 0 ≤ sm09_0 x0_0 ∧ sm09_0 x0_0 ≤ 7 := md_bd l0_0 8 (by omega)
  unfold lBack_o
  exact ⟨fun _ => by show (15 : Nat) * 1 ≤ 70368744177664; decide, fun _ => by show (15 : Nat) * 1 ≤ 70368744177664; decide, fun _ => by show (15 : Nat) * 1 ≤ 70368744177664; decide, fun _ _ _ => by show (bif decide ((15 : Int) < 0) then true else decide (IntKind.wrap .i64 (15 - 0) < 15)) = false; decide, fun _ _ _ => rfl, fun _ _ _ => by show 0 ≤ IntKind.wrap .i64 (IntKind.wrap .i64 (0 + 15) - 15) ∧ IntKind.wrap .i64 (IntKind.wrap .i64 (0 + 15) - 15) ≤ IntKind.wrap .i64 (0 + 15) ∧ IntKind.wrap .i64 (0 + 15) ≤ 15; decide, fun _ _ _ => by show (15 : Nat) * 1 ≤ 70368744177664; decide, fun _ _ _ => by decide, fun _ _ _ => by show (30 : Nat) * 1 ≤ 70368744177664; decide, fun _ _ _ => by show (0 : Int) ≤ 0 ∧ (0 : Int) < 30; decide, fun _ _ _ => by show (0 : Int) ≤ 1 ∧ (1 : Int) < 30; decide, fun _ _ _ => by show (0 : Int) ≤ 2 ∧ (2 : Int) < 30; decide, fun _ _ _ => by show (0 : Int) ≤ 3 ∧ (3 : Int) < 30; decide, fun _ _ _ => by show (0 : Int) ≤ 4 ∧ (4 : Int) < 30; decide, fun _ _ _ => by show (0 : Int) ≤ 5 ∧ (5 : Int) < 30; decide, fun _ _ _ => by show (0 : Int) ≤ 6 ∧ (6 : Int) < 30; decide, fun _ _ _ => by show (0 : Int) ≤ 7 ∧ (7 : Int) < 30; decide, fun _ _ _ => by show (0 : Int) ≤ 8 ∧ (8 : Int) < 30; decide, fun _ _ _ => by show (0 : Int) ≤ 9 ∧ (9 : Int) < 30; decide, fun _ _ _ => by show (0 : Int) ≤ 10 ∧ (10 : Int) < 30; decide, fun _ _ _ => by show (0 : Int) ≤ 11 ∧ (11 : Int) < 30; decide, fun _ _ _ => by show (0 : Int) ≤ 12 ∧ (12 : Int) < 30; decide, fun _ _ _ => by show (0 : Int) ≤ 13 ∧ (13 : Int) < 30; decide, fun _ _ _ => by show (0 : Int) ≤ 14 ∧ (14 : Int) < 30; decide, fun _ _ _ _ => by show (0 : Int) ≤ 1 ∧ (1 : Int) < 30; decide, trivial⟩
end Go.Proofs.Ytcdejlgophpdjaa
