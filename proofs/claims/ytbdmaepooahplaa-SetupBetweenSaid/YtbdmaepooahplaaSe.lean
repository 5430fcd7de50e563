/-
  Triangles on the picture in plain numbers: the laws of a pixel's depth and colour.
-/
import Derived.Test.YtbdmaepooahplaaSd
namespace Go.Proofs.Ytbdmaepooahplaa
open Go Go.RowKit Go.Proofs.Ytbdmaepooahplaa.V
set_option linter.unusedVariables false
set_option linter.unusedSectionVars false

theorem TB.rot {a b c d e f z0 z1 z2 n0 n1 n2 k00 k01 k02 k03 k10 k11 k12 k13 k20 k21 k22 k23 : Int} (H : TB a b c d e f z0 z1 z2 n0 n1 n2 k00 k01 k02 k03 k10 k11 k12 k13 k20 k21 k22 k23) : TB c d e f a b z1 z2 z0 n1 n2 n0 k10 k11 k12 k13 k20 k21 k22 k23 k00 k01 k02 k03 :=
  ⟨H.hc, H.hd, H.he, H.hf, H.ha, H.hb, H.h1, H.h2, H.h0, H.m1, H.m2, H.m0, H.q10, H.q11, H.q12, H.q13, H.q20, H.q21, H.q22, H.q23, H.q00, H.q01, H.q02, H.q03⟩

theorem at5_rot (a b c d e f x y : Int) : at5 c d e f a b x y = at5 a b c d e f x y := by unfold at5; rw [decide_eq_decide]; exact cv_rot ..
theorem at0_rot (a b c d e f z0 z1 z2 x y : Int) : at0 c d e f a b z1 z2 z0 x y = at0 a b c d e f z0 z1 z2 x y := by
  unfold at0; rw [at5_rot, wav_rot]
theorem atk_rot (a b c d e f n0 n1 n2 k0 k1 k2 x y : Int) : atk c d e f a b n1 n2 n0 k1 k2 k0 x y = atk a b c d e f n0 n1 n2 k0 k1 k2 x y := by
  unfold atk; rw [at5_rot, wav_rot]

theorem aw13_t : aw13_0 = true := by
  have T : TB 0 0 64 0 0 64 7 7 7 9 9 9 1 2 3 4 1 2 3 4 1 2 3 4 := by constructor <;> omega
  have h : (0 : Int) ≤ 0 ∧ (0 : Int) ≤ 63 := by omega
  unfold aw13_0 l13Plain_0 l13Plain_1 l13Plain_2 l13Plain_3 l13Plain_4 l13Plain_5
  rw [check_eq T, sat_5 T h h, sat_0 T h h, sat_1 T h h, sat_2 T h h, sat_3 T h h, sat_4 T h h]
  decide +kernel

theorem k_num {s : Int} (l : 0 ≤ s) (g : s ≤ 255) : 1 ≤ sm13Tri_s0 s ∧ sm13Tri_s0 s ≤ 4 := by
  unfold sm13Tri_s0
  rw [Int.tmod_eq_emod_of_nonneg l, w64_in (n := s % 4) (by omega) (by omega), w64_in (by omega) (by omega)]
  omega

theorem pt_num {x k : Int} (l : -128 ≤ x ∧ x ≤ 127) (h : 1 ≤ k ∧ k ≤ 4) : -2000 ≤ IntKind.wrap .i64 (IntKind.wrap .i64 (IntKind.wrap .i64 x * k) + 100) ∧ IntKind.wrap .i64 (IntKind.wrap .i64 (IntKind.wrap .i64 x * k) + 100) ≤ 2000 := by
  have hm : x.natAbs * k.natAbs ≤ 128 * 4 := Nat.mul_le_mul (by omega) (by omega)
  rw [← Int.natAbs_mul] at hm
  rw [w64_in (n := x) (by omega) (by omega), w64_in (n := x * k) (by omega) (by omega), w64_in (by omega) (by omega)]
  omega

theorem near_num {x : Int} (l : 0 ≤ x) (g : x ≤ 65535) : 1 ≤ IntKind.wrap .i64 (1 + IntKind.wrap .i64 (Int.tmod x 1024)) ∧ IntKind.wrap .i64 (1 + IntKind.wrap .i64 (Int.tmod x 1024)) ≤ 1024 := by
  rw [Int.tmod_eq_emod_of_nonneg l, w64_in (n := x % 1024) (by omega) (by omega), w64_in (by omega) (by omega)]
  omega

theorem bif_in {p : Int → Prop} {b : Bool} {x y : Int} (hx : p x) (hy : p y) : p (bif b then x else y) := by cases b <;> assumption

theorem sm_TB {x0 x1 x2 x3 x4 x5 x24 n0 n1 n2 z0 z1 z2 k00 k01 k02 k03 k10 k11 k12 k13 k20 k21 k22 k23 : Int} (h0 : -128 ≤ x0 ∧ x0 ≤ 127) (h1 : -128 ≤ x1 ∧ x1 ≤ 127) (h2 : -128 ≤ x2 ∧ x2 ≤ 127) (h3 : -128 ≤ x3 ∧ x3 ≤ 127) (h4 : -128 ≤ x4 ∧ x4 ≤ 127) (h5 : -128 ≤ x5 ∧ x5 ≤ 127) (l : 0 ≤ x24) (g : x24 ≤ 255)
    (m0 : 0 ≤ n0 ∧ n0 ≤ 65535) (m1 : 0 ≤ n1 ∧ n1 ≤ 65535) (m2 : 0 ≤ n2 ∧ n2 ≤ 65535) (y0 : 0 ≤ z0 ∧ z0 ≤ 65535) (y1 : 0 ≤ z1 ∧ z1 ≤ 65535) (y2 : 0 ≤ z2 ∧ z2 ≤ 65535)
    (q00 : 0 ≤ k00 ∧ k00 ≤ 65536) (q01 : 0 ≤ k01 ∧ k01 ≤ 65536) (q02 : 0 ≤ k02 ∧ k02 ≤ 65536) (q03 : 0 ≤ k03 ∧ k03 ≤ 65536) (q10 : 0 ≤ k10 ∧ k10 ≤ 65536) (q11 : 0 ≤ k11 ∧ k11 ≤ 65536) (q12 : 0 ≤ k12 ∧ k12 ≤ 65536) (q13 : 0 ≤ k13 ∧ k13 ≤ 65536) (q20 : 0 ≤ k20 ∧ k20 ≤ 65536) (q21 : 0 ≤ k21 ∧ k21 ≤ 65536) (q22 : 0 ≤ k22 ∧ k22 ≤ 65536) (q23 : 0 ≤ k23 ∧ k23 ≤ 65536) :
    TB (sm13Tri_0 x0 x1 x2 x3 x4 x5 x24) (sm13Tri_1 x0 x1 x2 x3 x4 x5 x24) (sm13Tri_2 x0 x1 x2 x3 x4 x5 x24) (sm13Tri_3 x0 x1 x2 x3 x4 x5 x24) (sm13Tri_4 x0 x1 x2 x3 x4 x5 x24) (sm13Tri_5 x0 x1 x2 x3 x4 x5 x24) z0 z1 z2 (sm13Tri_6 n0) (sm13Tri_7 n1) (sm13Tri_8 n2) k00 k01 k02 k03 k10 k11 k12 k13 k20 k21 k22 k23 := by
  have k := k_num l g
  refine ⟨?_, ?_, ?_, ?_, ?_, ?_, y0, y1, y2, near_num m0.1 m0.2, near_num m1.1 m1.2, near_num m2.1 m2.2, q00, q01, q02, q03, q10, q11, q12, q13, q20, q21, q22, q23⟩
  · exact bif_in (p := fun x => -2000 ≤ x ∧ x ≤ 2000) (pt_num h0 k) (pt_num h0 k)
  · exact bif_in (p := fun x => -2000 ≤ x ∧ x ≤ 2000) (pt_num h1 k) (pt_num h1 k)
  · exact bif_in (p := fun x => -2000 ≤ x ∧ x ≤ 2000) (pt_num h4 k) (pt_num h2 k)
  · exact bif_in (p := fun x => -2000 ≤ x ∧ x ≤ 2000) (pt_num h5 k) (pt_num h3 k)
  · exact bif_in (p := fun x => -2000 ≤ x ∧ x ≤ 2000) (pt_num h2 k) (pt_num h4 k)
  · exact bif_in (p := fun x => -2000 ≤ x ∧ x ≤ 2000) (pt_num h3 k) (pt_num h5 k)

theorem tri9 {x0 x1 x2 x3 x4 x5 x24 n0 n1 n2 z0 z1 z2 k00 k01 k02 k03 k10 k11 k12 k13 k20 k21 k22 k23 : Int}
    (T : TB (sm13Tri_0 x0 x1 x2 x3 x4 x5 x24) (sm13Tri_1 x0 x1 x2 x3 x4 x5 x24) (sm13Tri_2 x0 x1 x2 x3 x4 x5 x24) (sm13Tri_3 x0 x1 x2 x3 x4 x5 x24) (sm13Tri_4 x0 x1 x2 x3 x4 x5 x24) (sm13Tri_5 x0 x1 x2 x3 x4 x5 x24) z0 z1 z2 (sm13Tri_6 n0) (sm13Tri_7 n1) (sm13Tri_8 n2) k00 k01 k02 k03 k10 k11 k12 k13 k20 k21 k22 k23) :
    sm13Tri_9 x0 x1 x2 x3 x4 x5 x24 = decide (0 < sd (sm13Tri_0 x0 x1 x2 x3 x4 x5 x24) (sm13Tri_1 x0 x1 x2 x3 x4 x5 x24) (sm13Tri_2 x0 x1 x2 x3 x4 x5 x24) (sm13Tri_3 x0 x1 x2 x3 x4 x5 x24) (sm13Tri_4 x0 x1 x2 x3 x4 x5 x24) (sm13Tri_5 x0 x1 x2 x3 x4 x5 x24)) := by
  rw [← area_eq T]; rfl

theorem px {x m : Int} (l : 0 ≤ x) (h0 : 0 < m) (h1 : m ≤ 64) : 0 ≤ IntKind.wrap .i64 (Int.tmod x m) ∧ IntKind.wrap .i64 (Int.tmod x m) ≤ 63 := by
  have := Int.emod_nonneg x (show m ≠ 0 by omega)
  have := Int.emod_lt_of_pos x h0
  rw [Int.tmod_eq_emod_of_nonneg l, w64_in (by omega) (by omega)]
  omega

theorem b16 {x : Int} (l : 0 ≤ x) (g : x ≤ 65535) (w : IntKind.wrap .i64 x = x) : 0 ≤ IntKind.wrap .i64 x ∧ IntKind.wrap .i64 x ≤ 65536 := by omega
theorem c16 {x : Int} (l : 0 ≤ x) (g : x ≤ 65535) (w : IntKind.wrap .i64 x = x) : 0 ≤ IntKind.wrap .i64 x ∧ IntKind.wrap .i64 x ≤ 65535 := by omega

theorem SetupAt_true (x0_0 : Int) (a0_0 : IntKind.min .i8 ≤ x0_0) (b0_0 : x0_0 ≤ IntKind.max .i8) (x0_1 : Int) (a0_1 : IntKind.min .i8 ≤ x0_1) (b0_1 : x0_1 ≤ IntKind.max .i8) (x0_2 : Int) (a0_2 : IntKind.min .i8 ≤ x0_2) (b0_2 : x0_2 ≤ IntKind.max .i8) (x0_3 : Int) (a0_3 : IntKind.min .i8 ≤ x0_3) (b0_3 : x0_3 ≤ IntKind.max .i8) (x0_4 : Int) (a0_4 : IntKind.min .i8 ≤ x0_4) (b0_4 : x0_4 ≤ IntKind.max .i8) (x0_5 : Int) (a0_5 : IntKind.min .i8 ≤ x0_5) (b0_5 : x0_5 ≤ IntKind.max .i8) (x0_6 : Int) (a0_6 : IntKind.min .u16 ≤ x0_6) (b0_6 : x0_6 ≤ IntKind.max .u16) (x0_7 : Int) (a0_7 : IntKind.min .u16 ≤ x0_7) (b0_7 : x0_7 ≤ IntKind.max .u16) (x0_8 : Int) (a0_8 : IntKind.min .u16 ≤ x0_8) (b0_8 : x0_8 ≤ IntKind.max .u16) (x0_9 : Int) (a0_9 : IntKind.min .u16 ≤ x0_9) (b0_9 : x0_9 ≤ IntKind.max .u16) (x0_10 : Int) (a0_10 : IntKind.min .u16 ≤ x0_10) (b0_10 : x0_10 ≤ IntKind.max .u16) (x0_11 : Int) (a0_11 : IntKind.min .u16 ≤ x0_11) (b0_11 : x0_11 ≤ IntKind.max .u16) (x0_12 : Int) (a0_12 : IntKind.min .u16 ≤ x0_12) (b0_12 : x0_12 ≤ IntKind.max .u16) (x0_13 : Int) (a0_13 : IntKind.min .u16 ≤ x0_13) (b0_13 : x0_13 ≤ IntKind.max .u16) (x0_14 : Int) (a0_14 : IntKind.min .u16 ≤ x0_14) (b0_14 : x0_14 ≤ IntKind.max .u16) (x0_15 : Int) (a0_15 : IntKind.min .u16 ≤ x0_15) (b0_15 : x0_15 ≤ IntKind.max .u16) (x0_16 : Int) (a0_16 : IntKind.min .u16 ≤ x0_16) (b0_16 : x0_16 ≤ IntKind.max .u16) (x0_17 : Int) (a0_17 : IntKind.min .u16 ≤ x0_17) (b0_17 : x0_17 ≤ IntKind.max .u16) (x0_18 : Int) (a0_18 : IntKind.min .u16 ≤ x0_18) (b0_18 : x0_18 ≤ IntKind.max .u16) (x0_19 : Int) (a0_19 : IntKind.min .u16 ≤ x0_19) (b0_19 : x0_19 ≤ IntKind.max .u16) (x0_20 : Int) (a0_20 : IntKind.min .u16 ≤ x0_20) (b0_20 : x0_20 ≤ IntKind.max .u16) (x0_21 : Int) (a0_21 : IntKind.min .u16 ≤ x0_21) (b0_21 : x0_21 ≤ IntKind.max .u16) (x0_22 : Int) (a0_22 : IntKind.min .u16 ≤ x0_22) (b0_22 : x0_22 ≤ IntKind.max .u16) (x0_23 : Int) (a0_23 : IntKind.min .u16 ≤ x0_23) (b0_23 : x0_23 ≤ IntKind.max .u16) (x0_24 : Int) (a0_24 : IntKind.min .u8 ≤ x0_24) (b0_24 : x0_24 ≤ IntKind.max .u8) (x1 : Int) (a1 : IntKind.min .u8 ≤ x1) (b1 : x1 ≤ IntKind.max .u8) (x2 : Int) (a2 : IntKind.min .u8 ≤ x2) (b2 : x2 ≤ IntKind.max .u8) : lAt_0 x0_0 x0_1 x0_2 x0_3 x0_4 x0_5 x0_6 x0_7 x0_8 x0_9 x0_10 x0_11 x0_12 x0_13 x0_14 x0_15 x0_16 x0_17 x0_18 x0_19 x0_20 x0_21 x0_22 x0_23 x0_24 x1 x2 = true := by
  obtain ⟨l0_0, g0_0⟩ := bd_i8 a0_0 b0_0
  have w0_0 : IntKind.wrap .i64 x0_0 = x0_0 := w64_in (by omega) (by omega)
  obtain ⟨l0_1, g0_1⟩ := bd_i8 a0_1 b0_1
  have w0_1 : IntKind.wrap .i64 x0_1 = x0_1 := w64_in (by omega) (by omega)
  obtain ⟨l0_2, g0_2⟩ := bd_i8 a0_2 b0_2
  have w0_2 : IntKind.wrap .i64 x0_2 = x0_2 := w64_in (by omega) (by omega)
  obtain ⟨l0_3, g0_3⟩ := bd_i8 a0_3 b0_3
  have w0_3 : IntKind.wrap .i64 x0_3 = x0_3 := w64_in (by omega) (by omega)
  obtain ⟨l0_4, g0_4⟩ := bd_i8 a0_4 b0_4
  have w0_4 : IntKind.wrap .i64 x0_4 = x0_4 := w64_in (by omega) (by omega)
  obtain ⟨l0_5, g0_5⟩ := bd_i8 a0_5 b0_5
  have w0_5 : IntKind.wrap .i64 x0_5 = x0_5 := w64_in (by omega) (by omega)
  obtain ⟨l0_6, g0_6⟩ := bd_u16 a0_6 b0_6
  have w0_6 : IntKind.wrap .i64 x0_6 = x0_6 := w64_in (by omega) (by omega)
  obtain ⟨l0_7, g0_7⟩ := bd_u16 a0_7 b0_7
  have w0_7 : IntKind.wrap .i64 x0_7 = x0_7 := w64_in (by omega) (by omega)
  obtain ⟨l0_8, g0_8⟩ := bd_u16 a0_8 b0_8
  have w0_8 : IntKind.wrap .i64 x0_8 = x0_8 := w64_in (by omega) (by omega)
  obtain ⟨l0_9, g0_9⟩ := bd_u16 a0_9 b0_9
  have w0_9 : IntKind.wrap .i64 x0_9 = x0_9 := w64_in (by omega) (by omega)
  obtain ⟨l0_10, g0_10⟩ := bd_u16 a0_10 b0_10
  have w0_10 : IntKind.wrap .i64 x0_10 = x0_10 := w64_in (by omega) (by omega)
  obtain ⟨l0_11, g0_11⟩ := bd_u16 a0_11 b0_11
  have w0_11 : IntKind.wrap .i64 x0_11 = x0_11 := w64_in (by omega) (by omega)
  obtain ⟨l0_12, g0_12⟩ := bd_u16 a0_12 b0_12
  have w0_12 : IntKind.wrap .i64 x0_12 = x0_12 := w64_in (by omega) (by omega)
  obtain ⟨l0_13, g0_13⟩ := bd_u16 a0_13 b0_13
  have w0_13 : IntKind.wrap .i64 x0_13 = x0_13 := w64_in (by omega) (by omega)
  obtain ⟨l0_14, g0_14⟩ := bd_u16 a0_14 b0_14
  have w0_14 : IntKind.wrap .i64 x0_14 = x0_14 := w64_in (by omega) (by omega)
  obtain ⟨l0_15, g0_15⟩ := bd_u16 a0_15 b0_15
  have w0_15 : IntKind.wrap .i64 x0_15 = x0_15 := w64_in (by omega) (by omega)
  obtain ⟨l0_16, g0_16⟩ := bd_u16 a0_16 b0_16
  have w0_16 : IntKind.wrap .i64 x0_16 = x0_16 := w64_in (by omega) (by omega)
  obtain ⟨l0_17, g0_17⟩ := bd_u16 a0_17 b0_17
  have w0_17 : IntKind.wrap .i64 x0_17 = x0_17 := w64_in (by omega) (by omega)
  obtain ⟨l0_18, g0_18⟩ := bd_u16 a0_18 b0_18
  have w0_18 : IntKind.wrap .i64 x0_18 = x0_18 := w64_in (by omega) (by omega)
  obtain ⟨l0_19, g0_19⟩ := bd_u16 a0_19 b0_19
  have w0_19 : IntKind.wrap .i64 x0_19 = x0_19 := w64_in (by omega) (by omega)
  obtain ⟨l0_20, g0_20⟩ := bd_u16 a0_20 b0_20
  have w0_20 : IntKind.wrap .i64 x0_20 = x0_20 := w64_in (by omega) (by omega)
  obtain ⟨l0_21, g0_21⟩ := bd_u16 a0_21 b0_21
  have w0_21 : IntKind.wrap .i64 x0_21 = x0_21 := w64_in (by omega) (by omega)
  obtain ⟨l0_22, g0_22⟩ := bd_u16 a0_22 b0_22
  have w0_22 : IntKind.wrap .i64 x0_22 = x0_22 := w64_in (by omega) (by omega)
  obtain ⟨l0_23, g0_23⟩ := bd_u16 a0_23 b0_23
  have w0_23 : IntKind.wrap .i64 x0_23 = x0_23 := w64_in (by omega) (by omega)
  obtain ⟨l0_24, g0_24⟩ := bd_u8 a0_24 b0_24
  have w0_24 : IntKind.wrap .i64 x0_24 = x0_24 := w64_in (by omega) (by omega)
  obtain ⟨l1, g1⟩ := bd_u8 a1 b1
  have w1 : IntKind.wrap .i64 x1 = x1 := w64_in (by omega) (by omega)
  obtain ⟨l2, g2⟩ := bd_u8 a2 b2
  have w2 : IntKind.wrap .i64 x2 = x2 := w64_in (by omega) (by omega)
  have T := sm_TB ⟨l0_0, g0_0⟩ ⟨l0_1, g0_1⟩ ⟨l0_2, g0_2⟩ ⟨l0_3, g0_3⟩ ⟨l0_4, g0_4⟩ ⟨l0_5, g0_5⟩ l0_24 g0_24 ⟨l0_9, g0_9⟩ ⟨l0_10, g0_10⟩ ⟨l0_11, g0_11⟩ (c16 l0_6 g0_6 w0_6) (c16 l0_7 g0_7 w0_7) (c16 l0_8 g0_8 w0_8) (b16 l0_12 g0_12 w0_12) (b16 l0_13 g0_13 w0_13) (b16 l0_14 g0_14 w0_14) (b16 l0_15 g0_15 w0_15) (b16 l0_16 g0_16 w0_16) (b16 l0_17 g0_17 w0_17) (b16 l0_18 g0_18 w0_18) (b16 l0_19 g0_19 w0_19) (b16 l0_20 g0_20 w0_20) (b16 l0_21 g0_21 w0_21) (b16 l0_22 g0_22 w0_22) (b16 l0_23 g0_23 w0_23)
  have t9 := tri9 T
  have hx := px (m := 64) l1 (by omega) (by omega)
  have hy := px (m := 64) l2 (by omega) (by omega)
  have kx := px (m := 24) l1 (by omega) (by omega)
  have ky := px (m := 24) l2 (by omega) (by omega)
  unfold lAt_0 lAt_s1 lAt_s0
  rw [aw13_t, t9]
  rw [check_eq T, sat_5 T hx hy, sat_0 T hx hy, sat_1 T hx hy, sat_2 T hx hy, sat_3 T hx hy, sat_4 T hx hy, rat_5 T hx hy, rat_0 T hx hy, rat_1 T hx hy, rat_2 T hx hy, rat_3 T hx hy, rat_4 T hx hy,
    sat_5 T kx ky, sat_0 T kx ky, sat_1 T kx ky, sat_2 T kx ky, sat_3 T kx ky, sat_4 T kx ky, rat_5 T kx ky, rat_0 T kx ky, rat_1 T kx ky, rat_2 T kx ky, rat_3 T kx ky, rat_4 T kx ky]
  generalize sd _ _ _ _ _ _ = A
  by_cases hA : 0 < A
  · have : ¬ A ≤ 0 := by omega
    simp [hA, this]
  · simp [hA]

theorem SetupAt_obs (x0_0 : Int) (a0_0 : IntKind.min .i8 ≤ x0_0) (b0_0 : x0_0 ≤ IntKind.max .i8) (x0_1 : Int) (a0_1 : IntKind.min .i8 ≤ x0_1) (b0_1 : x0_1 ≤ IntKind.max .i8) (x0_2 : Int) (a0_2 : IntKind.min .i8 ≤ x0_2) (b0_2 : x0_2 ≤ IntKind.max .i8) (x0_3 : Int) (a0_3 : IntKind.min .i8 ≤ x0_3) (b0_3 : x0_3 ≤ IntKind.max .i8) (x0_4 : Int) (a0_4 : IntKind.min .i8 ≤ x0_4) (b0_4 : x0_4 ≤ IntKind.max .i8) (x0_5 : Int) (a0_5 : IntKind.min .i8 ≤ x0_5) (b0_5 : x0_5 ≤ IntKind.max .i8) (x0_6 : Int) (a0_6 : IntKind.min .u16 ≤ x0_6) (b0_6 : x0_6 ≤ IntKind.max .u16) (x0_7 : Int) (a0_7 : IntKind.min .u16 ≤ x0_7) (b0_7 : x0_7 ≤ IntKind.max .u16) (x0_8 : Int) (a0_8 : IntKind.min .u16 ≤ x0_8) (b0_8 : x0_8 ≤ IntKind.max .u16) (x0_9 : Int) (a0_9 : IntKind.min .u16 ≤ x0_9) (b0_9 : x0_9 ≤ IntKind.max .u16) (x0_10 : Int) (a0_10 : IntKind.min .u16 ≤ x0_10) (b0_10 : x0_10 ≤ IntKind.max .u16) (x0_11 : Int) (a0_11 : IntKind.min .u16 ≤ x0_11) (b0_11 : x0_11 ≤ IntKind.max .u16) (x0_12 : Int) (a0_12 : IntKind.min .u16 ≤ x0_12) (b0_12 : x0_12 ≤ IntKind.max .u16) (x0_13 : Int) (a0_13 : IntKind.min .u16 ≤ x0_13) (b0_13 : x0_13 ≤ IntKind.max .u16) (x0_14 : Int) (a0_14 : IntKind.min .u16 ≤ x0_14) (b0_14 : x0_14 ≤ IntKind.max .u16) (x0_15 : Int) (a0_15 : IntKind.min .u16 ≤ x0_15) (b0_15 : x0_15 ≤ IntKind.max .u16) (x0_16 : Int) (a0_16 : IntKind.min .u16 ≤ x0_16) (b0_16 : x0_16 ≤ IntKind.max .u16) (x0_17 : Int) (a0_17 : IntKind.min .u16 ≤ x0_17) (b0_17 : x0_17 ≤ IntKind.max .u16) (x0_18 : Int) (a0_18 : IntKind.min .u16 ≤ x0_18) (b0_18 : x0_18 ≤ IntKind.max .u16) (x0_19 : Int) (a0_19 : IntKind.min .u16 ≤ x0_19) (b0_19 : x0_19 ≤ IntKind.max .u16) (x0_20 : Int) (a0_20 : IntKind.min .u16 ≤ x0_20) (b0_20 : x0_20 ≤ IntKind.max .u16) (x0_21 : Int) (a0_21 : IntKind.min .u16 ≤ x0_21) (b0_21 : x0_21 ≤ IntKind.max .u16) (x0_22 : Int) (a0_22 : IntKind.min .u16 ≤ x0_22) (b0_22 : x0_22 ≤ IntKind.max .u16) (x0_23 : Int) (a0_23 : IntKind.min .u16 ≤ x0_23) (b0_23 : x0_23 ≤ IntKind.max .u16) (x0_24 : Int) (a0_24 : IntKind.min .u8 ≤ x0_24) (b0_24 : x0_24 ≤ IntKind.max .u8) (x1 : Int) (a1 : IntKind.min .u8 ≤ x1) (b1 : x1 ≤ IntKind.max .u8) (x2 : Int) (a2 : IntKind.min .u8 ≤ x2) (b2 : x2 ≤ IntKind.max .u8) : Alls (lAt_o x0_0 x0_1 x0_2 x0_3 x0_4 x0_5 x0_6 x0_7 x0_8 x0_9 x0_10 x0_11 x0_12 x0_13 x0_14 x0_15 x0_16 x0_17 x0_18 x0_19 x0_20 x0_21 x0_22 x0_23 x0_24 x1 x2) := by
  obtain ⟨l0_0, g0_0⟩ := bd_i8 a0_0 b0_0
  have w0_0 : IntKind.wrap .i64 x0_0 = x0_0 := w64_in (by omega) (by omega)
  obtain ⟨l0_1, g0_1⟩ := bd_i8 a0_1 b0_1
  have w0_1 : IntKind.wrap .i64 x0_1 = x0_1 := w64_in (by omega) (by omega)
  obtain ⟨l0_2, g0_2⟩ := bd_i8 a0_2 b0_2
  have w0_2 : IntKind.wrap .i64 x0_2 = x0_2 := w64_in (by omega) (by omega)
  obtain ⟨l0_3, g0_3⟩ := bd_i8 a0_3 b0_3
  have w0_3 : IntKind.wrap .i64 x0_3 = x0_3 := w64_in (by omega) (by omega)
  obtain ⟨l0_4, g0_4⟩ := bd_i8 a0_4 b0_4
  have w0_4 : IntKind.wrap .i64 x0_4 = x0_4 := w64_in (by omega) (by omega)
  obtain ⟨l0_5, g0_5⟩ := bd_i8 a0_5 b0_5
  have w0_5 : IntKind.wrap .i64 x0_5 = x0_5 := w64_in (by omega) (by omega)
  obtain ⟨l0_6, g0_6⟩ := bd_u16 a0_6 b0_6
  have w0_6 : IntKind.wrap .i64 x0_6 = x0_6 := w64_in (by omega) (by omega)
  obtain ⟨l0_7, g0_7⟩ := bd_u16 a0_7 b0_7
  have w0_7 : IntKind.wrap .i64 x0_7 = x0_7 := w64_in (by omega) (by omega)
  obtain ⟨l0_8, g0_8⟩ := bd_u16 a0_8 b0_8
  have w0_8 : IntKind.wrap .i64 x0_8 = x0_8 := w64_in (by omega) (by omega)
  obtain ⟨l0_9, g0_9⟩ := bd_u16 a0_9 b0_9
  have w0_9 : IntKind.wrap .i64 x0_9 = x0_9 := w64_in (by omega) (by omega)
  obtain ⟨l0_10, g0_10⟩ := bd_u16 a0_10 b0_10
  have w0_10 : IntKind.wrap .i64 x0_10 = x0_10 := w64_in (by omega) (by omega)
  obtain ⟨l0_11, g0_11⟩ := bd_u16 a0_11 b0_11
  have w0_11 : IntKind.wrap .i64 x0_11 = x0_11 := w64_in (by omega) (by omega)
  obtain ⟨l0_12, g0_12⟩ := bd_u16 a0_12 b0_12
  have w0_12 : IntKind.wrap .i64 x0_12 = x0_12 := w64_in (by omega) (by omega)
  obtain ⟨l0_13, g0_13⟩ := bd_u16 a0_13 b0_13
  have w0_13 : IntKind.wrap .i64 x0_13 = x0_13 := w64_in (by omega) (by omega)
  obtain ⟨l0_14, g0_14⟩ := bd_u16 a0_14 b0_14
  have w0_14 : IntKind.wrap .i64 x0_14 = x0_14 := w64_in (by omega) (by omega)
  obtain ⟨l0_15, g0_15⟩ := bd_u16 a0_15 b0_15
  have w0_15 : IntKind.wrap .i64 x0_15 = x0_15 := w64_in (by omega) (by omega)
  obtain ⟨l0_16, g0_16⟩ := bd_u16 a0_16 b0_16
  have w0_16 : IntKind.wrap .i64 x0_16 = x0_16 := w64_in (by omega) (by omega)
  obtain ⟨l0_17, g0_17⟩ := bd_u16 a0_17 b0_17
  have w0_17 : IntKind.wrap .i64 x0_17 = x0_17 := w64_in (by omega) (by omega)
  obtain ⟨l0_18, g0_18⟩ := bd_u16 a0_18 b0_18
  have w0_18 : IntKind.wrap .i64 x0_18 = x0_18 := w64_in (by omega) (by omega)
  obtain ⟨l0_19, g0_19⟩ := bd_u16 a0_19 b0_19
  have w0_19 : IntKind.wrap .i64 x0_19 = x0_19 := w64_in (by omega) (by omega)
  obtain ⟨l0_20, g0_20⟩ := bd_u16 a0_20 b0_20
  have w0_20 : IntKind.wrap .i64 x0_20 = x0_20 := w64_in (by omega) (by omega)
  obtain ⟨l0_21, g0_21⟩ := bd_u16 a0_21 b0_21
  have w0_21 : IntKind.wrap .i64 x0_21 = x0_21 := w64_in (by omega) (by omega)
  obtain ⟨l0_22, g0_22⟩ := bd_u16 a0_22 b0_22
  have w0_22 : IntKind.wrap .i64 x0_22 = x0_22 := w64_in (by omega) (by omega)
  obtain ⟨l0_23, g0_23⟩ := bd_u16 a0_23 b0_23
  have w0_23 : IntKind.wrap .i64 x0_23 = x0_23 := w64_in (by omega) (by omega)
  obtain ⟨l0_24, g0_24⟩ := bd_u8 a0_24 b0_24
  have w0_24 : IntKind.wrap .i64 x0_24 = x0_24 := w64_in (by omega) (by omega)
  obtain ⟨l1, g1⟩ := bd_u8 a1 b1
  have w1 : IntKind.wrap .i64 x1 = x1 := w64_in (by omega) (by omega)
  obtain ⟨l2, g2⟩ := bd_u8 a2 b2
  have w2 : IntKind.wrap .i64 x2 = x2 := w64_in (by omega) (by omega)
  have T := sm_TB ⟨l0_0, g0_0⟩ ⟨l0_1, g0_1⟩ ⟨l0_2, g0_2⟩ ⟨l0_3, g0_3⟩ ⟨l0_4, g0_4⟩ ⟨l0_5, g0_5⟩ l0_24 g0_24 ⟨l0_9, g0_9⟩ ⟨l0_10, g0_10⟩ ⟨l0_11, g0_11⟩ (c16 l0_6 g0_6 w0_6) (c16 l0_7 g0_7 w0_7) (c16 l0_8 g0_8 w0_8) (b16 l0_12 g0_12 w0_12) (b16 l0_13 g0_13 w0_13) (b16 l0_14 g0_14 w0_14) (b16 l0_15 g0_15 w0_15) (b16 l0_16 g0_16 w0_16) (b16 l0_17 g0_17 w0_17) (b16 l0_18 g0_18 w0_18) (b16 l0_19 g0_19 w0_19) (b16 l0_20 g0_20 w0_20) (b16 l0_21 g0_21 w0_21) (b16 l0_22 g0_22 w0_22) (b16 l0_23 g0_23 w0_23)
  have hx := px (m := 64) l1 (by omega) (by omega)
  have hy := px (m := 64) l2 (by omega) (by omega)
  have kx := px (m := 24) l1 (by omega) (by omega)
  have ky := px (m := 24) l2 (by omega) (by omega)
  have o1 := rat_obs T hx hy
  have o2 := rat_obs T kx ky
  unfold lAt_o
  simp only [Alls, and_true]
  repeat' apply And.intro
  all_goals (intros; rename_i h; with_reducible first | exact (o1 h).1 | exact (o1 h).2 | exact (o2 h).1 | exact (o2 h).2)

theorem tri_neg {a b c d e f x y : Int} (h : ¬ 0 < sd a b c d e f) : at5 a b c d e f x y = false := by
  unfold at5
  exact decide_eq_false fun hh => h hh.1

theorem out_of {v lo hi : Int} (h1 : lo ≤ v) (h2 : v ≤ hi) : (bif decide (v < lo) then true else decide (hi < v)) = false := by
  rw [decide_eq_false (by omega), decide_eq_false (by omega)]; rfl

theorem SetupBetween_true (x0_0 : Int) (a0_0 : IntKind.min .i8 ≤ x0_0) (b0_0 : x0_0 ≤ IntKind.max .i8) (x0_1 : Int) (a0_1 : IntKind.min .i8 ≤ x0_1) (b0_1 : x0_1 ≤ IntKind.max .i8) (x0_2 : Int) (a0_2 : IntKind.min .i8 ≤ x0_2) (b0_2 : x0_2 ≤ IntKind.max .i8) (x0_3 : Int) (a0_3 : IntKind.min .i8 ≤ x0_3) (b0_3 : x0_3 ≤ IntKind.max .i8) (x0_4 : Int) (a0_4 : IntKind.min .i8 ≤ x0_4) (b0_4 : x0_4 ≤ IntKind.max .i8) (x0_5 : Int) (a0_5 : IntKind.min .i8 ≤ x0_5) (b0_5 : x0_5 ≤ IntKind.max .i8) (x0_6 : Int) (a0_6 : IntKind.min .u16 ≤ x0_6) (b0_6 : x0_6 ≤ IntKind.max .u16) (x0_7 : Int) (a0_7 : IntKind.min .u16 ≤ x0_7) (b0_7 : x0_7 ≤ IntKind.max .u16) (x0_8 : Int) (a0_8 : IntKind.min .u16 ≤ x0_8) (b0_8 : x0_8 ≤ IntKind.max .u16) (x0_9 : Int) (a0_9 : IntKind.min .u16 ≤ x0_9) (b0_9 : x0_9 ≤ IntKind.max .u16) (x0_10 : Int) (a0_10 : IntKind.min .u16 ≤ x0_10) (b0_10 : x0_10 ≤ IntKind.max .u16) (x0_11 : Int) (a0_11 : IntKind.min .u16 ≤ x0_11) (b0_11 : x0_11 ≤ IntKind.max .u16) (x0_12 : Int) (a0_12 : IntKind.min .u16 ≤ x0_12) (b0_12 : x0_12 ≤ IntKind.max .u16) (x0_13 : Int) (a0_13 : IntKind.min .u16 ≤ x0_13) (b0_13 : x0_13 ≤ IntKind.max .u16) (x0_14 : Int) (a0_14 : IntKind.min .u16 ≤ x0_14) (b0_14 : x0_14 ≤ IntKind.max .u16) (x0_15 : Int) (a0_15 : IntKind.min .u16 ≤ x0_15) (b0_15 : x0_15 ≤ IntKind.max .u16) (x0_16 : Int) (a0_16 : IntKind.min .u16 ≤ x0_16) (b0_16 : x0_16 ≤ IntKind.max .u16) (x0_17 : Int) (a0_17 : IntKind.min .u16 ≤ x0_17) (b0_17 : x0_17 ≤ IntKind.max .u16) (x0_18 : Int) (a0_18 : IntKind.min .u16 ≤ x0_18) (b0_18 : x0_18 ≤ IntKind.max .u16) (x0_19 : Int) (a0_19 : IntKind.min .u16 ≤ x0_19) (b0_19 : x0_19 ≤ IntKind.max .u16) (x0_20 : Int) (a0_20 : IntKind.min .u16 ≤ x0_20) (b0_20 : x0_20 ≤ IntKind.max .u16) (x0_21 : Int) (a0_21 : IntKind.min .u16 ≤ x0_21) (b0_21 : x0_21 ≤ IntKind.max .u16) (x0_22 : Int) (a0_22 : IntKind.min .u16 ≤ x0_22) (b0_22 : x0_22 ≤ IntKind.max .u16) (x0_23 : Int) (a0_23 : IntKind.min .u16 ≤ x0_23) (b0_23 : x0_23 ≤ IntKind.max .u16) (x0_24 : Int) (a0_24 : IntKind.min .u8 ≤ x0_24) (b0_24 : x0_24 ≤ IntKind.max .u8) (x1 : Int) (a1 : IntKind.min .u8 ≤ x1) (b1 : x1 ≤ IntKind.max .u8) (x2 : Int) (a2 : IntKind.min .u8 ≤ x2) (b2 : x2 ≤ IntKind.max .u8) : lBetween_0 x0_0 x0_1 x0_2 x0_3 x0_4 x0_5 x0_6 x0_7 x0_8 x0_9 x0_10 x0_11 x0_12 x0_13 x0_14 x0_15 x0_16 x0_17 x0_18 x0_19 x0_20 x0_21 x0_22 x0_23 x0_24 x1 x2 = true := by
  obtain ⟨l0_0, g0_0⟩ := bd_i8 a0_0 b0_0
  have w0_0 : IntKind.wrap .i64 x0_0 = x0_0 := w64_in (by omega) (by omega)
  obtain ⟨l0_1, g0_1⟩ := bd_i8 a0_1 b0_1
  have w0_1 : IntKind.wrap .i64 x0_1 = x0_1 := w64_in (by omega) (by omega)
  obtain ⟨l0_2, g0_2⟩ := bd_i8 a0_2 b0_2
  have w0_2 : IntKind.wrap .i64 x0_2 = x0_2 := w64_in (by omega) (by omega)
  obtain ⟨l0_3, g0_3⟩ := bd_i8 a0_3 b0_3
  have w0_3 : IntKind.wrap .i64 x0_3 = x0_3 := w64_in (by omega) (by omega)
  obtain ⟨l0_4, g0_4⟩ := bd_i8 a0_4 b0_4
  have w0_4 : IntKind.wrap .i64 x0_4 = x0_4 := w64_in (by omega) (by omega)
  obtain ⟨l0_5, g0_5⟩ := bd_i8 a0_5 b0_5
  have w0_5 : IntKind.wrap .i64 x0_5 = x0_5 := w64_in (by omega) (by omega)
  obtain ⟨l0_6, g0_6⟩ := bd_u16 a0_6 b0_6
  have w0_6 : IntKind.wrap .i64 x0_6 = x0_6 := w64_in (by omega) (by omega)
  obtain ⟨l0_7, g0_7⟩ := bd_u16 a0_7 b0_7
  have w0_7 : IntKind.wrap .i64 x0_7 = x0_7 := w64_in (by omega) (by omega)
  obtain ⟨l0_8, g0_8⟩ := bd_u16 a0_8 b0_8
  have w0_8 : IntKind.wrap .i64 x0_8 = x0_8 := w64_in (by omega) (by omega)
  obtain ⟨l0_9, g0_9⟩ := bd_u16 a0_9 b0_9
  have w0_9 : IntKind.wrap .i64 x0_9 = x0_9 := w64_in (by omega) (by omega)
  obtain ⟨l0_10, g0_10⟩ := bd_u16 a0_10 b0_10
  have w0_10 : IntKind.wrap .i64 x0_10 = x0_10 := w64_in (by omega) (by omega)
  obtain ⟨l0_11, g0_11⟩ := bd_u16 a0_11 b0_11
  have w0_11 : IntKind.wrap .i64 x0_11 = x0_11 := w64_in (by omega) (by omega)
  obtain ⟨l0_12, g0_12⟩ := bd_u16 a0_12 b0_12
  have w0_12 : IntKind.wrap .i64 x0_12 = x0_12 := w64_in (by omega) (by omega)
  obtain ⟨l0_13, g0_13⟩ := bd_u16 a0_13 b0_13
  have w0_13 : IntKind.wrap .i64 x0_13 = x0_13 := w64_in (by omega) (by omega)
  obtain ⟨l0_14, g0_14⟩ := bd_u16 a0_14 b0_14
  have w0_14 : IntKind.wrap .i64 x0_14 = x0_14 := w64_in (by omega) (by omega)
  obtain ⟨l0_15, g0_15⟩ := bd_u16 a0_15 b0_15
  have w0_15 : IntKind.wrap .i64 x0_15 = x0_15 := w64_in (by omega) (by omega)
  obtain ⟨l0_16, g0_16⟩ := bd_u16 a0_16 b0_16
  have w0_16 : IntKind.wrap .i64 x0_16 = x0_16 := w64_in (by omega) (by omega)
  obtain ⟨l0_17, g0_17⟩ := bd_u16 a0_17 b0_17
  have w0_17 : IntKind.wrap .i64 x0_17 = x0_17 := w64_in (by omega) (by omega)
  obtain ⟨l0_18, g0_18⟩ := bd_u16 a0_18 b0_18
  have w0_18 : IntKind.wrap .i64 x0_18 = x0_18 := w64_in (by omega) (by omega)
  obtain ⟨l0_19, g0_19⟩ := bd_u16 a0_19 b0_19
  have w0_19 : IntKind.wrap .i64 x0_19 = x0_19 := w64_in (by omega) (by omega)
  obtain ⟨l0_20, g0_20⟩ := bd_u16 a0_20 b0_20
  have w0_20 : IntKind.wrap .i64 x0_20 = x0_20 := w64_in (by omega) (by omega)
  obtain ⟨l0_21, g0_21⟩ := bd_u16 a0_21 b0_21
  have w0_21 : IntKind.wrap .i64 x0_21 = x0_21 := w64_in (by omega) (by omega)
  obtain ⟨l0_22, g0_22⟩ := bd_u16 a0_22 b0_22
  have w0_22 : IntKind.wrap .i64 x0_22 = x0_22 := w64_in (by omega) (by omega)
  obtain ⟨l0_23, g0_23⟩ := bd_u16 a0_23 b0_23
  have w0_23 : IntKind.wrap .i64 x0_23 = x0_23 := w64_in (by omega) (by omega)
  obtain ⟨l0_24, g0_24⟩ := bd_u8 a0_24 b0_24
  have w0_24 : IntKind.wrap .i64 x0_24 = x0_24 := w64_in (by omega) (by omega)
  obtain ⟨l1, g1⟩ := bd_u8 a1 b1
  have w1 : IntKind.wrap .i64 x1 = x1 := w64_in (by omega) (by omega)
  obtain ⟨l2, g2⟩ := bd_u8 a2 b2
  have w2 : IntKind.wrap .i64 x2 = x2 := w64_in (by omega) (by omega)
  have T := sm_TB ⟨l0_0, g0_0⟩ ⟨l0_1, g0_1⟩ ⟨l0_2, g0_2⟩ ⟨l0_3, g0_3⟩ ⟨l0_4, g0_4⟩ ⟨l0_5, g0_5⟩ l0_24 g0_24 ⟨l0_9, g0_9⟩ ⟨l0_10, g0_10⟩ ⟨l0_11, g0_11⟩ (c16 l0_6 g0_6 w0_6) (c16 l0_7 g0_7 w0_7) (c16 l0_8 g0_8 w0_8) (b16 l0_12 g0_12 w0_12) (b16 l0_13 g0_13 w0_13) (b16 l0_14 g0_14 w0_14) (b16 l0_15 g0_15 w0_15) (b16 l0_16 g0_16 w0_16) (b16 l0_17 g0_17 w0_17) (b16 l0_18 g0_18 w0_18) (b16 l0_19 g0_19 w0_19) (b16 l0_20 g0_20 w0_20) (b16 l0_21 g0_21 w0_21) (b16 l0_22 g0_22 w0_22) (b16 l0_23 g0_23 w0_23)
  have t9 := tri9 T
  have hx := px (m := 32) l1 (by omega) (by omega)
  have hy := px (m := 32) l2 (by omega) (by omega)
  unfold lBetween_0 lBetween_s0
  rw [aw13_t, t9, sat_5 T hx hy]
  cases h5 : at5 (sm13Tri_0 x0_0 x0_1 x0_2 x0_3 x0_4 x0_5 x0_24) (sm13Tri_1 x0_0 x0_1 x0_2 x0_3 x0_4 x0_5 x0_24) (sm13Tri_2 x0_0 x0_1 x0_2 x0_3 x0_4 x0_5 x0_24) (sm13Tri_3 x0_0 x0_1 x0_2 x0_3 x0_4 x0_5 x0_24) (sm13Tri_4 x0_0 x0_1 x0_2 x0_3 x0_4 x0_5 x0_24) (sm13Tri_5 x0_0 x0_1 x0_2 x0_3 x0_4 x0_5 x0_24) (IntKind.wrap .i64 (Int.tmod x1 32)) (IntKind.wrap .i64 (Int.tmod x2 32))
  · generalize decide (0 < sd _ _ _ _ _ _) = A
    cases A <;> rfl
  · obtain ⟨p0, _, p1, _, p2, _, _, ps⟩ := at_w T hx hy h5
    obtain ⟨m0, m1, m2, ms⟩ := at_n T hx hy h5
    have hA : 0 < sd (sm13Tri_0 x0_0 x0_1 x0_2 x0_3 x0_4 x0_5 x0_24) (sm13Tri_1 x0_0 x0_1 x0_2 x0_3 x0_4 x0_5 x0_24) (sm13Tri_2 x0_0 x0_1 x0_2 x0_3 x0_4 x0_5 x0_24) (sm13Tri_3 x0_0 x0_1 x0_2 x0_3 x0_4 x0_5 x0_24) (sm13Tri_4 x0_0 x0_1 x0_2 x0_3 x0_4 x0_5 x0_24) (sm13Tri_5 x0_0 x0_1 x0_2 x0_3 x0_4 x0_5 x0_24) := (of_decide_eq_true h5).1
    have B : ∀ k0 k1 k2 v lo hi : Int, v = wav (u0 (sm13Tri_2 x0_0 x0_1 x0_2 x0_3 x0_4 x0_5 x0_24) (sm13Tri_3 x0_0 x0_1 x0_2 x0_3 x0_4 x0_5 x0_24) (sm13Tri_4 x0_0 x0_1 x0_2 x0_3 x0_4 x0_5 x0_24) (sm13Tri_5 x0_0 x0_1 x0_2 x0_3 x0_4 x0_5 x0_24) (IntKind.wrap .i64 (Int.tmod x1 32)) (IntKind.wrap .i64 (Int.tmod x2 32)) * sm13Tri_6 x0_9) (u0 (sm13Tri_4 x0_0 x0_1 x0_2 x0_3 x0_4 x0_5 x0_24) (sm13Tri_5 x0_0 x0_1 x0_2 x0_3 x0_4 x0_5 x0_24) (sm13Tri_0 x0_0 x0_1 x0_2 x0_3 x0_4 x0_5 x0_24) (sm13Tri_1 x0_0 x0_1 x0_2 x0_3 x0_4 x0_5 x0_24) (IntKind.wrap .i64 (Int.tmod x1 32)) (IntKind.wrap .i64 (Int.tmod x2 32)) * sm13Tri_7 x0_10)
        (u0 (sm13Tri_0 x0_0 x0_1 x0_2 x0_3 x0_4 x0_5 x0_24) (sm13Tri_1 x0_0 x0_1 x0_2 x0_3 x0_4 x0_5 x0_24) (sm13Tri_2 x0_0 x0_1 x0_2 x0_3 x0_4 x0_5 x0_24) (sm13Tri_3 x0_0 x0_1 x0_2 x0_3 x0_4 x0_5 x0_24) (IntKind.wrap .i64 (Int.tmod x1 32)) (IntKind.wrap .i64 (Int.tmod x2 32)) * sm13Tri_8 x0_11) k0 k1 k2 → lo ≤ k0 → lo ≤ k1 → lo ≤ k2 → k0 ≤ hi → k1 ≤ hi → k2 ≤ hi → lo ≤ v ∧ v ≤ hi := fun k0 k1 k2 v lo hi hv a0 a1 a2 b0 b1 b2 => by
      rw [hv]
      exact ⟨wav_ge m0.1 m1.1 m2.1 ms a0 a1 a2, wav_le m0.1 m1.1 m2.1 ms b0 b1 b2⟩
    have e1 : lBetween_s6 x0_0 x0_1 x0_2 x0_3 x0_4 x0_5 x0_6 x0_7 x0_8 x0_9 x0_10 x0_11 x0_12 x0_13 x0_14 x0_15 x0_16 x0_17 x0_18 x0_19 x0_20 x0_21 x0_22 x0_23 x0_24 x1 x2 = false := by
      unfold lBetween_s6 lBetween_s1 lBetween_s3 lBetween_s2 lBetween_s4
      have b := B (IntKind.wrap .i64 x0_12) (IntKind.wrap .i64 x0_16) (IntKind.wrap .i64 x0_20) _ (lBetween_s3 x0_12 x0_16 x0_20) (if lBetween_s4 x0_12 x0_16 < IntKind.wrap .i64 x0_20 then IntKind.wrap .i64 x0_20 else lBetween_s4 x0_12 x0_16) ((sat_1 T hx hy).trans (by unfold atk; rw [h5]; rfl))
        (by unfold lBetween_s3 lBetween_s2; split <;> split <;> omega) (by unfold lBetween_s3 lBetween_s2; split <;> split <;> omega) (by unfold lBetween_s3 lBetween_s2; split <;> split <;> omega) (by unfold lBetween_s4; split <;> split <;> omega) (by unfold lBetween_s4; split <;> split <;> omega) (by unfold lBetween_s4; split <;> split <;> omega)
      exact out_of b.1 b.2
    have e2 : lBetween_s12 x0_0 x0_1 x0_2 x0_3 x0_4 x0_5 x0_6 x0_7 x0_8 x0_9 x0_10 x0_11 x0_12 x0_13 x0_14 x0_15 x0_16 x0_17 x0_18 x0_19 x0_20 x0_21 x0_22 x0_23 x0_24 x1 x2 = false := by
      unfold lBetween_s12 lBetween_s7
      have b := B (IntKind.wrap .i64 x0_13) (IntKind.wrap .i64 x0_17) (IntKind.wrap .i64 x0_21) _ (lBetween_s9 x0_13 x0_17 x0_21) (if lBetween_s10 x0_13 x0_17 < IntKind.wrap .i64 x0_21 then IntKind.wrap .i64 x0_21 else lBetween_s10 x0_13 x0_17) ((sat_2 T hx hy).trans (by unfold atk; rw [h5]; rfl))
        (by unfold lBetween_s9 lBetween_s8; split <;> split <;> omega) (by unfold lBetween_s9 lBetween_s8; split <;> split <;> omega) (by unfold lBetween_s9 lBetween_s8; split <;> split <;> omega) (by unfold lBetween_s10; split <;> split <;> omega) (by unfold lBetween_s10; split <;> split <;> omega) (by unfold lBetween_s10; split <;> split <;> omega)
      exact out_of b.1 b.2
    have e3 : lBetween_s18 x0_0 x0_1 x0_2 x0_3 x0_4 x0_5 x0_6 x0_7 x0_8 x0_9 x0_10 x0_11 x0_12 x0_13 x0_14 x0_15 x0_16 x0_17 x0_18 x0_19 x0_20 x0_21 x0_22 x0_23 x0_24 x1 x2 = false := by
      unfold lBetween_s18 lBetween_s13
      have b := B (IntKind.wrap .i64 x0_14) (IntKind.wrap .i64 x0_18) (IntKind.wrap .i64 x0_22) _ (lBetween_s15 x0_14 x0_18 x0_22) (if lBetween_s16 x0_14 x0_18 < IntKind.wrap .i64 x0_22 then IntKind.wrap .i64 x0_22 else lBetween_s16 x0_14 x0_18) ((sat_3 T hx hy).trans (by unfold atk; rw [h5]; rfl))
        (by unfold lBetween_s15 lBetween_s14; split <;> split <;> omega) (by unfold lBetween_s15 lBetween_s14; split <;> split <;> omega) (by unfold lBetween_s15 lBetween_s14; split <;> split <;> omega) (by unfold lBetween_s16; split <;> split <;> omega) (by unfold lBetween_s16; split <;> split <;> omega) (by unfold lBetween_s16; split <;> split <;> omega)
      exact out_of b.1 b.2
    have b4 := B (IntKind.wrap .i64 x0_15) (IntKind.wrap .i64 x0_19) (IntKind.wrap .i64 x0_23) (lBetween_s19 x0_0 x0_1 x0_2 x0_3 x0_4 x0_5 x0_6 x0_7 x0_8 x0_9 x0_10 x0_11 x0_12 x0_13 x0_14 x0_15 x0_16 x0_17 x0_18 x0_19 x0_20 x0_21 x0_22 x0_23 x0_24 x1 x2) (lBetween_s21 x0_15 x0_19 x0_23) (if lBetween_s22 x0_15 x0_19 < IntKind.wrap .i64 x0_23 then IntKind.wrap .i64 x0_23 else lBetween_s22 x0_15 x0_19) ((sat_4 T hx hy).trans (by unfold atk; rw [h5]; rfl))
        (by unfold lBetween_s21 lBetween_s20; split <;> split <;> omega) (by unfold lBetween_s21 lBetween_s20; split <;> split <;> omega) (by unfold lBetween_s21 lBetween_s20; split <;> split <;> omega) (by unfold lBetween_s22; split <;> split <;> omega) (by unfold lBetween_s22; split <;> split <;> omega) (by unfold lBetween_s22; split <;> split <;> omega)
    have hz : lBetween_s26 x0_0 x0_1 x0_2 x0_3 x0_4 x0_5 x0_6 x0_7 x0_8 x0_9 x0_10 x0_11 x0_12 x0_13 x0_14 x0_15 x0_16 x0_17 x0_18 x0_19 x0_20 x0_21 x0_22 x0_23 x0_24 x1 x2 = _ := (sat_0 T hx hy).trans (by unfold at0; rw [h5])
    have z1 : lBetween_s25 x0_6 x0_7 x0_8 ≤ lBetween_s26 x0_0 x0_1 x0_2 x0_3 x0_4 x0_5 x0_6 x0_7 x0_8 x0_9 x0_10 x0_11 x0_12 x0_13 x0_14 x0_15 x0_16 x0_17 x0_18 x0_19 x0_20 x0_21 x0_22 x0_23 x0_24 x1 x2 := by
      rw [hz]
      exact wav_ge p0 p1 p2 ps (by unfold lBetween_s25 lBetween_s24; split <;> split <;> omega) (by unfold lBetween_s25 lBetween_s24; split <;> split <;> omega) (by unfold lBetween_s25 lBetween_s24; split <;> split <;> omega)
    have z2 : lBetween_s26 x0_0 x0_1 x0_2 x0_3 x0_4 x0_5 x0_6 x0_7 x0_8 x0_9 x0_10 x0_11 x0_12 x0_13 x0_14 x0_15 x0_16 x0_17 x0_18 x0_19 x0_20 x0_21 x0_22 x0_23 x0_24 x1 x2 ≤ if lBetween_s27 x0_6 x0_7 < IntKind.wrap .i64 x0_8 then IntKind.wrap .i64 x0_8 else lBetween_s27 x0_6 x0_7 := by
      rw [hz]
      exact wav_le p0 p1 p2 ps (by unfold lBetween_s27; split <;> split <;> omega) (by unfold lBetween_s27; split <;> split <;> omega) (by unfold lBetween_s27; split <;> split <;> omega)
    rw [e1, e2, e3, out_of b4.1 b4.2, decide_eq_true z1, decide_eq_true z2, decide_eq_true hA]
    rfl

theorem SetupFlat_true (x0_0 : Int) (a0_0 : IntKind.min .i8 ≤ x0_0) (b0_0 : x0_0 ≤ IntKind.max .i8) (x0_1 : Int) (a0_1 : IntKind.min .i8 ≤ x0_1) (b0_1 : x0_1 ≤ IntKind.max .i8) (x0_2 : Int) (a0_2 : IntKind.min .i8 ≤ x0_2) (b0_2 : x0_2 ≤ IntKind.max .i8) (x0_3 : Int) (a0_3 : IntKind.min .i8 ≤ x0_3) (b0_3 : x0_3 ≤ IntKind.max .i8) (x0_4 : Int) (a0_4 : IntKind.min .i8 ≤ x0_4) (b0_4 : x0_4 ≤ IntKind.max .i8) (x0_5 : Int) (a0_5 : IntKind.min .i8 ≤ x0_5) (b0_5 : x0_5 ≤ IntKind.max .i8) (x0_6 : Int) (a0_6 : IntKind.min .u16 ≤ x0_6) (b0_6 : x0_6 ≤ IntKind.max .u16) (x0_7 : Int) (a0_7 : IntKind.min .u16 ≤ x0_7) (b0_7 : x0_7 ≤ IntKind.max .u16) (x0_8 : Int) (a0_8 : IntKind.min .u16 ≤ x0_8) (b0_8 : x0_8 ≤ IntKind.max .u16) (x0_9 : Int) (a0_9 : IntKind.min .u16 ≤ x0_9) (b0_9 : x0_9 ≤ IntKind.max .u16) (x0_10 : Int) (a0_10 : IntKind.min .u16 ≤ x0_10) (b0_10 : x0_10 ≤ IntKind.max .u16) (x0_11 : Int) (a0_11 : IntKind.min .u16 ≤ x0_11) (b0_11 : x0_11 ≤ IntKind.max .u16) (x0_12 : Int) (a0_12 : IntKind.min .u16 ≤ x0_12) (b0_12 : x0_12 ≤ IntKind.max .u16) (x0_13 : Int) (a0_13 : IntKind.min .u16 ≤ x0_13) (b0_13 : x0_13 ≤ IntKind.max .u16) (x0_14 : Int) (a0_14 : IntKind.min .u16 ≤ x0_14) (b0_14 : x0_14 ≤ IntKind.max .u16) (x0_15 : Int) (a0_15 : IntKind.min .u16 ≤ x0_15) (b0_15 : x0_15 ≤ IntKind.max .u16) (x0_16 : Int) (a0_16 : IntKind.min .u16 ≤ x0_16) (b0_16 : x0_16 ≤ IntKind.max .u16) (x0_17 : Int) (a0_17 : IntKind.min .u16 ≤ x0_17) (b0_17 : x0_17 ≤ IntKind.max .u16) (x0_18 : Int) (a0_18 : IntKind.min .u16 ≤ x0_18) (b0_18 : x0_18 ≤ IntKind.max .u16) (x0_19 : Int) (a0_19 : IntKind.min .u16 ≤ x0_19) (b0_19 : x0_19 ≤ IntKind.max .u16) (x0_20 : Int) (a0_20 : IntKind.min .u16 ≤ x0_20) (b0_20 : x0_20 ≤ IntKind.max .u16) (x0_21 : Int) (a0_21 : IntKind.min .u16 ≤ x0_21) (b0_21 : x0_21 ≤ IntKind.max .u16) (x0_22 : Int) (a0_22 : IntKind.min .u16 ≤ x0_22) (b0_22 : x0_22 ≤ IntKind.max .u16) (x0_23 : Int) (a0_23 : IntKind.min .u16 ≤ x0_23) (b0_23 : x0_23 ≤ IntKind.max .u16) (x0_24 : Int) (a0_24 : IntKind.min .u8 ≤ x0_24) (b0_24 : x0_24 ≤ IntKind.max .u8) (x1_0 : Int) (a1_0 : IntKind.min .u16 ≤ x1_0) (b1_0 : x1_0 ≤ IntKind.max .u16) (x1_1 : Int) (a1_1 : IntKind.min .u16 ≤ x1_1) (b1_1 : x1_1 ≤ IntKind.max .u16) (x1_2 : Int) (a1_2 : IntKind.min .u16 ≤ x1_2) (b1_2 : x1_2 ≤ IntKind.max .u16) (x1_3 : Int) (a1_3 : IntKind.min .u16 ≤ x1_3) (b1_3 : x1_3 ≤ IntKind.max .u16) (x2 : Int) (a2 : IntKind.min .u8 ≤ x2) (b2 : x2 ≤ IntKind.max .u8) (x3 : Int) (a3 : IntKind.min .u8 ≤ x3) (b3 : x3 ≤ IntKind.max .u8) : lFlat_0 x0_0 x0_1 x0_2 x0_3 x0_4 x0_5 x0_6 x0_7 x0_8 x0_9 x0_10 x0_11 x0_12 x0_13 x0_14 x0_15 x0_16 x0_17 x0_18 x0_19 x0_20 x0_21 x0_22 x0_23 x0_24 x1_0 x1_1 x1_2 x1_3 x2 x3 = true := by
  obtain ⟨l0_0, g0_0⟩ := bd_i8 a0_0 b0_0
  have w0_0 : IntKind.wrap .i64 x0_0 = x0_0 := w64_in (by omega) (by omega)
  obtain ⟨l0_1, g0_1⟩ := bd_i8 a0_1 b0_1
  have w0_1 : IntKind.wrap .i64 x0_1 = x0_1 := w64_in (by omega) (by omega)
  obtain ⟨l0_2, g0_2⟩ := bd_i8 a0_2 b0_2
  have w0_2 : IntKind.wrap .i64 x0_2 = x0_2 := w64_in (by omega) (by omega)
  obtain ⟨l0_3, g0_3⟩ := bd_i8 a0_3 b0_3
  have w0_3 : IntKind.wrap .i64 x0_3 = x0_3 := w64_in (by omega) (by omega)
  obtain ⟨l0_4, g0_4⟩ := bd_i8 a0_4 b0_4
  have w0_4 : IntKind.wrap .i64 x0_4 = x0_4 := w64_in (by omega) (by omega)
  obtain ⟨l0_5, g0_5⟩ := bd_i8 a0_5 b0_5
  have w0_5 : IntKind.wrap .i64 x0_5 = x0_5 := w64_in (by omega) (by omega)
  obtain ⟨l0_6, g0_6⟩ := bd_u16 a0_6 b0_6
  have w0_6 : IntKind.wrap .i64 x0_6 = x0_6 := w64_in (by omega) (by omega)
  obtain ⟨l0_7, g0_7⟩ := bd_u16 a0_7 b0_7
  have w0_7 : IntKind.wrap .i64 x0_7 = x0_7 := w64_in (by omega) (by omega)
  obtain ⟨l0_8, g0_8⟩ := bd_u16 a0_8 b0_8
  have w0_8 : IntKind.wrap .i64 x0_8 = x0_8 := w64_in (by omega) (by omega)
  obtain ⟨l0_9, g0_9⟩ := bd_u16 a0_9 b0_9
  have w0_9 : IntKind.wrap .i64 x0_9 = x0_9 := w64_in (by omega) (by omega)
  obtain ⟨l0_10, g0_10⟩ := bd_u16 a0_10 b0_10
  have w0_10 : IntKind.wrap .i64 x0_10 = x0_10 := w64_in (by omega) (by omega)
  obtain ⟨l0_11, g0_11⟩ := bd_u16 a0_11 b0_11
  have w0_11 : IntKind.wrap .i64 x0_11 = x0_11 := w64_in (by omega) (by omega)
  obtain ⟨l0_12, g0_12⟩ := bd_u16 a0_12 b0_12
  have w0_12 : IntKind.wrap .i64 x0_12 = x0_12 := w64_in (by omega) (by omega)
  obtain ⟨l0_13, g0_13⟩ := bd_u16 a0_13 b0_13
  have w0_13 : IntKind.wrap .i64 x0_13 = x0_13 := w64_in (by omega) (by omega)
  obtain ⟨l0_14, g0_14⟩ := bd_u16 a0_14 b0_14
  have w0_14 : IntKind.wrap .i64 x0_14 = x0_14 := w64_in (by omega) (by omega)
  obtain ⟨l0_15, g0_15⟩ := bd_u16 a0_15 b0_15
  have w0_15 : IntKind.wrap .i64 x0_15 = x0_15 := w64_in (by omega) (by omega)
  obtain ⟨l0_16, g0_16⟩ := bd_u16 a0_16 b0_16
  have w0_16 : IntKind.wrap .i64 x0_16 = x0_16 := w64_in (by omega) (by omega)
  obtain ⟨l0_17, g0_17⟩ := bd_u16 a0_17 b0_17
  have w0_17 : IntKind.wrap .i64 x0_17 = x0_17 := w64_in (by omega) (by omega)
  obtain ⟨l0_18, g0_18⟩ := bd_u16 a0_18 b0_18
  have w0_18 : IntKind.wrap .i64 x0_18 = x0_18 := w64_in (by omega) (by omega)
  obtain ⟨l0_19, g0_19⟩ := bd_u16 a0_19 b0_19
  have w0_19 : IntKind.wrap .i64 x0_19 = x0_19 := w64_in (by omega) (by omega)
  obtain ⟨l0_20, g0_20⟩ := bd_u16 a0_20 b0_20
  have w0_20 : IntKind.wrap .i64 x0_20 = x0_20 := w64_in (by omega) (by omega)
  obtain ⟨l0_21, g0_21⟩ := bd_u16 a0_21 b0_21
  have w0_21 : IntKind.wrap .i64 x0_21 = x0_21 := w64_in (by omega) (by omega)
  obtain ⟨l0_22, g0_22⟩ := bd_u16 a0_22 b0_22
  have w0_22 : IntKind.wrap .i64 x0_22 = x0_22 := w64_in (by omega) (by omega)
  obtain ⟨l0_23, g0_23⟩ := bd_u16 a0_23 b0_23
  have w0_23 : IntKind.wrap .i64 x0_23 = x0_23 := w64_in (by omega) (by omega)
  obtain ⟨l0_24, g0_24⟩ := bd_u8 a0_24 b0_24
  have w0_24 : IntKind.wrap .i64 x0_24 = x0_24 := w64_in (by omega) (by omega)
  obtain ⟨l1_0, g1_0⟩ := bd_u16 a1_0 b1_0
  have w1_0 : IntKind.wrap .i64 x1_0 = x1_0 := w64_in (by omega) (by omega)
  obtain ⟨l1_1, g1_1⟩ := bd_u16 a1_1 b1_1
  have w1_1 : IntKind.wrap .i64 x1_1 = x1_1 := w64_in (by omega) (by omega)
  obtain ⟨l1_2, g1_2⟩ := bd_u16 a1_2 b1_2
  have w1_2 : IntKind.wrap .i64 x1_2 = x1_2 := w64_in (by omega) (by omega)
  obtain ⟨l1_3, g1_3⟩ := bd_u16 a1_3 b1_3
  have w1_3 : IntKind.wrap .i64 x1_3 = x1_3 := w64_in (by omega) (by omega)
  obtain ⟨l2, g2⟩ := bd_u8 a2 b2
  have w2 : IntKind.wrap .i64 x2 = x2 := w64_in (by omega) (by omega)
  obtain ⟨l3, g3⟩ := bd_u8 a3 b3
  have w3 : IntKind.wrap .i64 x3 = x3 := w64_in (by omega) (by omega)
  have T := sm_TB ⟨l0_0, g0_0⟩ ⟨l0_1, g0_1⟩ ⟨l0_2, g0_2⟩ ⟨l0_3, g0_3⟩ ⟨l0_4, g0_4⟩ ⟨l0_5, g0_5⟩ l0_24 g0_24 ⟨l0_9, g0_9⟩ ⟨l0_10, g0_10⟩ ⟨l0_11, g0_11⟩ (c16 l0_6 g0_6 w0_6) (c16 l0_7 g0_7 w0_7) (c16 l0_8 g0_8 w0_8) (b16 l0_12 g0_12 w0_12) (b16 l0_13 g0_13 w0_13) (b16 l0_14 g0_14 w0_14) (b16 l0_15 g0_15 w0_15) (b16 l0_16 g0_16 w0_16) (b16 l0_17 g0_17 w0_17) (b16 l0_18 g0_18 w0_18) (b16 l0_19 g0_19 w0_19) (b16 l0_20 g0_20 w0_20) (b16 l0_21 g0_21 w0_21) (b16 l0_22 g0_22 w0_22) (b16 l0_23 g0_23 w0_23)
  have F := sm_TB ⟨l0_0, g0_0⟩ ⟨l0_1, g0_1⟩ ⟨l0_2, g0_2⟩ ⟨l0_3, g0_3⟩ ⟨l0_4, g0_4⟩ ⟨l0_5, g0_5⟩ l0_24 g0_24 ⟨l0_9, g0_9⟩ ⟨l0_10, g0_10⟩ ⟨l0_11, g0_11⟩ (c16 l0_6 g0_6 w0_6) (c16 l0_6 g0_6 w0_6) (c16 l0_6 g0_6 w0_6) (b16 l1_0 g1_0 w1_0) (b16 l1_1 g1_1 w1_1) (b16 l1_2 g1_2 w1_2) (b16 l1_3 g1_3 w1_3) (b16 l1_0 g1_0 w1_0) (b16 l1_1 g1_1 w1_1) (b16 l1_2 g1_2 w1_2) (b16 l1_3 g1_3 w1_3) (b16 l1_0 g1_0 w1_0) (b16 l1_1 g1_1 w1_1) (b16 l1_2 g1_2 w1_2) (b16 l1_3 g1_3 w1_3)
  have U := T.rot
  have t9 := tri9 T
  have hx := px (m := 40) l2 (by omega) (by omega)
  have hy := px (m := 40) l3 (by omega) (by omega)
  unfold lFlat_0 lFlat_s0 lFlat_s1
  rw [aw13_t, t9, sat_5 T hx hy, sat_5 F hx hy, sat_5 U hx hy, sat_0 T hx hy, sat_1 T hx hy, sat_2 T hx hy, sat_3 T hx hy, sat_4 T hx hy, sat_0 F hx hy, sat_1 F hx hy, sat_2 F hx hy, sat_3 F hx hy, sat_4 F hx hy, sat_0 U hx hy, sat_1 U hx hy, sat_2 U hx hy, sat_3 U hx hy, sat_4 U hx hy,
    at5_rot (sm13Tri_0 x0_0 x0_1 x0_2 x0_3 x0_4 x0_5 x0_24) (sm13Tri_1 x0_0 x0_1 x0_2 x0_3 x0_4 x0_5 x0_24) (sm13Tri_2 x0_0 x0_1 x0_2 x0_3 x0_4 x0_5 x0_24) (sm13Tri_3 x0_0 x0_1 x0_2 x0_3 x0_4 x0_5 x0_24) (sm13Tri_4 x0_0 x0_1 x0_2 x0_3 x0_4 x0_5 x0_24) (sm13Tri_5 x0_0 x0_1 x0_2 x0_3 x0_4 x0_5 x0_24), at0_rot (sm13Tri_0 x0_0 x0_1 x0_2 x0_3 x0_4 x0_5 x0_24) (sm13Tri_1 x0_0 x0_1 x0_2 x0_3 x0_4 x0_5 x0_24) (sm13Tri_2 x0_0 x0_1 x0_2 x0_3 x0_4 x0_5 x0_24) (sm13Tri_3 x0_0 x0_1 x0_2 x0_3 x0_4 x0_5 x0_24) (sm13Tri_4 x0_0 x0_1 x0_2 x0_3 x0_4 x0_5 x0_24) (sm13Tri_5 x0_0 x0_1 x0_2 x0_3 x0_4 x0_5 x0_24), atk_rot (sm13Tri_0 x0_0 x0_1 x0_2 x0_3 x0_4 x0_5 x0_24) (sm13Tri_1 x0_0 x0_1 x0_2 x0_3 x0_4 x0_5 x0_24) (sm13Tri_2 x0_0 x0_1 x0_2 x0_3 x0_4 x0_5 x0_24) (sm13Tri_3 x0_0 x0_1 x0_2 x0_3 x0_4 x0_5 x0_24) (sm13Tri_4 x0_0 x0_1 x0_2 x0_3 x0_4 x0_5 x0_24) (sm13Tri_5 x0_0 x0_1 x0_2 x0_3 x0_4 x0_5 x0_24), atk_rot (sm13Tri_0 x0_0 x0_1 x0_2 x0_3 x0_4 x0_5 x0_24) (sm13Tri_1 x0_0 x0_1 x0_2 x0_3 x0_4 x0_5 x0_24) (sm13Tri_2 x0_0 x0_1 x0_2 x0_3 x0_4 x0_5 x0_24) (sm13Tri_3 x0_0 x0_1 x0_2 x0_3 x0_4 x0_5 x0_24) (sm13Tri_4 x0_0 x0_1 x0_2 x0_3 x0_4 x0_5 x0_24) (sm13Tri_5 x0_0 x0_1 x0_2 x0_3 x0_4 x0_5 x0_24), atk_rot (sm13Tri_0 x0_0 x0_1 x0_2 x0_3 x0_4 x0_5 x0_24) (sm13Tri_1 x0_0 x0_1 x0_2 x0_3 x0_4 x0_5 x0_24) (sm13Tri_2 x0_0 x0_1 x0_2 x0_3 x0_4 x0_5 x0_24) (sm13Tri_3 x0_0 x0_1 x0_2 x0_3 x0_4 x0_5 x0_24) (sm13Tri_4 x0_0 x0_1 x0_2 x0_3 x0_4 x0_5 x0_24) (sm13Tri_5 x0_0 x0_1 x0_2 x0_3 x0_4 x0_5 x0_24), atk_rot (sm13Tri_0 x0_0 x0_1 x0_2 x0_3 x0_4 x0_5 x0_24) (sm13Tri_1 x0_0 x0_1 x0_2 x0_3 x0_4 x0_5 x0_24) (sm13Tri_2 x0_0 x0_1 x0_2 x0_3 x0_4 x0_5 x0_24) (sm13Tri_3 x0_0 x0_1 x0_2 x0_3 x0_4 x0_5 x0_24) (sm13Tri_4 x0_0 x0_1 x0_2 x0_3 x0_4 x0_5 x0_24) (sm13Tri_5 x0_0 x0_1 x0_2 x0_3 x0_4 x0_5 x0_24)]
  cases h5 : at5 (sm13Tri_0 x0_0 x0_1 x0_2 x0_3 x0_4 x0_5 x0_24) (sm13Tri_1 x0_0 x0_1 x0_2 x0_3 x0_4 x0_5 x0_24) (sm13Tri_2 x0_0 x0_1 x0_2 x0_3 x0_4 x0_5 x0_24) (sm13Tri_3 x0_0 x0_1 x0_2 x0_3 x0_4 x0_5 x0_24) (sm13Tri_4 x0_0 x0_1 x0_2 x0_3 x0_4 x0_5 x0_24) (sm13Tri_5 x0_0 x0_1 x0_2 x0_3 x0_4 x0_5 x0_24) (IntKind.wrap .i64 (Int.tmod x2 40)) (IntKind.wrap .i64 (Int.tmod x3 40))
  · simp
  · obtain ⟨p0, _, p1, _, p2, _, _, ps⟩ := at_w T hx hy h5
    obtain ⟨m0, m1, m2, ms⟩ := at_n T hx hy h5
    unfold at0 atk
    rw [h5]
    simp only [cond_true]
    rw [wav_same ps, wav_same ms, wav_same ms, wav_same ms, wav_same ms]
    simp

end Go.Proofs.Ytbdmaepooahplaa
