/-
  Pixels in plain numbers: a pixel that is put; the laws.
-/
import Derived.Test.YtbdmaepooahplaaPc
namespace Go.Proofs.Ytbdmaepooahplaa
open Go Go.RowKit Go.Proofs.Ytbdmaepooahplaa.V
set_option linter.unusedVariables false
set_option linter.unusedSectionVars false

theorem bd_u8 {x : Int} (a : IntKind.min .u8 ≤ x) (b : x ≤ IntKind.max .u8) : 0 ≤ x ∧ x ≤ 255 := by
  have m : IntKind.min .u8 = 0 := by decide
  have M : IntKind.max .u8 = 255 := by decide
  omega
theorem bd_u16 {x : Int} (a : IntKind.min .u16 ≤ x) (b : x ≤ IntKind.max .u16) : 0 ≤ x ∧ x ≤ 65535 := by
  have m : IntKind.min .u16 = 0 := by decide
  have M : IntKind.max .u16 = 65535 := by decide
  omega
theorem bd_i64 {x : Int} (a : IntKind.min .i64 ≤ x) (b : x ≤ IntKind.max .i64) : -9223372036854775808 ≤ x ∧ x ≤ 9223372036854775807 := by
  have m : IntKind.min .i64 = -9223372036854775808 := by decide
  have M : IntKind.max .i64 = 9223372036854775807 := by decide
  omega
theorem bd_i8 {x : Int} (a : IntKind.min .i8 ≤ x) (b : x ≤ IntKind.max .i8) : -128 ≤ x ∧ x ≤ 127 := by
  have m : IntKind.min .i8 = -128 := by decide
  have M : IntKind.max .i8 = 127 := by decide
  omega
theorem bd_i16 {x : Int} (a : IntKind.min .i16 ≤ x) (b : x ≤ IntKind.max .i16) : -32768 ≤ x ∧ x ≤ 32767 := by
  have m : IntKind.min .i16 = -32768 := by decide
  have M : IntKind.max .i16 = 32767 := by decide
  omega

/-- Does a stencil's test hold? -/
def tst (st ref mask s : Int) : Bool := rHolds_0 st (Int.ofNat (ref.toNat &&& mask.toNat)) (Int.ofNat (s.toNat &&& mask.toNat))

structure SB (d st ref mask fl hd ps bl ch : Int) : Prop where
  d0 : 0 ≤ d
  d1 : d ≤ 7
  t0 : 0 ≤ st
  t1 : st ≤ 7
  r0 : 0 ≤ ref
  r1 : ref ≤ 255
  m0 : 0 ≤ mask
  m1 : mask ≤ 255
  f0 : 0 ≤ fl
  f1 : fl ≤ 5
  h0 : 0 ≤ hd
  h1 : hd ≤ 5
  p0 : 0 ≤ ps
  p1 : ps ≤ 5
  b0 : 0 ≤ bl
  b1 : bl ≤ 3
  c0 : 0 ≤ ch
  c1 : ch ≤ 255

section
variable {d st ref mask fl hd ps bl ch : Int} (H : SB d st ref mask fl hd ps bl ch) {s : Int} (s0 : 0 ≤ s) (s1 : s ≤ 255)
include H s0 s1

theorem p_tst : pPut_s1 s st ref mask = !tst st ref mask s := by
  unfold pPut_s1 tst
  rw [and_8 H.r0 H.r1 H.m0 H.m1, and_8 s0 s1 H.m0 H.m1]
  have b1 := and_bd (b := mask) H.r0 H.r1
  have b2 := and_bd (b := mask) s0 s1
  rw [w64_in (by omega) (by omega), w64_in (by omega) (by omega), holds_eq H.t0 H.t1]

theorem r_tst : rPut_s1 s st ref mask = !tst st ref mask s := by
  unfold rPut_s1 tst
  rw [and_64 H.r0 H.r1 H.m0 H.m1, and_64 s0 s1 H.m0 H.m1]

/-- What becomes of a number of the colour, of the depth, of the stencil's number. -/
def putC (st ref mask s d depth dep bl ch i over alpha c : Int) : Int := bif tst st ref mask s then bif rHolds_0 d depth dep then mix bl ch i over alpha c else c else c
def putD (st ref mask s d depth dep : Int) (w : Bool) : Int := bif tst st ref mask s then bif rHolds_0 d depth dep then bif w then depth else dep else dep else dep
def putS (st ref mask s d depth dep fl hd ps : Int) : Int := bif tst st ref mask s then bif rHolds_0 d depth dep then rDo_0 ps s ref else rDo_0 hd s ref else rDo_0 fl s ref

omit H s0 s1 in
theorem neg_if {α : Type} (b : Bool) (x y : α) : (bif !b then x else y) = bif b then y else x := by cases b <;> rfl

theorem p_sees {depth dep : Int} : pSees_6 dep d depth = rHolds_0 d depth dep := by
  unfold pSees_6
  rw [holds_eq H.d0 H.d1]
  cases rHolds_0 d depth dep <;> rfl

theorem pput_0 {c dep depth v0 v3 : Int} (c0 : 0 ≤ c) (c1 : c ≤ 255) : pPut_0 c dep s d st ref mask bl ch depth v0 v3 = putC st ref mask s d depth dep bl ch 0 (by8 v0) (by8 v3) c := by
  unfold pPut_0 putC
  rw [p_tst H s0 s1, p_sees H s0 s1, pb_0, pb_3, neg_if, neg_if, blend_0 H.b0 H.b1 H.c0 H.c1 (by8_bd v0).1 (by8_bd v0).2 (by8_bd v3).1 (by8_bd v3).2 c0 c1]
theorem pput_1 {c dep depth v0 v3 : Int} (c0 : 0 ≤ c) (c1 : c ≤ 255) : pPut_1 c dep s d st ref mask bl ch depth v0 v3 = putC st ref mask s d depth dep bl ch 1 (by8 v0) (by8 v3) c := by
  unfold pPut_1 putC
  rw [p_tst H s0 s1, p_sees H s0 s1, pb_1, pb_3, neg_if, neg_if, blend_1 H.b0 H.b1 H.c0 H.c1 (by8_bd v0).1 (by8_bd v0).2 (by8_bd v3).1 (by8_bd v3).2 c0 c1]
theorem pput_2 {c dep depth v0 v3 : Int} (c0 : 0 ≤ c) (c1 : c ≤ 255) : pPut_2 c dep s d st ref mask bl ch depth v0 v3 = putC st ref mask s d depth dep bl ch 2 (by8 v0) (by8 v3) c := by
  unfold pPut_2 putC
  rw [p_tst H s0 s1, p_sees H s0 s1, pb_2, pb_3, neg_if, neg_if, blend_2 H.b0 H.b1 H.c0 H.c1 (by8_bd v0).1 (by8_bd v0).2 (by8_bd v3).1 (by8_bd v3).2 c0 c1]
theorem pput_3 {c dep depth v3 : Int} (c0 : 0 ≤ c) (c1 : c ≤ 255) : pPut_3 c dep s d st ref mask bl ch depth v3 = putC st ref mask s d depth dep bl ch 3 (by8 v3) (by8 v3) c := by
  unfold pPut_3 putC
  rw [p_tst H s0 s1, p_sees H s0 s1, pb_3, neg_if, neg_if, blend_3 H.b0 H.b1 H.c0 H.c1 (by8_bd v3).1 (by8_bd v3).2 c0 c1]
theorem pput_4 {dep depth : Int} {w : Bool} (q0 : 0 ≤ depth) (q1 : depth ≤ 65535) : pPut_4 dep s d w st ref mask depth = putD st ref mask s d depth dep w := by
  unfold pPut_4 putD pSees_4 pSees_s0
  rw [p_tst H s0 s1, p_sees H s0 s1, holds_eq H.d0 H.d1, neg_if, neg_if, neg_if, if_neg (by omega), if_neg (by omega)]
  cases tst st ref mask s <;> cases rHolds_0 d depth dep <;> rfl
theorem pput_5 {dep depth : Int} : pPut_5 dep s d st ref mask fl hd ps depth = putS st ref mask s d depth dep fl hd ps := by
  unfold pPut_5 putS
  rw [p_tst H s0 s1, p_sees H s0 s1, neg_if, neg_if, (do_eq H.f0 H.f1 s0 s1 H.r0 H.r1).1, (do_eq H.h0 H.h1 s0 s1 H.r0 H.r1).1, (do_eq H.p0 H.p1 s0 s1 H.r0 H.r1).1]

theorem rput_0 {c dep depth v0 v3 : Int} : rPut_0 c dep s d st ref mask bl ch depth (cl v0) (cl v3) = putC st ref mask s d depth dep bl ch 0 (by8 v0) (by8 v3) c := by
  unfold rPut_0 putC mix cw
  rw [r_tst H s0 s1, rByte_cl, rByte_cl, neg_if, neg_if]
theorem rput_1 {c dep depth v0 v3 : Int} : rPut_1 c dep s d st ref mask bl ch depth (cl v0) (cl v3) = putC st ref mask s d depth dep bl ch 1 (by8 v0) (by8 v3) c := by
  unfold rPut_1 putC mix cw
  rw [r_tst H s0 s1, rByte_cl, rByte_cl, neg_if, neg_if, show rPut_s2 = 1 by decide]
theorem rput_2 {c dep depth v0 v3 : Int} : rPut_2 c dep s d st ref mask bl ch depth (cl v0) (cl v3) = putC st ref mask s d depth dep bl ch 2 (by8 v0) (by8 v3) c := by
  unfold rPut_2 putC mix cw
  rw [r_tst H s0 s1, rByte_cl, rByte_cl, neg_if, neg_if, show rPut_s3 = 2 by decide]
theorem rput_3 {c dep depth v3 : Int} : rPut_3 c dep s d st ref mask bl ch depth (cl v3) = putC st ref mask s d depth dep bl ch 3 (by8 v3) (by8 v3) c := by
  unfold rPut_3 putC mix cw
  rw [r_tst H s0 s1, rByte_cl, neg_if, neg_if, show IntKind.wrap IntKind.i64 (rPut_s3 + (1 : Int)) = 3 by decide]
theorem rput_4 {dep depth : Int} {w : Bool} : rPut_4 dep s d st ref mask w depth = putD st ref mask s d depth dep w := by
  unfold rPut_4 putD
  rw [r_tst H s0 s1, neg_if, neg_if]
theorem rput_5 {dep depth : Int} : rPut_5 dep s d st ref mask fl hd ps depth = putS st ref mask s d depth dep fl hd ps := by
  unfold rPut_5 putS
  rw [r_tst H s0 s1, neg_if, neg_if]

theorem putC_bd {c dep depth i v0 v3 : Int} (c0 : 0 ≤ c) (c1 : c ≤ 255) : 0 ≤ putC st ref mask s d depth dep bl ch i (by8 v0) (by8 v3) c ∧ putC st ref mask s d depth dep bl ch i (by8 v0) (by8 v3) c ≤ 255 := by
  have := mix_bd (i := i) (c := ch) H.b0 H.b1 (by8_bd v0).1 (by8_bd v0).2 (by8_bd v3).1 (by8_bd v3).2 c0 c1
  unfold putC
  cases tst st ref mask s <;> cases rHolds_0 d depth dep <;> first | exact this | exact ⟨c0, c1⟩
theorem putS_bd {dep depth : Int} : 0 ≤ putS st ref mask s d depth dep fl hd ps ∧ putS st ref mask s d depth dep fl hd ps ≤ 255 := by
  have a1 := (do_eq H.f0 H.f1 s0 s1 H.r0 H.r1).2
  have a2 := (do_eq H.h0 H.h1 s0 s1 H.r0 H.r1).2
  have a3 := (do_eq H.p0 H.p1 s0 s1 H.r0 H.r1).2
  unfold putS
  cases tst st ref mask s <;> cases rHolds_0 d depth dep <;> assumption
end

theorem aw19_t : aw19_0 = true := by
  have H : SB 7 7 0 0 0 0 0 0 15 := ⟨by omega, by omega, by omega, by omega, by omega, by omega, by omega, by omega, by omega, by omega, by omega, by omega, by omega, by omega, by omega, by omega, by omega, by omega⟩
  unfold aw19_0 stPlain_0 stPlain_1 stPlain_2 stPlain_3 stPlain_7 stPlain_8
  rw [pput_0 H (by omega) (by omega) (by omega) (by omega), pput_1 H (by omega) (by omega) (by omega) (by omega), pput_2 H (by omega) (by omega) (by omega) (by omega), pput_3 H (by omega) (by omega) (by omega) (by omega), pput_4 H (by omega) (by omega) (by omega) (by omega)]
  decide +kernel

/-! A state by small numbers. -/
theorem sm_SB {d st ref mask fl hd ps bl ch : Int} (e : Bool) (d0 : 0 ≤ d) (t0 : 0 ≤ st) (r0 : 0 ≤ ref) (r1 : ref ≤ 255) (m0 : 0 ≤ mask) (m1 : mask ≤ 255) (f0 : 0 ≤ fl) (h0 : 0 ≤ hd) (p0 : 0 ≤ ps) (b0 : 0 ≤ bl) (c0 : 0 ≤ ch) :
    SB (sm9State_0 d) (sm9State_1 st e) ref mask (sm9State_2 fl) (sm9State_3 hd e) (sm9State_4 ps e) (sm9State_5 bl e) (sm9State_6 ch e) := by
  unfold sm9State_0 sm9State_1 sm9State_2 sm9State_3 sm9State_4 sm9State_5 sm9State_6
  rw [Int.tmod_eq_emod_of_nonneg d0, Int.tmod_eq_emod_of_nonneg t0, Int.tmod_eq_emod_of_nonneg f0, Int.tmod_eq_emod_of_nonneg h0, Int.tmod_eq_emod_of_nonneg p0, Int.tmod_eq_emod_of_nonneg b0, Int.tmod_eq_emod_of_nonneg c0]
  cases e <;> constructor <;> (try simp only [cond_true, cond_false]) <;> omega

theorem SB.wr {d st ref mask fl hd ps bl ch : Int} (H : SB d st ref mask fl hd ps bl ch) : IntKind.wrap .i64 d = d ∧ IntKind.wrap .i64 st = st ∧ IntKind.wrap .i64 fl = fl ∧ IntKind.wrap .i64 hd = hd ∧ IntKind.wrap .i64 ps = ps ∧ IntKind.wrap .i64 bl = bl ∧ IntKind.wrap .i64 ch = ch := by
  obtain ⟨a1, a2, a3, a4, a5, a6, a7, a8, a9, b1, b2, b3, b4, b5, b6, b7, b8, b9⟩ := H
  refine ⟨?_, ?_, ?_, ?_, ?_, ?_, ?_⟩ <;> exact w64_in (by omega) (by omega)

theorem lPuts_s2_bd {x4 x2 : Int} {b : Bool} (h0 : 0 ≤ x4) (h1 : x4 ≤ 65535) (k0 : 0 ≤ x2) (k1 : x2 ≤ 65535) : 0 ≤ lPuts_s2 x4 x2 b ∧ lPuts_s2 x4 x2 b ≤ 65535 := by
  unfold lPuts_s2 lPuts_s1
  cases b
  · simp only [cond_false]
    rw [w64_in (by omega) (by omega)]; omega
  · simp only [cond_true]
    split <;> split <;> omega

theorem PixelPuts_true (x0_0 : Int) (a0_0 : IntKind.min .u8 ≤ x0_0) (b0_0 : x0_0 ≤ IntKind.max .u8) (x0_1 : Int) (a0_1 : IntKind.min .u8 ≤ x0_1) (b0_1 : x0_1 ≤ IntKind.max .u8) (x0_2 : Int) (a0_2 : IntKind.min .u8 ≤ x0_2) (b0_2 : x0_2 ≤ IntKind.max .u8) (x0_3 : Int) (a0_3 : IntKind.min .u8 ≤ x0_3) (b0_3 : x0_3 ≤ IntKind.max .u8) (x0_4 : Int) (a0_4 : IntKind.min .u16 ≤ x0_4) (b0_4 : x0_4 ≤ IntKind.max .u16) (x0_5 : Int) (a0_5 : IntKind.min .u8 ≤ x0_5) (b0_5 : x0_5 ≤ IntKind.max .u8) (x1_0 : Int) (a1_0 : IntKind.min .u8 ≤ x1_0) (b1_0 : x1_0 ≤ IntKind.max .u8) (x1_1 : Int) (a1_1 : IntKind.min .u8 ≤ x1_1) (b1_1 : x1_1 ≤ IntKind.max .u8) (x1_2 : Int) (a1_2 : IntKind.min .u8 ≤ x1_2) (b1_2 : x1_2 ≤ IntKind.max .u8) (x1_3 : Int) (a1_3 : IntKind.min .u8 ≤ x1_3) (b1_3 : x1_3 ≤ IntKind.max .u8) (x1_4 : Int) (a1_4 : IntKind.min .u8 ≤ x1_4) (b1_4 : x1_4 ≤ IntKind.max .u8) (x1_5 : Int) (a1_5 : IntKind.min .u8 ≤ x1_5) (b1_5 : x1_5 ≤ IntKind.max .u8) (x1_6 : Int) (a1_6 : IntKind.min .u8 ≤ x1_6) (b1_6 : x1_6 ≤ IntKind.max .u8) (x1_7 : Int) (a1_7 : IntKind.min .u8 ≤ x1_7) (b1_7 : x1_7 ≤ IntKind.max .u8) (x1_8 : Int) (a1_8 : IntKind.min .u8 ≤ x1_8) (b1_8 : x1_8 ≤ IntKind.max .u8) (x1_9 : Int) (a1_9 : IntKind.min .u8 ≤ x1_9) (b1_9 : x1_9 ≤ IntKind.max .u8) (x1_10 : Bool) (x1_11 : Bool) (x1_12 : Int) (a1_12 : IntKind.min .u8 ≤ x1_12) (b1_12 : x1_12 ≤ IntKind.max .u8) (x1_13 : Int) (a1_13 : IntKind.min .u8 ≤ x1_13) (b1_13 : x1_13 ≤ IntKind.max .u8) (x1_14 : Int) (a1_14 : IntKind.min .u8 ≤ x1_14) (b1_14 : x1_14 ≤ IntKind.max .u8) (x1_15 : Int) (a1_15 : IntKind.min .u8 ≤ x1_15) (b1_15 : x1_15 ≤ IntKind.max .u8) (x2 : Int) (a2 : IntKind.min .u16 ≤ x2) (b2 : x2 ≤ IntKind.max .u16) (x3_0 : Int) (a3_0 : IntKind.min .u16 ≤ x3_0) (b3_0 : x3_0 ≤ IntKind.max .u16) (x3_1 : Int) (a3_1 : IntKind.min .u16 ≤ x3_1) (b3_1 : x3_1 ≤ IntKind.max .u16) (x3_2 : Int) (a3_2 : IntKind.min .u16 ≤ x3_2) (b3_2 : x3_2 ≤ IntKind.max .u16) (x3_3 : Int) (a3_3 : IntKind.min .u16 ≤ x3_3) (b3_3 : x3_3 ≤ IntKind.max .u16) (x4_0 : Int) (a4_0 : IntKind.min .i64 ≤ x4_0) (b4_0 : x4_0 ≤ IntKind.max .i64) (x4_1 : Int) (a4_1 : IntKind.min .i64 ≤ x4_1) (b4_1 : x4_1 ≤ IntKind.max .i64) (x4_2 : Int) (a4_2 : IntKind.min .i64 ≤ x4_2) (b4_2 : x4_2 ≤ IntKind.max .i64) (x4_3 : Int) (a4_3 : IntKind.min .i64 ≤ x4_3) (b4_3 : x4_3 ≤ IntKind.max .i64) (x5 : Bool) : lPuts_0 x0_0 x0_1 x0_2 x0_3 x0_4 x0_5 x1_0 x1_1 x1_2 x1_3 x1_4 x1_5 x1_6 x1_7 x1_8 x1_10 x1_11 x2 x3_0 x3_1 x3_2 x3_3 x4_0 x4_1 x4_2 x4_3 x5 = true := by
  obtain ⟨l0_0, g0_0⟩ := bd_u8 a0_0 b0_0
  have w0_0 : IntKind.wrap .i64 x0_0 = x0_0 := w64_in (by omega) (by omega)
  obtain ⟨l0_1, g0_1⟩ := bd_u8 a0_1 b0_1
  have w0_1 : IntKind.wrap .i64 x0_1 = x0_1 := w64_in (by omega) (by omega)
  obtain ⟨l0_2, g0_2⟩ := bd_u8 a0_2 b0_2
  have w0_2 : IntKind.wrap .i64 x0_2 = x0_2 := w64_in (by omega) (by omega)
  obtain ⟨l0_3, g0_3⟩ := bd_u8 a0_3 b0_3
  have w0_3 : IntKind.wrap .i64 x0_3 = x0_3 := w64_in (by omega) (by omega)
  obtain ⟨l0_4, g0_4⟩ := bd_u16 a0_4 b0_4
  have w0_4 : IntKind.wrap .i64 x0_4 = x0_4 := w64_in (by omega) (by omega)
  obtain ⟨l0_5, g0_5⟩ := bd_u8 a0_5 b0_5
  have w0_5 : IntKind.wrap .i64 x0_5 = x0_5 := w64_in (by omega) (by omega)
  obtain ⟨l1_0, g1_0⟩ := bd_u8 a1_0 b1_0
  have w1_0 : IntKind.wrap .i64 x1_0 = x1_0 := w64_in (by omega) (by omega)
  obtain ⟨l1_1, g1_1⟩ := bd_u8 a1_1 b1_1
  have w1_1 : IntKind.wrap .i64 x1_1 = x1_1 := w64_in (by omega) (by omega)
  obtain ⟨l1_2, g1_2⟩ := bd_u8 a1_2 b1_2
  have w1_2 : IntKind.wrap .i64 x1_2 = x1_2 := w64_in (by omega) (by omega)
  obtain ⟨l1_3, g1_3⟩ := bd_u8 a1_3 b1_3
  have w1_3 : IntKind.wrap .i64 x1_3 = x1_3 := w64_in (by omega) (by omega)
  obtain ⟨l1_4, g1_4⟩ := bd_u8 a1_4 b1_4
  have w1_4 : IntKind.wrap .i64 x1_4 = x1_4 := w64_in (by omega) (by omega)
  obtain ⟨l1_5, g1_5⟩ := bd_u8 a1_5 b1_5
  have w1_5 : IntKind.wrap .i64 x1_5 = x1_5 := w64_in (by omega) (by omega)
  obtain ⟨l1_6, g1_6⟩ := bd_u8 a1_6 b1_6
  have w1_6 : IntKind.wrap .i64 x1_6 = x1_6 := w64_in (by omega) (by omega)
  obtain ⟨l1_7, g1_7⟩ := bd_u8 a1_7 b1_7
  have w1_7 : IntKind.wrap .i64 x1_7 = x1_7 := w64_in (by omega) (by omega)
  obtain ⟨l1_8, g1_8⟩ := bd_u8 a1_8 b1_8
  have w1_8 : IntKind.wrap .i64 x1_8 = x1_8 := w64_in (by omega) (by omega)
  obtain ⟨l1_9, g1_9⟩ := bd_u8 a1_9 b1_9
  have w1_9 : IntKind.wrap .i64 x1_9 = x1_9 := w64_in (by omega) (by omega)
  obtain ⟨l1_12, g1_12⟩ := bd_u8 a1_12 b1_12
  have w1_12 : IntKind.wrap .i64 x1_12 = x1_12 := w64_in (by omega) (by omega)
  obtain ⟨l1_13, g1_13⟩ := bd_u8 a1_13 b1_13
  have w1_13 : IntKind.wrap .i64 x1_13 = x1_13 := w64_in (by omega) (by omega)
  obtain ⟨l1_14, g1_14⟩ := bd_u8 a1_14 b1_14
  have w1_14 : IntKind.wrap .i64 x1_14 = x1_14 := w64_in (by omega) (by omega)
  obtain ⟨l1_15, g1_15⟩ := bd_u8 a1_15 b1_15
  have w1_15 : IntKind.wrap .i64 x1_15 = x1_15 := w64_in (by omega) (by omega)
  obtain ⟨l2, g2⟩ := bd_u16 a2 b2
  have w2 : IntKind.wrap .i64 x2 = x2 := w64_in (by omega) (by omega)
  obtain ⟨l3_0, g3_0⟩ := bd_u16 a3_0 b3_0
  have w3_0 : IntKind.wrap .i64 x3_0 = x3_0 := w64_in (by omega) (by omega)
  obtain ⟨l3_1, g3_1⟩ := bd_u16 a3_1 b3_1
  have w3_1 : IntKind.wrap .i64 x3_1 = x3_1 := w64_in (by omega) (by omega)
  obtain ⟨l3_2, g3_2⟩ := bd_u16 a3_2 b3_2
  have w3_2 : IntKind.wrap .i64 x3_2 = x3_2 := w64_in (by omega) (by omega)
  obtain ⟨l3_3, g3_3⟩ := bd_u16 a3_3 b3_3
  have w3_3 : IntKind.wrap .i64 x3_3 = x3_3 := w64_in (by omega) (by omega)
  obtain ⟨l4_0, g4_0⟩ := bd_i64 a4_0 b4_0
  have w4_0 : IntKind.wrap .i64 x4_0 = x4_0 := w64_in (by omega) (by omega)
  obtain ⟨l4_1, g4_1⟩ := bd_i64 a4_1 b4_1
  have w4_1 : IntKind.wrap .i64 x4_1 = x4_1 := w64_in (by omega) (by omega)
  obtain ⟨l4_2, g4_2⟩ := bd_i64 a4_2 b4_2
  have w4_2 : IntKind.wrap .i64 x4_2 = x4_2 := w64_in (by omega) (by omega)
  obtain ⟨l4_3, g4_3⟩ := bd_i64 a4_3 b4_3
  have w4_3 : IntKind.wrap .i64 x4_3 = x4_3 := w64_in (by omega) (by omega)
  have H := sm_SB x1_11 l1_0 l1_1 l1_2 g1_2 l1_3 g1_3 l1_4 l1_5 l1_6 l1_7 l1_8
  obtain ⟨z1, z2, z3, z4, z5, z6, z7⟩ := H.wr
  have hd := lPuts_s2_bd (b := x5) l0_4 g0_4 l2 g2
  have u : ∀ {x : Int}, 0 ≤ x → x ≤ 255 → IntKind.wrap .i64 x = x := fun h1 h2 => w64_in (by omega) (by omega)
  have s4 : lPuts_s4 x0_4 x0_5 x1_0 x1_1 x1_2 x1_3 x1_4 x1_5 x1_6 x1_10 x1_11 x2 x5 = true := by
    unfold lPuts_s4
    simp only [w0_4, w0_5, w1_2, w1_3, z1, z2, z3, z4, z5]
    rw [pput_4 H l0_5 g0_5 hd.1 hd.2, rput_4 H l0_5 g0_5, pput_5 H l0_5 g0_5, rput_5 H l0_5 g0_5, u (putS_bd H l0_5 g0_5).1 (putS_bd H l0_5 g0_5).2]
    simp
  have s5 : lPuts_s5 x0_0 x0_1 x0_2 x0_3 x0_4 x0_5 x1_0 x1_1 x1_2 x1_3 x1_4 x1_5 x1_6 x1_7 x1_8 x1_10 x1_11 x2 x3_0 x3_1 x3_2 x3_3 x5 = false := by
    unfold lPuts_s5 lPuts_s3
    rw [s4]
    simp only [w0_0, w0_1, w0_2, w0_3, w0_4, w0_5, w1_2, w1_3, w3_0, w3_1, w3_2, w3_3, z1, z2, z6, z7]
    rw [pput_0 H l0_5 g0_5 l0_0 g0_0, pput_1 H l0_5 g0_5 l0_1 g0_1, pput_2 H l0_5 g0_5 l0_2 g0_2, pput_3 H l0_5 g0_5 l0_3 g0_3, rw_0, rw_1, rw_2, rw_3, rput_0 H l0_5 g0_5, rput_1 H l0_5 g0_5, rput_2 H l0_5 g0_5, rput_3 H l0_5 g0_5,
      u (putC_bd H l0_5 g0_5 l0_0 g0_0).1 (putC_bd H l0_5 g0_5 l0_0 g0_0).2, u (putC_bd H l0_5 g0_5 l0_1 g0_1).1 (putC_bd H l0_5 g0_5 l0_1 g0_1).2, u (putC_bd H l0_5 g0_5 l0_2 g0_2).1 (putC_bd H l0_5 g0_5 l0_2 g0_2).2, u (putC_bd H l0_5 g0_5 l0_3 g0_3).1 (putC_bd H l0_5 g0_5 l0_3 g0_3).2]
    simp
  unfold lPuts_0 lPuts_s6
  rw [s5, s4, aw19_t]
  simp only [w0_0, w0_1, w0_2, w0_3, w0_4, w0_5, w1_2, w1_3, z1, z2, z6, z7]
  rw [pput_0 H l0_5 g0_5 l0_0 g0_0, pput_1 H l0_5 g0_5 l0_1 g0_1, pput_2 H l0_5 g0_5 l0_2 g0_2, pput_3 H l0_5 g0_5 l0_3 g0_3, rw_0, rw_1, rw_2, rw_3, rput_0 H l0_5 g0_5, rput_1 H l0_5 g0_5, rput_2 H l0_5 g0_5, rput_3 H l0_5 g0_5,
    u (putC_bd H l0_5 g0_5 l0_0 g0_0).1 (putC_bd H l0_5 g0_5 l0_0 g0_0).2, u (putC_bd H l0_5 g0_5 l0_1 g0_1).1 (putC_bd H l0_5 g0_5 l0_1 g0_1).2, u (putC_bd H l0_5 g0_5 l0_2 g0_2).1 (putC_bd H l0_5 g0_5 l0_2 g0_2).2, u (putC_bd H l0_5 g0_5 l0_3 g0_3).1 (putC_bd H l0_5 g0_5 l0_3 g0_3).2]
  simp

/-! Which numbers are wanted. -/
theorem chl_0 : ∀ n : Nat, n < 256 → (IntKind.wrap IntKind.u8 (Int.ofNat (Int.toNat (Int.fdiv (n : Int) ((2 : Int) ^ min (Int.toNat (0 : Int)) (IntKind.bits IntKind.u8)) % lBlends_s0) &&& lBlends_s1)) == (1 : Int)) = cw n 0 := by decide +kernel
theorem chl_1 : ∀ n : Nat, n < 256 → (IntKind.wrap IntKind.u8 (Int.ofNat (Int.toNat (Int.fdiv (n : Int) ((2 : Int) ^ min (Int.toNat lBlends_s3) (IntKind.bits IntKind.u8)) % lBlends_s0) &&& lBlends_s1)) == (1 : Int)) = cw n 1 := by decide +kernel
theorem chl_2 : ∀ n : Nat, n < 256 → (IntKind.wrap IntKind.u8 (Int.ofNat (Int.toNat (Int.fdiv (n : Int) ((2 : Int) ^ min (Int.toNat lBlends_s5) (IntKind.bits IntKind.u8)) % lBlends_s0) &&& lBlends_s1)) == (1 : Int)) = cw n 2 := by decide +kernel
theorem chl_3 : ∀ n : Nat, n < 256 → (IntKind.wrap IntKind.u8 (Int.ofNat (Int.toNat (Int.fdiv (n : Int) ((2 : Int) ^ min (Int.toNat (IntKind.wrap IntKind.i64 (lBlends_s5 + (1 : Int)))) (IntKind.bits IntKind.u8)) % lBlends_s0) &&& lBlends_s1)) == (1 : Int)) = cw n 3 := by decide +kernel

theorem two_ne {A B C D : Int} (h1 : A = B) (h2 : C = D) : (bif A != B then true else C != D) = false := by subst h1 h2; simp

theorem PixelBlends_true (x0 : Int) (a0 : IntKind.min .u8 ≤ x0) (b0 : x0 ≤ IntKind.max .u8) (x1 : Int) (a1 : IntKind.min .u8 ≤ x1) (b1 : x1 ≤ IntKind.max .u8) (x2_0 : Int) (a2_0 : IntKind.min .u8 ≤ x2_0) (b2_0 : x2_0 ≤ IntKind.max .u8) (x2_1 : Int) (a2_1 : IntKind.min .u8 ≤ x2_1) (b2_1 : x2_1 ≤ IntKind.max .u8) (x2_2 : Int) (a2_2 : IntKind.min .u8 ≤ x2_2) (b2_2 : x2_2 ≤ IntKind.max .u8) (x2_3 : Int) (a2_3 : IntKind.min .u8 ≤ x2_3) (b2_3 : x2_3 ≤ IntKind.max .u8) (x3_0 : Int) (a3_0 : IntKind.min .u8 ≤ x3_0) (b3_0 : x3_0 ≤ IntKind.max .u8) (x3_1 : Int) (a3_1 : IntKind.min .u8 ≤ x3_1) (b3_1 : x3_1 ≤ IntKind.max .u8) (x3_2 : Int) (a3_2 : IntKind.min .u8 ≤ x3_2) (b3_2 : x3_2 ≤ IntKind.max .u8) (x3_3 : Int) (a3_3 : IntKind.min .u8 ≤ x3_3) (b3_3 : x3_3 ≤ IntKind.max .u8) (x4_0 : Int) (a4_0 : IntKind.min .i64 ≤ x4_0) (b4_0 : x4_0 ≤ IntKind.max .i64) (x4_1 : Int) (a4_1 : IntKind.min .i64 ≤ x4_1) (b4_1 : x4_1 ≤ IntKind.max .i64) (x4_2 : Int) (a4_2 : IntKind.min .i64 ≤ x4_2) (b4_2 : x4_2 ≤ IntKind.max .i64) (x4_3 : Int) (a4_3 : IntKind.min .i64 ≤ x4_3) (b4_3 : x4_3 ≤ IntKind.max .i64) : lBlends_0 x0 x1 x2_0 x2_1 x2_2 x2_3 x3_0 x3_1 x3_2 x3_3 x4_0 x4_1 x4_2 x4_3 = true := by
  obtain ⟨l0, g0⟩ := bd_u8 a0 b0
  have w0 : IntKind.wrap .i64 x0 = x0 := w64_in (by omega) (by omega)
  obtain ⟨l1, g1⟩ := bd_u8 a1 b1
  have w1 : IntKind.wrap .i64 x1 = x1 := w64_in (by omega) (by omega)
  obtain ⟨l2_0, g2_0⟩ := bd_u8 a2_0 b2_0
  have w2_0 : IntKind.wrap .i64 x2_0 = x2_0 := w64_in (by omega) (by omega)
  obtain ⟨l2_1, g2_1⟩ := bd_u8 a2_1 b2_1
  have w2_1 : IntKind.wrap .i64 x2_1 = x2_1 := w64_in (by omega) (by omega)
  obtain ⟨l2_2, g2_2⟩ := bd_u8 a2_2 b2_2
  have w2_2 : IntKind.wrap .i64 x2_2 = x2_2 := w64_in (by omega) (by omega)
  obtain ⟨l2_3, g2_3⟩ := bd_u8 a2_3 b2_3
  have w2_3 : IntKind.wrap .i64 x2_3 = x2_3 := w64_in (by omega) (by omega)
  obtain ⟨l3_0, g3_0⟩ := bd_u8 a3_0 b3_0
  have w3_0 : IntKind.wrap .i64 x3_0 = x3_0 := w64_in (by omega) (by omega)
  obtain ⟨l3_1, g3_1⟩ := bd_u8 a3_1 b3_1
  have w3_1 : IntKind.wrap .i64 x3_1 = x3_1 := w64_in (by omega) (by omega)
  obtain ⟨l3_2, g3_2⟩ := bd_u8 a3_2 b3_2
  have w3_2 : IntKind.wrap .i64 x3_2 = x3_2 := w64_in (by omega) (by omega)
  obtain ⟨l3_3, g3_3⟩ := bd_u8 a3_3 b3_3
  have w3_3 : IntKind.wrap .i64 x3_3 = x3_3 := w64_in (by omega) (by omega)
  obtain ⟨l4_0, g4_0⟩ := bd_i64 a4_0 b4_0
  have w4_0 : IntKind.wrap .i64 x4_0 = x4_0 := w64_in (by omega) (by omega)
  obtain ⟨l4_1, g4_1⟩ := bd_i64 a4_1 b4_1
  have w4_1 : IntKind.wrap .i64 x4_1 = x4_1 := w64_in (by omega) (by omega)
  obtain ⟨l4_2, g4_2⟩ := bd_i64 a4_2 b4_2
  have w4_2 : IntKind.wrap .i64 x4_2 = x4_2 := w64_in (by omega) (by omega)
  obtain ⟨l4_3, g4_3⟩ := bd_i64 a4_3 b4_3
  have w4_3 : IntKind.wrap .i64 x4_3 = x4_3 := w64_in (by omega) (by omega)
  have eh : Int.tmod x0 4 = x0 % 4 := Int.tmod_eq_emod_of_nonneg l0
  have k0 : 0 ≤ x0 % 4 := by omega
  have k1 : x0 % 4 ≤ 3 := by omega
  have wh : IntKind.wrap .i64 (x0 % 4) = x0 % 4 := w64_in (by omega) (by omega)
  have u : ∀ {x : Int}, 0 ≤ x → x ≤ 255 → IntKind.wrap .i64 x = x := fun h1 h2 => w64_in (by omega) (by omega)
  have ub : ∀ x, IntKind.wrap .i64 (by8 x) = by8 x := fun x => u (by8_bd x).1 (by8_bd x).2
  have bd : ∀ {i a b : Int}, 0 ≤ a → a ≤ 255 → 0 ≤ b → b ≤ 255 → IntKind.wrap .i64 (mix (x0 % 4) x1 i a x2_3 b) = mix (x0 % 4) x1 i a x2_3 b := fun a0 a1 b0 b1 => u (mix_bd k0 k1 a0 a1 l2_3 g2_3 b0 b1).1 (mix_bd k0 k1 a0 a1 l2_3 g2_3 b0 b1).2
  have s2 : lBlends_s2 x0 x1 x2_0 x2_3 x3_0 x4_0 = false := by
    unfold lBlends_s2
    rw [eh, w2_0, w2_3, w3_0, wh, blend_0 k0 k1 l1 g1 l2_0 g2_0 l2_3 g2_3 l3_0 g3_0, bd l2_0 g2_0 l3_0 g3_0, pb_0, ub, rw_0, rByte_cl]
    obtain ⟨n, rfl⟩ := nat_of l1
    rw [chl_0 n (by omega)]
    exact two_ne rfl rfl
  have s4 : lBlends_s4 x0 x1 x2_1 x2_3 x3_1 x4_1 = false := by
    unfold lBlends_s4
    rw [eh, w2_1, w2_3, w3_1, wh, blend_1 k0 k1 l1 g1 l2_1 g2_1 l2_3 g2_3 l3_1 g3_1, bd l2_1 g2_1 l3_1 g3_1, pb_1, ub, rw_1, rByte_cl]
    obtain ⟨n, rfl⟩ := nat_of l1
    rw [chl_1 n (by omega)]
    exact two_ne rfl rfl
  have s6 : lBlends_s6 x0 x1 x2_2 x2_3 x3_2 x4_2 = false := by
    unfold lBlends_s6
    rw [eh, w2_2, w2_3, w3_2, wh, blend_2 k0 k1 l1 g1 l2_2 g2_2 l2_3 g2_3 l3_2 g3_2, bd l2_2 g2_2 l3_2 g3_2, pb_2, ub, rw_2, rByte_cl]
    obtain ⟨n, rfl⟩ := nat_of l1
    rw [chl_2 n (by omega)]
    exact two_ne rfl rfl
  unfold lBlends_0
  rw [s2, s4, s6, aw19_t, eh, w2_3, w3_3, wh, blend_3 k0 k1 l1 g1 l2_3 g2_3 l3_3 g3_3, bd l2_3 g2_3 l3_3 g3_3, pb_3, ub, rw_3, rByte_cl]
  obtain ⟨n, rfl⟩ := nat_of l1
  rw [chl_3 n (by omega)]
  have := two_ne (A := mix (x0 % 4) n 3 x2_3 x2_3 x3_3) (C := by8 x4_3) rfl rfl
  unfold mix at this
  rw [show mix (x0 % 4) n 3 x2_3 x2_3 x3_3 = bif cw n 3 then rBlend_0 (x0 % 4) x2_3 x3_3 x2_3 else x3_3 from rfl, this]
  rfl

def cd (x : Int) : Int := if (65535 : Int) < (if x < (0 : Int) then (0 : Int) else x) then (65535 : Int) else (if x < (0 : Int) then (0 : Int) else x)

theorem sees_at {c dep d x : Int} : pSees_0 c dep d x = c ∧ pSees_1 c dep d x = c ∧ pSees_2 c dep d x = c ∧ pSees_3 c dep d x = c ∧ pSees_5 dep c d x = c := by
  unfold pSees_0 pSees_1 pSees_2 pSees_3 pSees_5
  cases stHolds_0 d x dep <;> exact ⟨rfl, rfl, rfl, rfl, rfl⟩

theorem sees_4 {dep d x : Int} {w : Bool} (h0 : 0 ≤ d) (h1 : d ≤ 7) : pSees_4 dep d w x = bif bif rHolds_0 d x dep then w else false then cd x else dep := by
  unfold pSees_4 pSees_s0 cd
  rw [holds_eq h0 h1]
  cases rHolds_0 d x dep <;> cases w <;> rfl

theorem sees_6 {dep d x : Int} (h0 : 0 ≤ d) (h1 : d ≤ 7) : pSees_6 dep d x = rHolds_0 d x dep := by
  unfold pSees_6
  rw [holds_eq h0 h1]
  cases rHolds_0 d x dep <;> rfl

theorem sees_row {d dep x c0 c1 c2 c3 s : Int} {w : Bool} (h0 : 0 ≤ d) (h1 : d ≤ 7) : (bif !pSees_6 dep d x == rHolds_0 d x dep then true else !(pSees_0 c0 dep d x == c0 && (pSees_1 c1 dep d x == c1 && (pSees_2 c2 dep d x == c2 && pSees_3 c3 dep d x == c3)) && ((pSees_4 dep d w x == bif bif rHolds_0 d x dep then w else false then cd x else dep) && pSees_5 dep s d x == s))) = false := by
  obtain ⟨a0, _, _, _, _⟩ := sees_at (c := c0) (dep := dep) (d := d) (x := x)
  obtain ⟨_, a1, _, _, _⟩ := sees_at (c := c1) (dep := dep) (d := d) (x := x)
  obtain ⟨_, _, a2, _, _⟩ := sees_at (c := c2) (dep := dep) (d := d) (x := x)
  obtain ⟨_, _, _, a3, _⟩ := sees_at (c := c3) (dep := dep) (d := d) (x := x)
  obtain ⟨_, _, _, _, a5⟩ := sees_at (c := s) (dep := dep) (d := d) (x := x)
  rw [a0, a1, a2, a3, a5, sees_4 h0 h1, sees_6 h0 h1]
  simp

theorem PixelSees_true (x0_0 : Int) (a0_0 : IntKind.min .u8 ≤ x0_0) (b0_0 : x0_0 ≤ IntKind.max .u8) (x0_1 : Int) (a0_1 : IntKind.min .u8 ≤ x0_1) (b0_1 : x0_1 ≤ IntKind.max .u8) (x0_2 : Int) (a0_2 : IntKind.min .u8 ≤ x0_2) (b0_2 : x0_2 ≤ IntKind.max .u8) (x0_3 : Int) (a0_3 : IntKind.min .u8 ≤ x0_3) (b0_3 : x0_3 ≤ IntKind.max .u8) (x0_4 : Int) (a0_4 : IntKind.min .u16 ≤ x0_4) (b0_4 : x0_4 ≤ IntKind.max .u16) (x0_5 : Int) (a0_5 : IntKind.min .u8 ≤ x0_5) (b0_5 : x0_5 ≤ IntKind.max .u8) (x1_0 : Int) (a1_0 : IntKind.min .u8 ≤ x1_0) (b1_0 : x1_0 ≤ IntKind.max .u8) (x1_1 : Int) (a1_1 : IntKind.min .u8 ≤ x1_1) (b1_1 : x1_1 ≤ IntKind.max .u8) (x1_2 : Int) (a1_2 : IntKind.min .u8 ≤ x1_2) (b1_2 : x1_2 ≤ IntKind.max .u8) (x1_3 : Int) (a1_3 : IntKind.min .u8 ≤ x1_3) (b1_3 : x1_3 ≤ IntKind.max .u8) (x1_4 : Int) (a1_4 : IntKind.min .u8 ≤ x1_4) (b1_4 : x1_4 ≤ IntKind.max .u8) (x1_5 : Int) (a1_5 : IntKind.min .u8 ≤ x1_5) (b1_5 : x1_5 ≤ IntKind.max .u8) (x1_6 : Int) (a1_6 : IntKind.min .u8 ≤ x1_6) (b1_6 : x1_6 ≤ IntKind.max .u8) (x1_7 : Int) (a1_7 : IntKind.min .u8 ≤ x1_7) (b1_7 : x1_7 ≤ IntKind.max .u8) (x1_8 : Int) (a1_8 : IntKind.min .u8 ≤ x1_8) (b1_8 : x1_8 ≤ IntKind.max .u8) (x1_9 : Int) (a1_9 : IntKind.min .u8 ≤ x1_9) (b1_9 : x1_9 ≤ IntKind.max .u8) (x1_10 : Bool) (x1_11 : Bool) (x1_12 : Int) (a1_12 : IntKind.min .u8 ≤ x1_12) (b1_12 : x1_12 ≤ IntKind.max .u8) (x1_13 : Int) (a1_13 : IntKind.min .u8 ≤ x1_13) (b1_13 : x1_13 ≤ IntKind.max .u8) (x1_14 : Int) (a1_14 : IntKind.min .u8 ≤ x1_14) (b1_14 : x1_14 ≤ IntKind.max .u8) (x1_15 : Int) (a1_15 : IntKind.min .u8 ≤ x1_15) (b1_15 : x1_15 ≤ IntKind.max .u8) (x2 : Int) (a2 : IntKind.min .i64 ≤ x2) (b2 : x2 ≤ IntKind.max .i64) (x3 : Int) (a3 : IntKind.min .u16 ≤ x3) (b3 : x3 ≤ IntKind.max .u16) : lSees_0 x0_0 x0_1 x0_2 x0_3 x0_4 x0_5 x1_0 x1_10 x2 x3 = true := by
  obtain ⟨l0_0, g0_0⟩ := bd_u8 a0_0 b0_0
  have w0_0 : IntKind.wrap .i64 x0_0 = x0_0 := w64_in (by omega) (by omega)
  obtain ⟨l0_1, g0_1⟩ := bd_u8 a0_1 b0_1
  have w0_1 : IntKind.wrap .i64 x0_1 = x0_1 := w64_in (by omega) (by omega)
  obtain ⟨l0_2, g0_2⟩ := bd_u8 a0_2 b0_2
  have w0_2 : IntKind.wrap .i64 x0_2 = x0_2 := w64_in (by omega) (by omega)
  obtain ⟨l0_3, g0_3⟩ := bd_u8 a0_3 b0_3
  have w0_3 : IntKind.wrap .i64 x0_3 = x0_3 := w64_in (by omega) (by omega)
  obtain ⟨l0_4, g0_4⟩ := bd_u16 a0_4 b0_4
  have w0_4 : IntKind.wrap .i64 x0_4 = x0_4 := w64_in (by omega) (by omega)
  obtain ⟨l0_5, g0_5⟩ := bd_u8 a0_5 b0_5
  have w0_5 : IntKind.wrap .i64 x0_5 = x0_5 := w64_in (by omega) (by omega)
  obtain ⟨l1_0, g1_0⟩ := bd_u8 a1_0 b1_0
  have w1_0 : IntKind.wrap .i64 x1_0 = x1_0 := w64_in (by omega) (by omega)
  obtain ⟨l1_1, g1_1⟩ := bd_u8 a1_1 b1_1
  have w1_1 : IntKind.wrap .i64 x1_1 = x1_1 := w64_in (by omega) (by omega)
  obtain ⟨l1_2, g1_2⟩ := bd_u8 a1_2 b1_2
  have w1_2 : IntKind.wrap .i64 x1_2 = x1_2 := w64_in (by omega) (by omega)
  obtain ⟨l1_3, g1_3⟩ := bd_u8 a1_3 b1_3
  have w1_3 : IntKind.wrap .i64 x1_3 = x1_3 := w64_in (by omega) (by omega)
  obtain ⟨l1_4, g1_4⟩ := bd_u8 a1_4 b1_4
  have w1_4 : IntKind.wrap .i64 x1_4 = x1_4 := w64_in (by omega) (by omega)
  obtain ⟨l1_5, g1_5⟩ := bd_u8 a1_5 b1_5
  have w1_5 : IntKind.wrap .i64 x1_5 = x1_5 := w64_in (by omega) (by omega)
  obtain ⟨l1_6, g1_6⟩ := bd_u8 a1_6 b1_6
  have w1_6 : IntKind.wrap .i64 x1_6 = x1_6 := w64_in (by omega) (by omega)
  obtain ⟨l1_7, g1_7⟩ := bd_u8 a1_7 b1_7
  have w1_7 : IntKind.wrap .i64 x1_7 = x1_7 := w64_in (by omega) (by omega)
  obtain ⟨l1_8, g1_8⟩ := bd_u8 a1_8 b1_8
  have w1_8 : IntKind.wrap .i64 x1_8 = x1_8 := w64_in (by omega) (by omega)
  obtain ⟨l1_9, g1_9⟩ := bd_u8 a1_9 b1_9
  have w1_9 : IntKind.wrap .i64 x1_9 = x1_9 := w64_in (by omega) (by omega)
  obtain ⟨l1_12, g1_12⟩ := bd_u8 a1_12 b1_12
  have w1_12 : IntKind.wrap .i64 x1_12 = x1_12 := w64_in (by omega) (by omega)
  obtain ⟨l1_13, g1_13⟩ := bd_u8 a1_13 b1_13
  have w1_13 : IntKind.wrap .i64 x1_13 = x1_13 := w64_in (by omega) (by omega)
  obtain ⟨l1_14, g1_14⟩ := bd_u8 a1_14 b1_14
  have w1_14 : IntKind.wrap .i64 x1_14 = x1_14 := w64_in (by omega) (by omega)
  obtain ⟨l1_15, g1_15⟩ := bd_u8 a1_15 b1_15
  have w1_15 : IntKind.wrap .i64 x1_15 = x1_15 := w64_in (by omega) (by omega)
  obtain ⟨l2, g2⟩ := bd_i64 a2 b2
  have w2 : IntKind.wrap .i64 x2 = x2 := w64_in (by omega) (by omega)
  obtain ⟨l3, g3⟩ := bd_u16 a3 b3
  have w3 : IntKind.wrap .i64 x3 = x3 := w64_in (by omega) (by omega)
  have e0 : 0 ≤ sm9State_0 x1_0 ∧ sm9State_0 x1_0 ≤ 7 := by
    unfold sm9State_0; rw [Int.tmod_eq_emod_of_nonneg l1_0]; omega
  have we : IntKind.wrap .i64 (sm9State_0 x1_0) = sm9State_0 x1_0 := w64_in (by omega) (by omega)
  have s1 : lSees_s1 x0_0 x0_1 x0_2 x0_3 x0_4 x0_5 x1_0 x1_10 x2 = false := by
    unfold lSees_s1 lSees_s0
    rw [w0_4, we]
    exact sees_row e0.1 e0.2
  have s3 : lSees_s3 x0_0 x0_1 x0_2 x0_3 x0_4 x0_5 x1_0 x1_10 x3 = false := by
    unfold lSees_s3 lSees_s2
    rw [w0_4, we]
    exact sees_row e0.1 e0.2
  unfold lSees_0 lSees_s4
  rw [s1, s3, aw19_t, w0_4, we]
  have := sees_row (d := sm9State_0 x1_0) (dep := x0_4) (x := x0_4) (c0 := x0_0) (c1 := x0_1) (c2 := x0_2) (c3 := x0_3) (s := x0_5) (w := x1_10) e0.1 e0.2
  unfold cd at this
  rw [this]
  rfl

/-! Late states. -/
theorem holds_7 (a b : Int) : rHolds_0 7 a b = true := by
  unfold rHolds_0
  have e1 : (Int.tmod 7 2 == 1) = true := by decide
  have e2 : (Int.tmod (IntKind.wrap .i64 (Int.tdiv 7 2)) 2 == 1) = true := by decide
  have e3 : (Int.tmod (IntKind.wrap .i64 (Int.tdiv 7 4)) 2 == 1) = true := by decide
  rw [e1, e2, e3]
  cases decide (a < b) <;> cases a == b <;> rfl

theorem tst_7 (ref mask s : Int) : tst 7 ref mask s = true := holds_7 _ _

theorem do_0 (n r : Int) : rDo_0 0 n r = n := by unfold rDo_0; simp

theorem mix_late {i a al b : Int} (h : cw 15 i = true) : mix 0 15 i a al b = a := by unfold mix rBlend_0; rw [h]; simp

theorem late_C {ref mask s d depth dep i a al c : Int} (h : cw 15 i = true) : putC 7 ref mask s d depth dep 0 15 i a al c = bif rHolds_0 d depth dep then a else c := by
  unfold putC; rw [tst_7, mix_late h]; rfl
theorem late_S {ref mask s d depth dep fl : Int} : putS 7 ref mask s d depth dep fl 0 0 = s := by
  unfold putS; rw [tst_7, do_0]; cases rHolds_0 d depth dep <;> rfl
theorem late_D {ref mask s d depth dep : Int} {w : Bool} : putD 7 ref mask s d depth dep w = bif rHolds_0 d depth dep then bif w then depth else dep else dep := by
  unfold putD; rw [tst_7]; rfl

theorem k_0 : cw 15 0 = true := by decide
theorem k_1 : cw 15 1 = true := by decide
theorem k_2 : cw 15 2 = true := by decide
theorem k_3 : cw 15 3 = true := by decide

theorem sm_late (st hd ps bl ch : Int) : sm9State_1 st true = 7 ∧ sm9State_3 hd true = 0 ∧ sm9State_4 ps true = 0 ∧ sm9State_5 bl true = 0 ∧ sm9State_6 ch true = 15 := ⟨rfl, rfl, rfl, rfl, rfl⟩

theorem PixelLate_true (x0_0 : Int) (a0_0 : IntKind.min .u8 ≤ x0_0) (b0_0 : x0_0 ≤ IntKind.max .u8) (x0_1 : Int) (a0_1 : IntKind.min .u8 ≤ x0_1) (b0_1 : x0_1 ≤ IntKind.max .u8) (x0_2 : Int) (a0_2 : IntKind.min .u8 ≤ x0_2) (b0_2 : x0_2 ≤ IntKind.max .u8) (x0_3 : Int) (a0_3 : IntKind.min .u8 ≤ x0_3) (b0_3 : x0_3 ≤ IntKind.max .u8) (x0_4 : Int) (a0_4 : IntKind.min .u16 ≤ x0_4) (b0_4 : x0_4 ≤ IntKind.max .u16) (x0_5 : Int) (a0_5 : IntKind.min .u8 ≤ x0_5) (b0_5 : x0_5 ≤ IntKind.max .u8) (x1_0 : Int) (a1_0 : IntKind.min .u8 ≤ x1_0) (b1_0 : x1_0 ≤ IntKind.max .u8) (x1_1 : Int) (a1_1 : IntKind.min .u8 ≤ x1_1) (b1_1 : x1_1 ≤ IntKind.max .u8) (x1_2 : Int) (a1_2 : IntKind.min .u8 ≤ x1_2) (b1_2 : x1_2 ≤ IntKind.max .u8) (x1_3 : Int) (a1_3 : IntKind.min .u8 ≤ x1_3) (b1_3 : x1_3 ≤ IntKind.max .u8) (x1_4 : Int) (a1_4 : IntKind.min .u16 ≤ x1_4) (b1_4 : x1_4 ≤ IntKind.max .u16) (x1_5 : Int) (a1_5 : IntKind.min .u8 ≤ x1_5) (b1_5 : x1_5 ≤ IntKind.max .u8) (x2_0 : Int) (a2_0 : IntKind.min .u8 ≤ x2_0) (b2_0 : x2_0 ≤ IntKind.max .u8) (x2_1 : Int) (a2_1 : IntKind.min .u8 ≤ x2_1) (b2_1 : x2_1 ≤ IntKind.max .u8) (x2_2 : Int) (a2_2 : IntKind.min .u8 ≤ x2_2) (b2_2 : x2_2 ≤ IntKind.max .u8) (x2_3 : Int) (a2_3 : IntKind.min .u8 ≤ x2_3) (b2_3 : x2_3 ≤ IntKind.max .u8) (x2_4 : Int) (a2_4 : IntKind.min .u8 ≤ x2_4) (b2_4 : x2_4 ≤ IntKind.max .u8) (x2_5 : Int) (a2_5 : IntKind.min .u8 ≤ x2_5) (b2_5 : x2_5 ≤ IntKind.max .u8) (x2_6 : Int) (a2_6 : IntKind.min .u8 ≤ x2_6) (b2_6 : x2_6 ≤ IntKind.max .u8) (x2_7 : Int) (a2_7 : IntKind.min .u8 ≤ x2_7) (b2_7 : x2_7 ≤ IntKind.max .u8) (x2_8 : Int) (a2_8 : IntKind.min .u8 ≤ x2_8) (b2_8 : x2_8 ≤ IntKind.max .u8) (x2_9 : Int) (a2_9 : IntKind.min .u8 ≤ x2_9) (b2_9 : x2_9 ≤ IntKind.max .u8) (x2_10 : Bool) (x2_11 : Bool) (x2_12 : Int) (a2_12 : IntKind.min .u8 ≤ x2_12) (b2_12 : x2_12 ≤ IntKind.max .u8) (x2_13 : Int) (a2_13 : IntKind.min .u8 ≤ x2_13) (b2_13 : x2_13 ≤ IntKind.max .u8) (x2_14 : Int) (a2_14 : IntKind.min .u8 ≤ x2_14) (b2_14 : x2_14 ≤ IntKind.max .u8) (x2_15 : Int) (a2_15 : IntKind.min .u8 ≤ x2_15) (b2_15 : x2_15 ≤ IntKind.max .u8) (x3 : Int) (a3 : IntKind.min .u16 ≤ x3) (b3 : x3 ≤ IntKind.max .u16) (x4_0 : Int) (a4_0 : IntKind.min .u16 ≤ x4_0) (b4_0 : x4_0 ≤ IntKind.max .u16) (x4_1 : Int) (a4_1 : IntKind.min .u16 ≤ x4_1) (b4_1 : x4_1 ≤ IntKind.max .u16) (x4_2 : Int) (a4_2 : IntKind.min .u16 ≤ x4_2) (b4_2 : x4_2 ≤ IntKind.max .u16) (x4_3 : Int) (a4_3 : IntKind.min .u16 ≤ x4_3) (b4_3 : x4_3 ≤ IntKind.max .u16) : lLate_0 x0_0 x0_1 x0_2 x0_3 x0_4 x0_5 x1_0 x1_1 x1_2 x1_3 x1_5 x2_0 x2_1 x2_2 x2_3 x2_4 x2_5 x2_6 x2_7 x2_8 x2_10 x3 x4_0 x4_1 x4_2 x4_3 = true := by
  obtain ⟨l0_0, g0_0⟩ := bd_u8 a0_0 b0_0
  have w0_0 : IntKind.wrap .i64 x0_0 = x0_0 := w64_in (by omega) (by omega)
  obtain ⟨l0_1, g0_1⟩ := bd_u8 a0_1 b0_1
  have w0_1 : IntKind.wrap .i64 x0_1 = x0_1 := w64_in (by omega) (by omega)
  obtain ⟨l0_2, g0_2⟩ := bd_u8 a0_2 b0_2
  have w0_2 : IntKind.wrap .i64 x0_2 = x0_2 := w64_in (by omega) (by omega)
  obtain ⟨l0_3, g0_3⟩ := bd_u8 a0_3 b0_3
  have w0_3 : IntKind.wrap .i64 x0_3 = x0_3 := w64_in (by omega) (by omega)
  obtain ⟨l0_4, g0_4⟩ := bd_u16 a0_4 b0_4
  have w0_4 : IntKind.wrap .i64 x0_4 = x0_4 := w64_in (by omega) (by omega)
  obtain ⟨l0_5, g0_5⟩ := bd_u8 a0_5 b0_5
  have w0_5 : IntKind.wrap .i64 x0_5 = x0_5 := w64_in (by omega) (by omega)
  obtain ⟨l1_0, g1_0⟩ := bd_u8 a1_0 b1_0
  have w1_0 : IntKind.wrap .i64 x1_0 = x1_0 := w64_in (by omega) (by omega)
  obtain ⟨l1_1, g1_1⟩ := bd_u8 a1_1 b1_1
  have w1_1 : IntKind.wrap .i64 x1_1 = x1_1 := w64_in (by omega) (by omega)
  obtain ⟨l1_2, g1_2⟩ := bd_u8 a1_2 b1_2
  have w1_2 : IntKind.wrap .i64 x1_2 = x1_2 := w64_in (by omega) (by omega)
  obtain ⟨l1_3, g1_3⟩ := bd_u8 a1_3 b1_3
  have w1_3 : IntKind.wrap .i64 x1_3 = x1_3 := w64_in (by omega) (by omega)
  obtain ⟨l1_4, g1_4⟩ := bd_u16 a1_4 b1_4
  have w1_4 : IntKind.wrap .i64 x1_4 = x1_4 := w64_in (by omega) (by omega)
  obtain ⟨l1_5, g1_5⟩ := bd_u8 a1_5 b1_5
  have w1_5 : IntKind.wrap .i64 x1_5 = x1_5 := w64_in (by omega) (by omega)
  obtain ⟨l2_0, g2_0⟩ := bd_u8 a2_0 b2_0
  have w2_0 : IntKind.wrap .i64 x2_0 = x2_0 := w64_in (by omega) (by omega)
  obtain ⟨l2_1, g2_1⟩ := bd_u8 a2_1 b2_1
  have w2_1 : IntKind.wrap .i64 x2_1 = x2_1 := w64_in (by omega) (by omega)
  obtain ⟨l2_2, g2_2⟩ := bd_u8 a2_2 b2_2
  have w2_2 : IntKind.wrap .i64 x2_2 = x2_2 := w64_in (by omega) (by omega)
  obtain ⟨l2_3, g2_3⟩ := bd_u8 a2_3 b2_3
  have w2_3 : IntKind.wrap .i64 x2_3 = x2_3 := w64_in (by omega) (by omega)
  obtain ⟨l2_4, g2_4⟩ := bd_u8 a2_4 b2_4
  have w2_4 : IntKind.wrap .i64 x2_4 = x2_4 := w64_in (by omega) (by omega)
  obtain ⟨l2_5, g2_5⟩ := bd_u8 a2_5 b2_5
  have w2_5 : IntKind.wrap .i64 x2_5 = x2_5 := w64_in (by omega) (by omega)
  obtain ⟨l2_6, g2_6⟩ := bd_u8 a2_6 b2_6
  have w2_6 : IntKind.wrap .i64 x2_6 = x2_6 := w64_in (by omega) (by omega)
  obtain ⟨l2_7, g2_7⟩ := bd_u8 a2_7 b2_7
  have w2_7 : IntKind.wrap .i64 x2_7 = x2_7 := w64_in (by omega) (by omega)
  obtain ⟨l2_8, g2_8⟩ := bd_u8 a2_8 b2_8
  have w2_8 : IntKind.wrap .i64 x2_8 = x2_8 := w64_in (by omega) (by omega)
  obtain ⟨l2_9, g2_9⟩ := bd_u8 a2_9 b2_9
  have w2_9 : IntKind.wrap .i64 x2_9 = x2_9 := w64_in (by omega) (by omega)
  obtain ⟨l2_12, g2_12⟩ := bd_u8 a2_12 b2_12
  have w2_12 : IntKind.wrap .i64 x2_12 = x2_12 := w64_in (by omega) (by omega)
  obtain ⟨l2_13, g2_13⟩ := bd_u8 a2_13 b2_13
  have w2_13 : IntKind.wrap .i64 x2_13 = x2_13 := w64_in (by omega) (by omega)
  obtain ⟨l2_14, g2_14⟩ := bd_u8 a2_14 b2_14
  have w2_14 : IntKind.wrap .i64 x2_14 = x2_14 := w64_in (by omega) (by omega)
  obtain ⟨l2_15, g2_15⟩ := bd_u8 a2_15 b2_15
  have w2_15 : IntKind.wrap .i64 x2_15 = x2_15 := w64_in (by omega) (by omega)
  obtain ⟨l3, g3⟩ := bd_u16 a3 b3
  have w3 : IntKind.wrap .i64 x3 = x3 := w64_in (by omega) (by omega)
  obtain ⟨l4_0, g4_0⟩ := bd_u16 a4_0 b4_0
  have w4_0 : IntKind.wrap .i64 x4_0 = x4_0 := w64_in (by omega) (by omega)
  obtain ⟨l4_1, g4_1⟩ := bd_u16 a4_1 b4_1
  have w4_1 : IntKind.wrap .i64 x4_1 = x4_1 := w64_in (by omega) (by omega)
  obtain ⟨l4_2, g4_2⟩ := bd_u16 a4_2 b4_2
  have w4_2 : IntKind.wrap .i64 x4_2 = x4_2 := w64_in (by omega) (by omega)
  obtain ⟨l4_3, g4_3⟩ := bd_u16 a4_3 b4_3
  have w4_3 : IntKind.wrap .i64 x4_3 = x4_3 := w64_in (by omega) (by omega)
  have H := sm_SB true l2_0 l2_1 l2_2 g2_2 l2_3 g2_3 l2_4 l2_5 l2_6 l2_7 l2_8
  obtain ⟨z1, z2, z3, z4, z5⟩ := sm_late x2_1 x2_5 x2_6 x2_7 x2_8
  rw [z1, z2, z3, z4, z5] at H
  unfold lLate_0 lLate_s0 lLate_s1 lLate_s2 lLate_s3 lLate_s4 lLate_s5 lLate_s6 lLate_s7 lLate_s8 lLate_s9 lLate_s10
  rw [z1, z2, z3, z4, z5, w0_4, w3, w4_0, w4_1, w4_2, w4_3, aw19_t, p_sees H l0_5 g0_5,
    pput_0 H l0_5 g0_5 l0_0 g0_0, pput_1 H l0_5 g0_5 l0_1 g0_1, pput_2 H l0_5 g0_5 l0_2 g0_2, pput_3 H l0_5 g0_5 l0_3 g0_3, pput_4 H l0_5 g0_5 l3 g3, pput_5 H l0_5 g0_5,
    pput_0 H l1_5 g1_5 l1_0 g1_0, pput_1 H l1_5 g1_5 l1_1 g1_1, pput_2 H l1_5 g1_5 l1_2 g1_2, pput_3 H l1_5 g1_5 l1_3 g1_3, pput_4 H l1_5 g1_5 l3 g3, pput_5 H l1_5 g1_5, pb_0, pb_1, pb_2, pb_3]
  rw [late_C k_0, late_C k_1, late_C k_2, late_C k_3, late_C k_0, late_C k_1, late_C k_2, late_C k_3, late_S, late_S, late_D, late_D]
  cases rHolds_0 (sm9State_0 x2_0) x3 x0_4 <;> simp

theorem mix_un {how c i a al b : Int} (h : cw c i = false) : mix how c i a al b = b := by unfold mix; rw [h]; rfl

theorem un_C {st ref mask s d depth dep bl ch i a al c : Int} : (bif !cw ch i then putC st ref mask s d depth dep bl ch i a al c != c else false) = false := by
  cases h : cw ch i
  · have : putC st ref mask s d depth dep bl ch i a al c = c := by
      unfold putC; rw [mix_un h]
      cases tst st ref mask s <;> cases rHolds_0 d depth dep <;> rfl
    rw [this]; simp
  · rfl

theorem sm6_bd {ch : Int} (e : Bool) (c0 : 0 ≤ ch) : ∃ n : Nat, sm9State_6 ch e = n ∧ n < 256 := by
  unfold sm9State_6
  rw [Int.tmod_eq_emod_of_nonneg c0]
  cases e
  · exact ⟨(ch % 16).toNat, by simp only [cond_false]; omega, by omega⟩
  · exact ⟨15, rfl, by omega⟩

theorem PixelTwice_true (x0_0 : Int) (a0_0 : IntKind.min .u8 ≤ x0_0) (b0_0 : x0_0 ≤ IntKind.max .u8) (x0_1 : Int) (a0_1 : IntKind.min .u8 ≤ x0_1) (b0_1 : x0_1 ≤ IntKind.max .u8) (x0_2 : Int) (a0_2 : IntKind.min .u8 ≤ x0_2) (b0_2 : x0_2 ≤ IntKind.max .u8) (x0_3 : Int) (a0_3 : IntKind.min .u8 ≤ x0_3) (b0_3 : x0_3 ≤ IntKind.max .u8) (x0_4 : Int) (a0_4 : IntKind.min .u16 ≤ x0_4) (b0_4 : x0_4 ≤ IntKind.max .u16) (x0_5 : Int) (a0_5 : IntKind.min .u8 ≤ x0_5) (b0_5 : x0_5 ≤ IntKind.max .u8) (x1_0 : Int) (a1_0 : IntKind.min .u8 ≤ x1_0) (b1_0 : x1_0 ≤ IntKind.max .u8) (x1_1 : Int) (a1_1 : IntKind.min .u8 ≤ x1_1) (b1_1 : x1_1 ≤ IntKind.max .u8) (x1_2 : Int) (a1_2 : IntKind.min .u8 ≤ x1_2) (b1_2 : x1_2 ≤ IntKind.max .u8) (x1_3 : Int) (a1_3 : IntKind.min .u8 ≤ x1_3) (b1_3 : x1_3 ≤ IntKind.max .u8) (x1_4 : Int) (a1_4 : IntKind.min .u8 ≤ x1_4) (b1_4 : x1_4 ≤ IntKind.max .u8) (x1_5 : Int) (a1_5 : IntKind.min .u8 ≤ x1_5) (b1_5 : x1_5 ≤ IntKind.max .u8) (x1_6 : Int) (a1_6 : IntKind.min .u8 ≤ x1_6) (b1_6 : x1_6 ≤ IntKind.max .u8) (x1_7 : Int) (a1_7 : IntKind.min .u8 ≤ x1_7) (b1_7 : x1_7 ≤ IntKind.max .u8) (x1_8 : Int) (a1_8 : IntKind.min .u8 ≤ x1_8) (b1_8 : x1_8 ≤ IntKind.max .u8) (x1_9 : Int) (a1_9 : IntKind.min .u8 ≤ x1_9) (b1_9 : x1_9 ≤ IntKind.max .u8) (x1_10 : Bool) (x1_11 : Bool) (x1_12 : Int) (a1_12 : IntKind.min .u8 ≤ x1_12) (b1_12 : x1_12 ≤ IntKind.max .u8) (x1_13 : Int) (a1_13 : IntKind.min .u8 ≤ x1_13) (b1_13 : x1_13 ≤ IntKind.max .u8) (x1_14 : Int) (a1_14 : IntKind.min .u8 ≤ x1_14) (b1_14 : x1_14 ≤ IntKind.max .u8) (x1_15 : Int) (a1_15 : IntKind.min .u8 ≤ x1_15) (b1_15 : x1_15 ≤ IntKind.max .u8) (x2 : Int) (a2 : IntKind.min .u16 ≤ x2) (b2 : x2 ≤ IntKind.max .u16) (x3_0 : Int) (a3_0 : IntKind.min .u16 ≤ x3_0) (b3_0 : x3_0 ≤ IntKind.max .u16) (x3_1 : Int) (a3_1 : IntKind.min .u16 ≤ x3_1) (b3_1 : x3_1 ≤ IntKind.max .u16) (x3_2 : Int) (a3_2 : IntKind.min .u16 ≤ x3_2) (b3_2 : x3_2 ≤ IntKind.max .u16) (x3_3 : Int) (a3_3 : IntKind.min .u16 ≤ x3_3) (b3_3 : x3_3 ≤ IntKind.max .u16) : lTwice_0 x0_0 x0_1 x0_2 x0_3 x0_4 x0_5 x1_0 x1_1 x1_2 x1_3 x1_4 x1_5 x1_6 x1_7 x1_8 x1_10 x1_11 x2 x3_0 x3_1 x3_2 x3_3 = true := by
  obtain ⟨l0_0, g0_0⟩ := bd_u8 a0_0 b0_0
  have w0_0 : IntKind.wrap .i64 x0_0 = x0_0 := w64_in (by omega) (by omega)
  obtain ⟨l0_1, g0_1⟩ := bd_u8 a0_1 b0_1
  have w0_1 : IntKind.wrap .i64 x0_1 = x0_1 := w64_in (by omega) (by omega)
  obtain ⟨l0_2, g0_2⟩ := bd_u8 a0_2 b0_2
  have w0_2 : IntKind.wrap .i64 x0_2 = x0_2 := w64_in (by omega) (by omega)
  obtain ⟨l0_3, g0_3⟩ := bd_u8 a0_3 b0_3
  have w0_3 : IntKind.wrap .i64 x0_3 = x0_3 := w64_in (by omega) (by omega)
  obtain ⟨l0_4, g0_4⟩ := bd_u16 a0_4 b0_4
  have w0_4 : IntKind.wrap .i64 x0_4 = x0_4 := w64_in (by omega) (by omega)
  obtain ⟨l0_5, g0_5⟩ := bd_u8 a0_5 b0_5
  have w0_5 : IntKind.wrap .i64 x0_5 = x0_5 := w64_in (by omega) (by omega)
  obtain ⟨l1_0, g1_0⟩ := bd_u8 a1_0 b1_0
  have w1_0 : IntKind.wrap .i64 x1_0 = x1_0 := w64_in (by omega) (by omega)
  obtain ⟨l1_1, g1_1⟩ := bd_u8 a1_1 b1_1
  have w1_1 : IntKind.wrap .i64 x1_1 = x1_1 := w64_in (by omega) (by omega)
  obtain ⟨l1_2, g1_2⟩ := bd_u8 a1_2 b1_2
  have w1_2 : IntKind.wrap .i64 x1_2 = x1_2 := w64_in (by omega) (by omega)
  obtain ⟨l1_3, g1_3⟩ := bd_u8 a1_3 b1_3
  have w1_3 : IntKind.wrap .i64 x1_3 = x1_3 := w64_in (by omega) (by omega)
  obtain ⟨l1_4, g1_4⟩ := bd_u8 a1_4 b1_4
  have w1_4 : IntKind.wrap .i64 x1_4 = x1_4 := w64_in (by omega) (by omega)
  obtain ⟨l1_5, g1_5⟩ := bd_u8 a1_5 b1_5
  have w1_5 : IntKind.wrap .i64 x1_5 = x1_5 := w64_in (by omega) (by omega)
  obtain ⟨l1_6, g1_6⟩ := bd_u8 a1_6 b1_6
  have w1_6 : IntKind.wrap .i64 x1_6 = x1_6 := w64_in (by omega) (by omega)
  obtain ⟨l1_7, g1_7⟩ := bd_u8 a1_7 b1_7
  have w1_7 : IntKind.wrap .i64 x1_7 = x1_7 := w64_in (by omega) (by omega)
  obtain ⟨l1_8, g1_8⟩ := bd_u8 a1_8 b1_8
  have w1_8 : IntKind.wrap .i64 x1_8 = x1_8 := w64_in (by omega) (by omega)
  obtain ⟨l1_9, g1_9⟩ := bd_u8 a1_9 b1_9
  have w1_9 : IntKind.wrap .i64 x1_9 = x1_9 := w64_in (by omega) (by omega)
  obtain ⟨l1_12, g1_12⟩ := bd_u8 a1_12 b1_12
  have w1_12 : IntKind.wrap .i64 x1_12 = x1_12 := w64_in (by omega) (by omega)
  obtain ⟨l1_13, g1_13⟩ := bd_u8 a1_13 b1_13
  have w1_13 : IntKind.wrap .i64 x1_13 = x1_13 := w64_in (by omega) (by omega)
  obtain ⟨l1_14, g1_14⟩ := bd_u8 a1_14 b1_14
  have w1_14 : IntKind.wrap .i64 x1_14 = x1_14 := w64_in (by omega) (by omega)
  obtain ⟨l1_15, g1_15⟩ := bd_u8 a1_15 b1_15
  have w1_15 : IntKind.wrap .i64 x1_15 = x1_15 := w64_in (by omega) (by omega)
  obtain ⟨l2, g2⟩ := bd_u16 a2 b2
  have w2 : IntKind.wrap .i64 x2 = x2 := w64_in (by omega) (by omega)
  obtain ⟨l3_0, g3_0⟩ := bd_u16 a3_0 b3_0
  have w3_0 : IntKind.wrap .i64 x3_0 = x3_0 := w64_in (by omega) (by omega)
  obtain ⟨l3_1, g3_1⟩ := bd_u16 a3_1 b3_1
  have w3_1 : IntKind.wrap .i64 x3_1 = x3_1 := w64_in (by omega) (by omega)
  obtain ⟨l3_2, g3_2⟩ := bd_u16 a3_2 b3_2
  have w3_2 : IntKind.wrap .i64 x3_2 = x3_2 := w64_in (by omega) (by omega)
  obtain ⟨l3_3, g3_3⟩ := bd_u16 a3_3 b3_3
  have w3_3 : IntKind.wrap .i64 x3_3 = x3_3 := w64_in (by omega) (by omega)
  have H := sm_SB x1_11 l1_0 l1_1 l1_2 g1_2 l1_3 g1_3 l1_4 l1_5 l1_6 l1_7 l1_8
  have L := sm_SB (d := 7) true (by omega) l1_1 l1_2 g1_2 l1_3 g1_3 l1_4 l1_5 l1_6 l1_7 l1_8
  obtain ⟨z1, z2, z3, z4, z5⟩ := sm_late x1_1 x1_5 x1_6 x1_7 x1_8
  have z0 : sm9State_0 7 = 7 := by decide
  rw [z0, z1, z2, z3, z4, z5] at L
  obtain ⟨n, hn, hn2⟩ := sm6_bd x1_11 l1_8
  have s2 : lTwice_s2 x0_0 x0_4 x0_5 x1_0 x1_1 x1_2 x1_3 x1_7 x1_8 x1_11 x2 x3_0 x3_3 = false := by
    unfold lTwice_s2
    rw [w0_4, w2, w3_0, w3_3, pput_0 H l0_5 g0_5 l0_0 g0_0, hn]
    exact Eq.trans (by rw [show (IntKind.wrap IntKind.u8 (Int.ofNat (Int.toNat (Int.fdiv (n : Int) ((2 : Int) ^ min (Int.toNat (0 : Int)) (IntKind.bits IntKind.u8)) % lTwice_s0) &&& lTwice_s1)) == (0 : Int)) = !cw n 0 from ch_0 n hn2]) un_C
  have s4 : lTwice_s4 x0_1 x0_4 x0_5 x1_0 x1_1 x1_2 x1_3 x1_7 x1_8 x1_11 x2 x3_1 x3_3 = false := by
    unfold lTwice_s4
    rw [w0_4, w2, w3_1, w3_3, pput_1 H l0_5 g0_5 l0_1 g0_1, hn]
    exact Eq.trans (by rw [show (IntKind.wrap IntKind.u8 (Int.ofNat (Int.toNat (Int.fdiv (n : Int) ((2 : Int) ^ min (Int.toNat lTwice_s3) (IntKind.bits IntKind.u8)) % lTwice_s0) &&& lTwice_s1)) == (0 : Int)) = !cw n 1 from ch_1 n hn2]) un_C
  have s6 : lTwice_s6 x0_2 x0_4 x0_5 x1_0 x1_1 x1_2 x1_3 x1_7 x1_8 x1_11 x2 x3_2 x3_3 = false := by
    unfold lTwice_s6
    rw [w0_4, w2, w3_2, w3_3, pput_2 H l0_5 g0_5 l0_2 g0_2, hn]
    exact Eq.trans (by rw [show (IntKind.wrap IntKind.u8 (Int.ofNat (Int.toNat (Int.fdiv (n : Int) ((2 : Int) ^ min (Int.toNat lTwice_s5) (IntKind.bits IntKind.u8)) % lTwice_s0) &&& lTwice_s1)) == (0 : Int)) = !cw n 2 from ch_2 n hn2]) un_C
  have s8 : (bif IntKind.wrap IntKind.u8 (Int.ofNat (Int.toNat (Int.fdiv (sm9State_6 x1_8 x1_11) ((2 : Int) ^ min (Int.toNat (IntKind.wrap IntKind.i64 (lTwice_s5 + (1 : Int)))) (IntKind.bits IntKind.u8)) % lTwice_s0) &&& lTwice_s1)) == (0 : Int) then pPut_3 x0_3 x0_4 x0_5 (sm9State_0 x1_0) (sm9State_1 x1_1 x1_11) x1_2 x1_3 (sm9State_5 x1_7 x1_11) (sm9State_6 x1_8 x1_11) x2 x3_3 != x0_3 else false) = false := by
    rw [pput_3 H l0_5 g0_5 l0_3 g0_3, hn]
    exact Eq.trans (by rw [show (IntKind.wrap IntKind.u8 (Int.ofNat (Int.toNat (Int.fdiv (n : Int) ((2 : Int) ^ min (Int.toNat (IntKind.wrap IntKind.i64 (lTwice_s5 + (1 : Int)))) (IntKind.bits IntKind.u8)) % lTwice_s0) &&& lTwice_s1)) == (0 : Int)) = !cw n 3 from ch_3 n hn2]) un_C
  have t7 : lTwice_s7 x0_0 x0_4 x0_5 x1_1 x1_2 x1_3 x1_7 x1_8 x2 x3_0 x3_3 = by8 x3_0 := by
    unfold lTwice_s7
    rw [z0, z1, z4, z5, w0_4, w2, w3_0, w3_3, pput_0 L l0_5 g0_5 l0_0 g0_0, late_C k_0, holds_7]; rfl
  have t10 : lTwice_s10 x0_1 x0_4 x0_5 x1_1 x1_2 x1_3 x1_7 x1_8 x2 x3_1 x3_3 = by8 x3_1 := by
    unfold lTwice_s10
    rw [z0, z1, z4, z5, w0_4, w2, w3_1, w3_3, pput_1 L l0_5 g0_5 l0_1 g0_1, late_C k_1, holds_7]; rfl
  have t11 : lTwice_s11 x0_2 x0_4 x0_5 x1_1 x1_2 x1_3 x1_7 x1_8 x2 x3_2 x3_3 = by8 x3_2 := by
    unfold lTwice_s11
    rw [z0, z1, z4, z5, w0_4, w2, w3_2, w3_3, pput_2 L l0_5 g0_5 l0_2 g0_2, late_C k_2, holds_7]; rfl
  have t12 : lTwice_s12 x0_3 x0_4 x0_5 x1_1 x1_2 x1_3 x1_7 x1_8 x2 x3_3 = by8 x3_3 := by
    unfold lTwice_s12
    rw [z0, z1, z4, z5, w0_4, w2, w3_3, pput_3 L l0_5 g0_5 l0_3 g0_3, late_C k_3, holds_7]; rfl
  have t8 : lTwice_s8 x0_4 x0_5 x1_1 x1_2 x1_3 x1_10 x2 = bif x1_10 then x2 else x0_4 := by
    unfold lTwice_s8
    rw [z0, z1, w0_4, w2, pput_4 L l0_5 g0_5 l2 g2, late_D, holds_7]; rfl
  have t9 : lTwice_s9 x0_4 x0_5 x1_1 x1_2 x1_3 x1_4 x1_5 x1_6 x2 = x0_5 := by
    unfold lTwice_s9
    rw [z0, z1, z2, z3, w0_4, w2, pput_5 L l0_5 g0_5, late_S]
  unfold lTwice_0
  rw [s2, s4, s6, w0_4, w2, w3_0, w3_1, w3_2, w3_3, s8, aw19_t, t7, t8, t9, t10, t11, t12, z0, z1, z2, z3, z4, z5]
  have b0 := by8_bd x3_0
  have b1 := by8_bd x3_1
  have b2 := by8_bd x3_2
  have b3 := by8_bd x3_3
  rw [pput_0 L l0_5 g0_5 b0.1 b0.2, pput_1 L l0_5 g0_5 b1.1 b1.2, pput_2 L l0_5 g0_5 b2.1 b2.2, pput_3 L l0_5 g0_5 b3.1 b3.2, pput_4 L l0_5 g0_5 l2 g2, pput_5 L l0_5 g0_5, late_C k_0, late_C k_1, late_C k_2, late_C k_3, late_S, late_D, holds_7, pput_4 H l0_5 g0_5 l2 g2]
  unfold putD
  cases x1_10 <;> simp

theorem tst_m0 (st ref s : Int) : tst st ref 0 s = (Int.tmod (IntKind.wrap .i64 (Int.tdiv st 2)) 2 == 1) := by
  unfold tst rHolds_0
  simp

theorem PixelMasks_true (x0_0 : Int) (a0_0 : IntKind.min .u8 ≤ x0_0) (b0_0 : x0_0 ≤ IntKind.max .u8) (x0_1 : Int) (a0_1 : IntKind.min .u8 ≤ x0_1) (b0_1 : x0_1 ≤ IntKind.max .u8) (x0_2 : Int) (a0_2 : IntKind.min .u8 ≤ x0_2) (b0_2 : x0_2 ≤ IntKind.max .u8) (x0_3 : Int) (a0_3 : IntKind.min .u8 ≤ x0_3) (b0_3 : x0_3 ≤ IntKind.max .u8) (x0_4 : Int) (a0_4 : IntKind.min .u16 ≤ x0_4) (b0_4 : x0_4 ≤ IntKind.max .u16) (x0_5 : Int) (a0_5 : IntKind.min .u8 ≤ x0_5) (b0_5 : x0_5 ≤ IntKind.max .u8) (x1_0 : Int) (a1_0 : IntKind.min .u8 ≤ x1_0) (b1_0 : x1_0 ≤ IntKind.max .u8) (x1_1 : Int) (a1_1 : IntKind.min .u8 ≤ x1_1) (b1_1 : x1_1 ≤ IntKind.max .u8) (x1_2 : Int) (a1_2 : IntKind.min .u8 ≤ x1_2) (b1_2 : x1_2 ≤ IntKind.max .u8) (x1_3 : Int) (a1_3 : IntKind.min .u8 ≤ x1_3) (b1_3 : x1_3 ≤ IntKind.max .u8) (x1_4 : Int) (a1_4 : IntKind.min .u8 ≤ x1_4) (b1_4 : x1_4 ≤ IntKind.max .u8) (x1_5 : Int) (a1_5 : IntKind.min .u8 ≤ x1_5) (b1_5 : x1_5 ≤ IntKind.max .u8) (x1_6 : Int) (a1_6 : IntKind.min .u8 ≤ x1_6) (b1_6 : x1_6 ≤ IntKind.max .u8) (x1_7 : Int) (a1_7 : IntKind.min .u8 ≤ x1_7) (b1_7 : x1_7 ≤ IntKind.max .u8) (x1_8 : Int) (a1_8 : IntKind.min .u8 ≤ x1_8) (b1_8 : x1_8 ≤ IntKind.max .u8) (x1_9 : Int) (a1_9 : IntKind.min .u8 ≤ x1_9) (b1_9 : x1_9 ≤ IntKind.max .u8) (x1_10 : Bool) (x1_11 : Bool) (x1_12 : Int) (a1_12 : IntKind.min .u8 ≤ x1_12) (b1_12 : x1_12 ≤ IntKind.max .u8) (x1_13 : Int) (a1_13 : IntKind.min .u8 ≤ x1_13) (b1_13 : x1_13 ≤ IntKind.max .u8) (x1_14 : Int) (a1_14 : IntKind.min .u8 ≤ x1_14) (b1_14 : x1_14 ≤ IntKind.max .u8) (x1_15 : Int) (a1_15 : IntKind.min .u8 ≤ x1_15) (b1_15 : x1_15 ≤ IntKind.max .u8) (x2 : Int) (a2 : IntKind.min .u16 ≤ x2) (b2 : x2 ≤ IntKind.max .u16) (x3_0 : Int) (a3_0 : IntKind.min .u16 ≤ x3_0) (b3_0 : x3_0 ≤ IntKind.max .u16) (x3_1 : Int) (a3_1 : IntKind.min .u16 ≤ x3_1) (b3_1 : x3_1 ≤ IntKind.max .u16) (x3_2 : Int) (a3_2 : IntKind.min .u16 ≤ x3_2) (b3_2 : x3_2 ≤ IntKind.max .u16) (x3_3 : Int) (a3_3 : IntKind.min .u16 ≤ x3_3) (b3_3 : x3_3 ≤ IntKind.max .u16) : lMasks_0 x0_0 x0_1 x0_2 x0_3 x0_4 x0_5 x1_0 x1_1 x1_2 x1_4 x1_5 x1_6 x1_7 x1_8 x1_10 x1_11 x2 x3_0 x3_1 x3_2 x3_3 = true := by
  obtain ⟨l0_0, g0_0⟩ := bd_u8 a0_0 b0_0
  have w0_0 : IntKind.wrap .i64 x0_0 = x0_0 := w64_in (by omega) (by omega)
  obtain ⟨l0_1, g0_1⟩ := bd_u8 a0_1 b0_1
  have w0_1 : IntKind.wrap .i64 x0_1 = x0_1 := w64_in (by omega) (by omega)
  obtain ⟨l0_2, g0_2⟩ := bd_u8 a0_2 b0_2
  have w0_2 : IntKind.wrap .i64 x0_2 = x0_2 := w64_in (by omega) (by omega)
  obtain ⟨l0_3, g0_3⟩ := bd_u8 a0_3 b0_3
  have w0_3 : IntKind.wrap .i64 x0_3 = x0_3 := w64_in (by omega) (by omega)
  obtain ⟨l0_4, g0_4⟩ := bd_u16 a0_4 b0_4
  have w0_4 : IntKind.wrap .i64 x0_4 = x0_4 := w64_in (by omega) (by omega)
  obtain ⟨l0_5, g0_5⟩ := bd_u8 a0_5 b0_5
  have w0_5 : IntKind.wrap .i64 x0_5 = x0_5 := w64_in (by omega) (by omega)
  obtain ⟨l1_0, g1_0⟩ := bd_u8 a1_0 b1_0
  have w1_0 : IntKind.wrap .i64 x1_0 = x1_0 := w64_in (by omega) (by omega)
  obtain ⟨l1_1, g1_1⟩ := bd_u8 a1_1 b1_1
  have w1_1 : IntKind.wrap .i64 x1_1 = x1_1 := w64_in (by omega) (by omega)
  obtain ⟨l1_2, g1_2⟩ := bd_u8 a1_2 b1_2
  have w1_2 : IntKind.wrap .i64 x1_2 = x1_2 := w64_in (by omega) (by omega)
  obtain ⟨l1_3, g1_3⟩ := bd_u8 a1_3 b1_3
  have w1_3 : IntKind.wrap .i64 x1_3 = x1_3 := w64_in (by omega) (by omega)
  obtain ⟨l1_4, g1_4⟩ := bd_u8 a1_4 b1_4
  have w1_4 : IntKind.wrap .i64 x1_4 = x1_4 := w64_in (by omega) (by omega)
  obtain ⟨l1_5, g1_5⟩ := bd_u8 a1_5 b1_5
  have w1_5 : IntKind.wrap .i64 x1_5 = x1_5 := w64_in (by omega) (by omega)
  obtain ⟨l1_6, g1_6⟩ := bd_u8 a1_6 b1_6
  have w1_6 : IntKind.wrap .i64 x1_6 = x1_6 := w64_in (by omega) (by omega)
  obtain ⟨l1_7, g1_7⟩ := bd_u8 a1_7 b1_7
  have w1_7 : IntKind.wrap .i64 x1_7 = x1_7 := w64_in (by omega) (by omega)
  obtain ⟨l1_8, g1_8⟩ := bd_u8 a1_8 b1_8
  have w1_8 : IntKind.wrap .i64 x1_8 = x1_8 := w64_in (by omega) (by omega)
  obtain ⟨l1_9, g1_9⟩ := bd_u8 a1_9 b1_9
  have w1_9 : IntKind.wrap .i64 x1_9 = x1_9 := w64_in (by omega) (by omega)
  obtain ⟨l1_12, g1_12⟩ := bd_u8 a1_12 b1_12
  have w1_12 : IntKind.wrap .i64 x1_12 = x1_12 := w64_in (by omega) (by omega)
  obtain ⟨l1_13, g1_13⟩ := bd_u8 a1_13 b1_13
  have w1_13 : IntKind.wrap .i64 x1_13 = x1_13 := w64_in (by omega) (by omega)
  obtain ⟨l1_14, g1_14⟩ := bd_u8 a1_14 b1_14
  have w1_14 : IntKind.wrap .i64 x1_14 = x1_14 := w64_in (by omega) (by omega)
  obtain ⟨l1_15, g1_15⟩ := bd_u8 a1_15 b1_15
  have w1_15 : IntKind.wrap .i64 x1_15 = x1_15 := w64_in (by omega) (by omega)
  obtain ⟨l2, g2⟩ := bd_u16 a2 b2
  have w2 : IntKind.wrap .i64 x2 = x2 := w64_in (by omega) (by omega)
  obtain ⟨l3_0, g3_0⟩ := bd_u16 a3_0 b3_0
  have w3_0 : IntKind.wrap .i64 x3_0 = x3_0 := w64_in (by omega) (by omega)
  obtain ⟨l3_1, g3_1⟩ := bd_u16 a3_1 b3_1
  have w3_1 : IntKind.wrap .i64 x3_1 = x3_1 := w64_in (by omega) (by omega)
  obtain ⟨l3_2, g3_2⟩ := bd_u16 a3_2 b3_2
  have w3_2 : IntKind.wrap .i64 x3_2 = x3_2 := w64_in (by omega) (by omega)
  obtain ⟨l3_3, g3_3⟩ := bd_u16 a3_3 b3_3
  have w3_3 : IntKind.wrap .i64 x3_3 = x3_3 := w64_in (by omega) (by omega)
  have H := sm_SB (mask := 0) x1_11 l1_0 l1_1 l1_2 g1_2 (by omega) (by omega) l1_4 l1_5 l1_6 l1_7 l1_8
  have H7 : SB (sm9State_0 x1_0) 7 x1_2 0 (sm9State_2 x1_4) (sm9State_3 x1_5 x1_11) (sm9State_4 x1_6 x1_11) (sm9State_5 x1_7 x1_11) (sm9State_6 x1_8 x1_11) :=
    ⟨H.d0, H.d1, by omega, by omega, H.r0, H.r1, H.m0, H.m1, H.f0, H.f1, H.h0, H.h1, H.p0, H.p1, H.b0, H.b1, H.c0, H.c1⟩
  unfold lMasks_0 lMasks_s1 lMasks_s2 lMasks_s3 lMasks_s4 lMasks_s5 lMasks_s6
  rw [w0_4, w2, w3_0, w3_1, w3_2, w3_3, aw19_t,
    pput_0 H l0_5 g0_5 l0_0 g0_0, pput_1 H l0_5 g0_5 l0_1 g0_1, pput_2 H l0_5 g0_5 l0_2 g0_2, pput_3 H l0_5 g0_5 l0_3 g0_3, pput_4 H l0_5 g0_5 l2 g2, pput_5 H l0_5 g0_5,
    pput_0 H7 l0_5 g0_5 l0_0 g0_0, pput_1 H7 l0_5 g0_5 l0_1 g0_1, pput_2 H7 l0_5 g0_5 l0_2 g0_2, pput_3 H7 l0_5 g0_5 l0_3 g0_3, pput_4 H7 l0_5 g0_5 l2 g2, pput_5 H7 l0_5 g0_5, (do_eq H.f0 H.f1 l0_5 g0_5 H.r0 H.r1).1]
  have t0 := tst_m0 (sm9State_1 x1_1 x1_11) x1_2 x0_5
  unfold putC putD putS
  rw [tst_7]
  have e : (IntKind.wrap IntKind.u8 (Int.ofNat (Int.toNat (sm9State_1 x1_1 x1_11 % lMasks_s0) &&& Int.toNat ((2 : Int) % lMasks_s0))) != (0 : Int)) = tst (sm9State_1 x1_1 x1_11) x1_2 0 x0_5 := by
    rw [t0]
    obtain ⟨n, hn⟩ := nat_of H.t0
    have := H.t1
    rw [hn] at this ⊢
    exact bit_2 n (by omega)
  rw [e]
  cases tst (sm9State_1 x1_1 x1_11) x1_2 0 x0_5 <;> simp

theorem cb_1 : ∀ n : Nat, n < 256 → (IntKind.wrap IntKind.u8 (Int.ofNat (Int.toNat ((n : Int) % pClear_s0) &&& Int.toNat ((1 : Int) % pClear_s0))) != (0 : Int)) = (Int.tmod (n : Int) 2 == 1) := by decide +kernel
theorem cb_2 : ∀ n : Nat, n < 256 → (IntKind.wrap IntKind.u8 (Int.ofNat (Int.toNat ((n : Int) % pClear_s0) &&& Int.toNat ((2 : Int) % pClear_s0))) != (0 : Int)) = (Int.tmod (IntKind.wrap .u8 (Int.tdiv (n : Int) 2)) 2 == 1) := by decide +kernel
theorem cb_4 : ∀ n : Nat, n < 256 → (IntKind.wrap IntKind.u8 (Int.ofNat (Int.toNat ((n : Int) % pClear_s0) &&& Int.toNat ((4 : Int) % pClear_s0))) != (0 : Int)) = (Int.tmod (IntKind.wrap .u8 (Int.tdiv (n : Int) 4)) 2 == 1) := by decide +kernel

theorem PixelClears_true (x0_0 : Int) (a0_0 : IntKind.min .u8 ≤ x0_0) (b0_0 : x0_0 ≤ IntKind.max .u8) (x0_1 : Int) (a0_1 : IntKind.min .u8 ≤ x0_1) (b0_1 : x0_1 ≤ IntKind.max .u8) (x0_2 : Int) (a0_2 : IntKind.min .u8 ≤ x0_2) (b0_2 : x0_2 ≤ IntKind.max .u8) (x0_3 : Int) (a0_3 : IntKind.min .u8 ≤ x0_3) (b0_3 : x0_3 ≤ IntKind.max .u8) (x0_4 : Int) (a0_4 : IntKind.min .u16 ≤ x0_4) (b0_4 : x0_4 ≤ IntKind.max .u16) (x0_5 : Int) (a0_5 : IntKind.min .u8 ≤ x0_5) (b0_5 : x0_5 ≤ IntKind.max .u8) (x1_0 : Int) (a1_0 : IntKind.min .u8 ≤ x1_0) (b1_0 : x1_0 ≤ IntKind.max .u8) (x1_1 : Int) (a1_1 : IntKind.min .u8 ≤ x1_1) (b1_1 : x1_1 ≤ IntKind.max .u8) (x1_2 : Int) (a1_2 : IntKind.min .u8 ≤ x1_2) (b1_2 : x1_2 ≤ IntKind.max .u8) (x1_3 : Int) (a1_3 : IntKind.min .u8 ≤ x1_3) (b1_3 : x1_3 ≤ IntKind.max .u8) (x1_4 : Int) (a1_4 : IntKind.min .u16 ≤ x1_4) (b1_4 : x1_4 ≤ IntKind.max .u16) (x1_5 : Int) (a1_5 : IntKind.min .u8 ≤ x1_5) (b1_5 : x1_5 ≤ IntKind.max .u8) (x2 : Int) (a2 : IntKind.min .u8 ≤ x2) (b2 : x2 ≤ IntKind.max .u8) : lClears_0 x0_0 x0_1 x0_2 x0_3 x0_4 x0_5 x1_0 x1_1 x1_2 x1_3 x1_4 x1_5 x2 = true := by
  obtain ⟨l0_0, g0_0⟩ := bd_u8 a0_0 b0_0
  have w0_0 : IntKind.wrap .i64 x0_0 = x0_0 := w64_in (by omega) (by omega)
  obtain ⟨l0_1, g0_1⟩ := bd_u8 a0_1 b0_1
  have w0_1 : IntKind.wrap .i64 x0_1 = x0_1 := w64_in (by omega) (by omega)
  obtain ⟨l0_2, g0_2⟩ := bd_u8 a0_2 b0_2
  have w0_2 : IntKind.wrap .i64 x0_2 = x0_2 := w64_in (by omega) (by omega)
  obtain ⟨l0_3, g0_3⟩ := bd_u8 a0_3 b0_3
  have w0_3 : IntKind.wrap .i64 x0_3 = x0_3 := w64_in (by omega) (by omega)
  obtain ⟨l0_4, g0_4⟩ := bd_u16 a0_4 b0_4
  have w0_4 : IntKind.wrap .i64 x0_4 = x0_4 := w64_in (by omega) (by omega)
  obtain ⟨l0_5, g0_5⟩ := bd_u8 a0_5 b0_5
  have w0_5 : IntKind.wrap .i64 x0_5 = x0_5 := w64_in (by omega) (by omega)
  obtain ⟨l1_0, g1_0⟩ := bd_u8 a1_0 b1_0
  have w1_0 : IntKind.wrap .i64 x1_0 = x1_0 := w64_in (by omega) (by omega)
  obtain ⟨l1_1, g1_1⟩ := bd_u8 a1_1 b1_1
  have w1_1 : IntKind.wrap .i64 x1_1 = x1_1 := w64_in (by omega) (by omega)
  obtain ⟨l1_2, g1_2⟩ := bd_u8 a1_2 b1_2
  have w1_2 : IntKind.wrap .i64 x1_2 = x1_2 := w64_in (by omega) (by omega)
  obtain ⟨l1_3, g1_3⟩ := bd_u8 a1_3 b1_3
  have w1_3 : IntKind.wrap .i64 x1_3 = x1_3 := w64_in (by omega) (by omega)
  obtain ⟨l1_4, g1_4⟩ := bd_u16 a1_4 b1_4
  have w1_4 : IntKind.wrap .i64 x1_4 = x1_4 := w64_in (by omega) (by omega)
  obtain ⟨l1_5, g1_5⟩ := bd_u8 a1_5 b1_5
  have w1_5 : IntKind.wrap .i64 x1_5 = x1_5 := w64_in (by omega) (by omega)
  obtain ⟨l2, g2⟩ := bd_u8 a2 b2
  have w2 : IntKind.wrap .i64 x2 = x2 := w64_in (by omega) (by omega)
  obtain ⟨n, rfl⟩ := nat_of l2
  have e : pClear_s1 n = lClears_s0 n := by unfold pClear_s1 lClears_s0; exact cb_1 n (by omega)
  unfold lClears_0 pClear_0 pClear_1 pClear_2 pClear_3 pClear_4 pClear_5
  rw [e, cb_2 n (by omega), cb_4 n (by omega), aw19_t, w0_4, w1_4]
  simp

end Go.Proofs.Ytbdmaepooahplaa
