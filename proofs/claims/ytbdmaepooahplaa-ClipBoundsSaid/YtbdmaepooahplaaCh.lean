/-
  Laws on planes and where they are crossed.
-/
import Derived.Test.YtbdmaepooahplaaCg
import Derived.Test.YtbdmaepooahplaaSd
namespace Go.Proofs.Ytbdmaepooahplaa
open Go Go.RowKit Go.Proofs.Ytbdmaepooahplaa.V
set_option linter.unusedVariables false
set_option linter.unusedSectionVars false

theorem ClipInside_true (x0_0 : Int) (a0_0 : IntKind.min .i16 ≤ x0_0) (b0_0 : x0_0 ≤ IntKind.max .i16) (x0_1 : Int) (a0_1 : IntKind.min .i16 ≤ x0_1) (b0_1 : x0_1 ≤ IntKind.max .i16) (x0_2 : Int) (a0_2 : IntKind.min .i16 ≤ x0_2) (b0_2 : x0_2 ≤ IntKind.max .i16) (x0_3 : Int) (a0_3 : IntKind.min .i16 ≤ x0_3) (b0_3 : x0_3 ≤ IntKind.max .i16) (x0_4 : Int) (a0_4 : IntKind.min .u8 ≤ x0_4) (b0_4 : x0_4 ≤ IntKind.max .u8) (x0_5 : Int) (a0_5 : IntKind.min .u8 ≤ x0_5) (b0_5 : x0_5 ≤ IntKind.max .u8) (x0_6 : Int) (a0_6 : IntKind.min .u8 ≤ x0_6) (b0_6 : x0_6 ≤ IntKind.max .u8) (x0_7 : Int) (a0_7 : IntKind.min .u8 ≤ x0_7) (b0_7 : x0_7 ≤ IntKind.max .u8) (x0_8 : Bool) (x1_0 : Int) (a1_0 : IntKind.min .i64 ≤ x1_0) (b1_0 : x1_0 ≤ IntKind.max .i64) (x1_1 : Int) (a1_1 : IntKind.min .i64 ≤ x1_1) (b1_1 : x1_1 ≤ IntKind.max .i64) (x1_2 : Int) (a1_2 : IntKind.min .i64 ≤ x1_2) (b1_2 : x1_2 ≤ IntKind.max .i64) (x1_3 : Int) (a1_3 : IntKind.min .i64 ≤ x1_3) (b1_3 : x1_3 ≤ IntKind.max .i64) (x2 : Int) (a2 : IntKind.min .i64 ≤ x2) (b2 : x2 ≤ IntKind.max .i64) : lInside_0 x0_0 x0_1 x0_2 x0_3 x0_8 x1_0 x1_1 x1_2 x1_3 x2 = true := by
  have t1 : lInside_s1 = 1 := by decide
  have t3 : lInside_s3 = 2 := by decide
  have t5 : lInside_s5 = 3 := by decide
  have t7 : lInside_s7 = 4 := by decide
  have t9 : lInside_s9 = 5 := by decide
  have t11 : lInside_s11 = 6 := by decide
  have s0 : lInside_s0 x0_0 x0_1 x0_2 x0_3 x0_8 = false := ie_ne _ _ _ _ (by omega) (by omega)
  have s2 : lInside_s2 x0_0 x0_1 x0_2 x0_3 x0_8 = false := ie_ne _ _ _ _ (by omega) (by omega)
  have s4 : lInside_s4 x0_0 x0_1 x0_2 x0_3 x0_8 = false := ie_ne _ _ _ _ (by omega) (by omega)
  have s6 : lInside_s6 x0_0 x0_1 x0_2 x0_3 x0_8 = false := ie_ne _ _ _ _ (by omega) (by omega)
  have s8 : lInside_s8 x0_0 x0_1 x0_2 x0_3 x0_8 = false := ie_ne _ _ _ _ (by omega) (by omega)
  have s10 : lInside_s10 x0_0 x0_1 x0_2 x0_3 x0_8 = false := ie_ne _ _ _ _ (by omega) (by omega)
  have s12 : lInside_s12 x0_0 x0_1 x0_2 x0_3 x0_8 = false := ie_ne _ _ _ _ (by omega) (by omega)
  have s19 : lInside_s19 x1_0 x1_1 x1_2 x1_3 = false := ie_ne _ _ _ _ (by omega) (by omega)
  have s20 : lInside_s20 x1_0 x1_1 x1_2 x1_3 = false := ie_ne _ _ _ _ (by omega) (by omega)
  have s21 : lInside_s21 x1_0 x1_1 x1_2 x1_3 = false := ie_ne _ _ _ _ (by omega) (by omega)
  have s22 : lInside_s22 x1_0 x1_1 x1_2 x1_3 = false := ie_ne _ _ _ _ (by omega) (by omega)
  have s23 : lInside_s23 x1_0 x1_1 x1_2 x1_3 = false := ie_ne _ _ _ _ (by omega) (by omega)
  have s24 : lInside_s24 x1_0 x1_1 x1_2 x1_3 = false := ie_ne _ _ _ _ (by omega) (by omega)
  have s25 : lInside_s25 x1_0 x1_1 x1_2 x1_3 = false := ie_ne _ _ _ _ (by omega) (by omega)
  have s17 : lInside_s17 x0_0 x0_1 x0_2 x0_3 x0_8 x2 = false := by
    unfold lInside_s17 lInside_s14 lInside_s16 lInside_s15
    by_cases h : x2 < 0
    · rw [decide_eq_true h, io_ne _ _ _ _ (Or.inl h)]; rfl
    · rw [decide_eq_false h]
      by_cases h2 : 6 < x2
      · rw [decide_eq_true h2, io_ne _ _ _ _ (Or.inr h2)]; rfl
      · rw [decide_eq_false h2]; rfl
  have s26 : (bif lInside_s14 x2 then lInside_s26 x1_0 x1_1 x1_2 x1_3 x2 else bif lInside_s16 x2 then lInside_s26 x1_0 x1_1 x1_2 x1_3 x2 else false) = false := by
    unfold lInside_s14 lInside_s16 lInside_s26
    by_cases h : x2 < 0
    · rw [decide_eq_true h, io_ne _ _ _ _ (Or.inl h)]; rfl
    · rw [decide_eq_false h]
      by_cases h2 : 6 < x2
      · rw [decide_eq_true h2, io_ne _ _ _ _ (Or.inr h2)]; rfl
      · rw [decide_eq_false h2]; rfl
  unfold lInside_0
  rw [aw_true, s0, s2, s4, s6, s8, s10, s12, s17, s19, s20, s21, s22, s23, s24, s25, s26]
  simp only [Bool.not_true, Bool.not_false, Bool.and_false, Bool.and_true, Bool.or_self, cond_false]

theorem ClipInside_obs (x0_0 : Int) (a0_0 : IntKind.min .i16 ≤ x0_0) (b0_0 : x0_0 ≤ IntKind.max .i16) (x0_1 : Int) (a0_1 : IntKind.min .i16 ≤ x0_1) (b0_1 : x0_1 ≤ IntKind.max .i16) (x0_2 : Int) (a0_2 : IntKind.min .i16 ≤ x0_2) (b0_2 : x0_2 ≤ IntKind.max .i16) (x0_3 : Int) (a0_3 : IntKind.min .i16 ≤ x0_3) (b0_3 : x0_3 ≤ IntKind.max .i16) (x0_4 : Int) (a0_4 : IntKind.min .u8 ≤ x0_4) (b0_4 : x0_4 ≤ IntKind.max .u8) (x0_5 : Int) (a0_5 : IntKind.min .u8 ≤ x0_5) (b0_5 : x0_5 ≤ IntKind.max .u8) (x0_6 : Int) (a0_6 : IntKind.min .u8 ≤ x0_6) (b0_6 : x0_6 ≤ IntKind.max .u8) (x0_7 : Int) (a0_7 : IntKind.min .u8 ≤ x0_7) (b0_7 : x0_7 ≤ IntKind.max .u8) (x0_8 : Bool) (x1_0 : Int) (a1_0 : IntKind.min .i64 ≤ x1_0) (b1_0 : x1_0 ≤ IntKind.max .i64) (x1_1 : Int) (a1_1 : IntKind.min .i64 ≤ x1_1) (b1_1 : x1_1 ≤ IntKind.max .i64) (x1_2 : Int) (a1_2 : IntKind.min .i64 ≤ x1_2) (b1_2 : x1_2 ≤ IntKind.max .i64) (x1_3 : Int) (a1_3 : IntKind.min .i64 ≤ x1_3) (b1_3 : x1_3 ≤ IntKind.max .i64) (x2 : Int) (a2 : IntKind.min .i64 ≤ x2) (b2 : x2 ≤ IntKind.max .i64) : Alls (lInside_o x0_0 x0_1 x0_2 x0_3 x0_4 x0_5 x0_6 x0_7 x0_8 x1_0 x1_1 x1_2 x1_3 x2) := by
  unfold lInside_o
  obtain ⟨h1, h2, h3, h4, h5, h6, h7, h8, h9, _⟩ := aw_obs
  refine ⟨h1, h2, h3, h4, h5, h6, h7, h8, h9, ?_⟩
  refine ⟨?_, ?_, ?_, ?_, ?_, ?_, ?_, ?_, ?_, ?_, ?_, ?_, ?_, ?_, ?_, ?_, ?_, ?_, ?_, ?_, ?_, ?_, ?_, ?_, ?_, ?_, ?_, ?_, trivial⟩ <;> (intros; first | contradiction | decide)

/-- The law's places are in range. -/
theorem vb {x0 x1 x2 x3 x4 x5 x6 x7 : Int} (x8 : Bool) (a0 : IntKind.min .i16 ≤ x0) (b0 : x0 ≤ IntKind.max .i16) (a1 : IntKind.min .i16 ≤ x1) (b1 : x1 ≤ IntKind.max .i16) (a2 : IntKind.min .i16 ≤ x2) (b2 : x2 ≤ IntKind.max .i16) (a3 : IntKind.min .i16 ≤ x3) (b3 : x3 ≤ IntKind.max .i16)
    (a4 : IntKind.min .u8 ≤ x4) (b4 : x4 ≤ IntKind.max .u8) (a5 : IntKind.min .u8 ≤ x5) (b5 : x5 ≤ IntKind.max .u8) (a6 : IntKind.min .u8 ≤ x6) (b6 : x6 ≤ IntKind.max .u8) (a7 : IntKind.min .u8 ≤ x7) (b7 : x7 ≤ IntKind.max .u8) :
    Wn (l11V_0 x0) ∧ Wn (l11V_1 x1) ∧ Wn (l11V_2 x2) ∧ Wn (l11V_3 x3 x8) ∧ Wn (l11V_4 x4) ∧ Wn (l11V_5 x5) ∧ Wn (l11V_6 x6) ∧ Wn (l11V_7 x7) := by
  obtain ⟨l0, g0⟩ := bd_i16 a0 b0
  obtain ⟨l1, g1⟩ := bd_i16 a1 b1
  obtain ⟨l2, g2⟩ := bd_i16 a2 b2
  obtain ⟨l3, g3⟩ := bd_i16 a3 b3
  obtain ⟨l4, g4⟩ := bd_u8 a4 b4
  obtain ⟨l5, g5⟩ := bd_u8 a5 b5
  obtain ⟨l6, g6⟩ := bd_u8 a6 b6
  obtain ⟨l7, g7⟩ := bd_u8 a7 b7
  unfold Wn
  refine ⟨?_, ?_, ?_, ?_, ?_, ?_, ?_, ?_⟩
  · unfold l11V_0; rw [w64_in (n := x0) (by omega) (by omega), w64_in (by omega) (by omega)]; omega
  · unfold l11V_1; rw [w64_in (n := x1) (by omega) (by omega), w64_in (by omega) (by omega)]; omega
  · unfold l11V_2 l11V_s0; rw [w64_in (n := x2) (by omega) (by omega), w64_in (by omega) (by omega)]; split <;> omega
  · unfold l11V_3; rw [w64_in (n := x3) (by omega) (by omega), w64_in (n := x3 * 4) (by omega) (by omega), w64_in (by omega) (by omega)]; cases x8 <;> simp only [cond_true, cond_false] <;> omega
  · unfold l11V_4; rw [w64_in (n := x4) (by omega) (by omega), w64_in (by omega) (by omega)]; omega
  · unfold l11V_5; rw [w64_in (n := x5) (by omega) (by omega), w64_in (by omega) (by omega)]; omega
  · unfold l11V_6; rw [w64_in (n := x6) (by omega) (by omega), w64_in (by omega) (by omega)]; omega
  · unfold l11V_7; rw [w64_in (n := x7) (by omega) (by omega), w64_in (by omega) (by omega)]; omega

theorem mm_in {x y z : Int} (h : ∀ lo hi : Int, lo ≤ x → x ≤ hi → lo ≤ y → y ≤ hi → lo ≤ z ∧ z ≤ hi) : (decide (z < (if y < x then y else x)) = false) ∧ (decide ((if x < y then y else x) < z) = false) := by
  have h1 := h (min x y) (max x y) (by omega) (by omega) (by omega) (by omega)
  constructor
  · apply decide_eq_false
    split <;> omega
  · apply decide_eq_false
    split <;> omega

/-- Not between. -/
def bad (z x y w u v : Int) : Bool := bif decide (z < if y < x then y else x) then true else bif decide ((if x < y then y else x) < z) then true else bif decide (w < if v < u then v else u) then true else decide ((if u < v then v else u) < w)
/-- The law on an edge from A to B. -/
def crossL (p0 p1 p2 p3 p4 p5 p6 p7 q0 q1 q2 q3 q4 q5 q6 q7 k : Int) : Bool :=
  bif bif decide (cInside_0 p0 p1 p2 p3 k < 0) then true else decide (0 ≤ cInside_0 q0 q1 q2 q3 k) then
    cCross_0 p0 p1 p2 p3 q0 q1 q2 q3 k == p0 && (cCross_1 p0 p1 p2 p3 q0 q1 q2 q3 k == p1 && (cCross_2 p0 p1 p2 p3 q0 q1 q2 q3 k == p2 && cCross_3 p0 p1 p2 p3 q0 q1 q2 q3 k == p3)) && (cCross_4 p0 p1 p2 p3 p4 q0 q1 q2 q3 q4 k == p4 && (cCross_5 p0 p1 p2 p3 p5 q0 q1 q2 q3 q5 k == p5 && (cCross_6 p0 p1 p2 p3 p6 q0 q1 q2 q3 q6 k == p6 && cCross_7 p0 p1 p2 p3 p7 q0 q1 q2 q3 q7 k == p7)))
  else bif bad (cCross_0 p0 p1 p2 p3 q0 q1 q2 q3 k) p0 q0 (cCross_4 p0 p1 p2 p3 p4 q0 q1 q2 q3 q4 k) p4 q4 || !bad (cCross_0 p0 p1 p2 p3 q0 q1 q2 q3 k) p0 q0 (cCross_4 p0 p1 p2 p3 p4 q0 q1 q2 q3 q4 k) p4 q4 && (bad (cCross_1 p0 p1 p2 p3 q0 q1 q2 q3 k) p1 q1 (cCross_5 p0 p1 p2 p3 p5 q0 q1 q2 q3 q5 k) p5 q5 || !bad (cCross_1 p0 p1 p2 p3 q0 q1 q2 q3 k) p1 q1 (cCross_5 p0 p1 p2 p3 p5 q0 q1 q2 q3 q5 k) p5 q5 && (bad (cCross_2 p0 p1 p2 p3 q0 q1 q2 q3 k) p2 q2 (cCross_6 p0 p1 p2 p3 p6 q0 q1 q2 q3 q6 k) p6 q6 || !bad (cCross_2 p0 p1 p2 p3 q0 q1 q2 q3 k) p2 q2 (cCross_6 p0 p1 p2 p3 p6 q0 q1 q2 q3 q6 k) p6 q6 && bad (cCross_3 p0 p1 p2 p3 q0 q1 q2 q3 k) p3 q3 (cCross_7 p0 p1 p2 p3 p7 q0 q1 q2 q3 q7 k) p7 q7)) then false
  else decide ((if cInside_0 (cCross_0 p0 p1 p2 p3 q0 q1 q2 q3 k) (cCross_1 p0 p1 p2 p3 q0 q1 q2 q3 k) (cCross_2 p0 p1 p2 p3 q0 q1 q2 q3 k) (cCross_3 p0 p1 p2 p3 q0 q1 q2 q3 k) k < IntKind.wrap .i64 (0 - cInside_0 (cCross_0 p0 p1 p2 p3 q0 q1 q2 q3 k) (cCross_1 p0 p1 p2 p3 q0 q1 q2 q3 k) (cCross_2 p0 p1 p2 p3 q0 q1 q2 q3 k) (cCross_3 p0 p1 p2 p3 q0 q1 q2 q3 k) k) then IntKind.wrap .i64 (0 - cInside_0 (cCross_0 p0 p1 p2 p3 q0 q1 q2 q3 k) (cCross_1 p0 p1 p2 p3 q0 q1 q2 q3 k) (cCross_2 p0 p1 p2 p3 q0 q1 q2 q3 k) (cCross_3 p0 p1 p2 p3 q0 q1 q2 q3 k) k) else cInside_0 (cCross_0 p0 p1 p2 p3 q0 q1 q2 q3 k) (cCross_1 p0 p1 p2 p3 q0 q1 q2 q3 k) (cCross_2 p0 p1 p2 p3 q0 q1 q2 q3 k) (cCross_3 p0 p1 p2 p3 q0 q1 q2 q3 k) k) ≤ 9)

theorem crossL_true {p0 p1 p2 p3 p4 p5 p6 p7 q0 q1 q2 q3 q4 q5 q6 q7 k : Int} (hp0 : Wn p0) (hq0 : Wn q0) (hp1 : Wn p1) (hq1 : Wn q1) (hp2 : Wn p2) (hq2 : Wn q2) (hp3 : Wn p3) (hq3 : Wn q3) (hp4 : Wn p4) (hq4 : Wn q4) (hp5 : Wn p5) (hq5 : Wn q5) (hp6 : Wn p6) (hq6 : Wn q6) (hp7 : Wn p7) (hq7 : Wn q7) (hk : 0 ≤ k ∧ k ≤ 6) : crossL p0 p1 p2 p3 p4 p5 p6 p7 q0 q1 q2 q3 q4 q5 q6 q7 k = true := by
  unfold crossL
  by_cases h : cInside_0 p0 p1 p2 p3 k < 0 ∨ 0 ≤ cInside_0 q0 q1 q2 q3 k
  · have e : (bif decide (cInside_0 p0 p1 p2 p3 k < 0) then true else decide (0 ≤ cInside_0 q0 q1 q2 q3 k)) = true := cross_raw h
    rw [e]
    simp only [cond_true, cCross_0, cCross_1, cCross_2, cCross_3, cCross_4, cCross_5, cCross_6, cCross_7, cross_raw h, beq_self_eq_true, Bool.and_self]
  · have ha : 0 ≤ cInside_0 p0 p1 p2 p3 k := by omega
    have hb : cInside_0 q0 q1 q2 q3 k < 0 := by omega
    have e : (bif decide (cInside_0 p0 p1 p2 p3 k < 0) then true else decide (0 ≤ cInside_0 q0 q1 q2 q3 k)) = false := by
      rw [decide_eq_false (by omega), decide_eq_false (by omega)]; rfl
    have ea : cInside_0 p0 p1 p2 p3 k = ins p0 p1 p2 p3 k := by rw [inside_eq, wi_id hp0, wi_id hp1, wi_id hp2, wi_id hp3]
    have eb : cInside_0 q0 q1 q2 q3 k = ins q0 q1 q2 q3 k := by rw [inside_eq, wi_id hq0, wi_id hq1, wi_id hq2, wi_id hq3]
    have c : ∀ x y : Int, Wn x → Wn y → (bif cCross_s0 p0 p1 p2 p3 q0 q1 q2 q3 k then x else crossB_0 x y (cInside_0 p0 p1 p2 p3 k) (cInside_0 q0 q1 q2 q3 k)) = btw x y (ins p0 p1 p2 p3 k) (ins q0 q1 q2 q3 k) := fun x y hx hy => by
      rw [cross_eq ha hb x y, wi_id hx, wi_id hy, ea, eb]
    have c0 : cCross_0 p0 p1 p2 p3 q0 q1 q2 q3 k = _ := c p0 q0 hp0 hq0
    have c1 : cCross_1 p0 p1 p2 p3 q0 q1 q2 q3 k = _ := c p1 q1 hp1 hq1
    have c2 : cCross_2 p0 p1 p2 p3 q0 q1 q2 q3 k = _ := c p2 q2 hp2 hq2
    have c3 : cCross_3 p0 p1 p2 p3 q0 q1 q2 q3 k = _ := c p3 q3 hp3 hq3
    have c4 : cCross_4 p0 p1 p2 p3 p4 q0 q1 q2 q3 q4 k = _ := c p4 q4 hp4 hq4
    have c5 : cCross_5 p0 p1 p2 p3 p5 q0 q1 q2 q3 q5 k = _ := c p5 q5 hp5 hq5
    have c6 : cCross_6 p0 p1 p2 p3 p6 q0 q1 q2 q3 q6 k = _ := c p6 q6 hp6 hq6
    have c7 : cCross_7 p0 p1 p2 p3 p7 q0 q1 q2 q3 q7 k = _ := c p7 q7 hp7 hq7
    rw [ea] at ha
    rw [eb] at hb
    have bb : ∀ x y u v : Int, bad (btw x y (ins p0 p1 p2 p3 k) (ins q0 q1 q2 q3 k)) x y (btw u v (ins p0 p1 p2 p3 k) (ins q0 q1 q2 q3 k)) u v = false := fun x y u v => by
      unfold bad
      have m1 := mm_in (x := x) (y := y) fun lo hi h1 h2 h3 h4 => btw_in (lo := lo) (hi := hi) ha hb h1 h2 h3 h4
      have m2 := mm_in (x := u) (y := v) fun lo hi h1 h2 h3 h4 => btw_in (lo := lo) (hi := hi) ha hb h1 h2 h3 h4
      rw [m1.1, m1.2, m2.1, m2.2]; rfl
    rw [e, c0, c1, c2, c3, c4, c5, c6, c7, bb, bb, bb, bb]
    have i0 := btw_in ha hb hp0.1 hp0.2 hq0.1 hq0.2
    have i1 := btw_in ha hb hp1.1 hp1.2 hq1.1 hq1.2
    have i2 := btw_in ha hb hp2.1 hp2.2 hq2.1 hq2.2
    have i3 := btw_in ha hb hp3.1 hp3.2 hq3.1 hq3.2
    have sm := cross_small ha hb hk
    rw [inside_eq, wi_id i0, wi_id i1, wi_id i2, wi_id i3]
    simp only [cond_false, Bool.not_false, Bool.and_false, Bool.or_false]
    apply decide_eq_true
    rw [w64_in (by omega) (by omega)]
    split <;> omega

theorem ClipCrosses_true (x0_0 : Int) (a0_0 : IntKind.min .i16 ≤ x0_0) (b0_0 : x0_0 ≤ IntKind.max .i16) (x0_1 : Int) (a0_1 : IntKind.min .i16 ≤ x0_1) (b0_1 : x0_1 ≤ IntKind.max .i16) (x0_2 : Int) (a0_2 : IntKind.min .i16 ≤ x0_2) (b0_2 : x0_2 ≤ IntKind.max .i16) (x0_3 : Int) (a0_3 : IntKind.min .i16 ≤ x0_3) (b0_3 : x0_3 ≤ IntKind.max .i16) (x0_4 : Int) (a0_4 : IntKind.min .u8 ≤ x0_4) (b0_4 : x0_4 ≤ IntKind.max .u8) (x0_5 : Int) (a0_5 : IntKind.min .u8 ≤ x0_5) (b0_5 : x0_5 ≤ IntKind.max .u8) (x0_6 : Int) (a0_6 : IntKind.min .u8 ≤ x0_6) (b0_6 : x0_6 ≤ IntKind.max .u8) (x0_7 : Int) (a0_7 : IntKind.min .u8 ≤ x0_7) (b0_7 : x0_7 ≤ IntKind.max .u8) (x0_8 : Bool) (x1_0 : Int) (a1_0 : IntKind.min .i16 ≤ x1_0) (b1_0 : x1_0 ≤ IntKind.max .i16) (x1_1 : Int) (a1_1 : IntKind.min .i16 ≤ x1_1) (b1_1 : x1_1 ≤ IntKind.max .i16) (x1_2 : Int) (a1_2 : IntKind.min .i16 ≤ x1_2) (b1_2 : x1_2 ≤ IntKind.max .i16) (x1_3 : Int) (a1_3 : IntKind.min .i16 ≤ x1_3) (b1_3 : x1_3 ≤ IntKind.max .i16) (x1_4 : Int) (a1_4 : IntKind.min .u8 ≤ x1_4) (b1_4 : x1_4 ≤ IntKind.max .u8) (x1_5 : Int) (a1_5 : IntKind.min .u8 ≤ x1_5) (b1_5 : x1_5 ≤ IntKind.max .u8) (x1_6 : Int) (a1_6 : IntKind.min .u8 ≤ x1_6) (b1_6 : x1_6 ≤ IntKind.max .u8) (x1_7 : Int) (a1_7 : IntKind.min .u8 ≤ x1_7) (b1_7 : x1_7 ≤ IntKind.max .u8) (x1_8 : Bool) (x2 : Int) (a2 : IntKind.min .u8 ≤ x2) (b2 : x2 ≤ IntKind.max .u8) : lCrosses_0 x0_0 x0_1 x0_2 x0_3 x0_4 x0_5 x0_6 x0_7 x0_8 x1_0 x1_1 x1_2 x1_3 x1_4 x1_5 x1_6 x1_7 x1_8 x2 = true := by
  obtain ⟨l2, g2⟩ := bd_u8 a2 b2
  have hp := vb x0_8 a0_0 b0_0 a0_1 b0_1 a0_2 b0_2 a0_3 b0_3 a0_4 b0_4 a0_5 b0_5 a0_6 b0_6 a0_7 b0_7
  have hq := vb x1_8 a1_0 b1_0 a1_1 b1_1 a1_2 b1_2 a1_3 b1_3 a1_4 b1_4 a1_5 b1_5 a1_6 b1_6 a1_7 b1_7
  have hk : 0 ≤ IntKind.wrap .i64 (Int.tmod x2 7) ∧ IntKind.wrap .i64 (Int.tmod x2 7) ≤ 6 := by
    rw [Int.tmod_eq_emod_of_nonneg l2, w64_in (by omega) (by omega)]; omega
  obtain ⟨hp0, hp1, hp2, hp3, hp4, hp5, hp6, hp7⟩ := hp
  obtain ⟨hq0, hq1, hq2, hq3, hq4, hq5, hq6, hq7⟩ := hq
  unfold lCrosses_0
  rw [aw_true]
  simp only [lCrosses_s2, lCrosses_s3, lCrosses_s4, lCrosses_s5, lCrosses_s6, lCrosses_s7, lCrosses_s8, lCrosses_s9, lCrosses_s10, lCrosses_s11, lCrosses_s12, lCrosses_s13, lCrosses_s14, lCrosses_s15, lCrosses_s16, lCrosses_s17, lCrosses_s18, lCrosses_s19, lCrosses_s20, lCrosses_s21, lCrosses_s22, lCrosses_s23, lCrosses_s24, lCrosses_s25, lCrosses_s26, lCrosses_s27, lCrosses_s28, lCrosses_s29, lCrosses_s30, lCrosses_s31, lCrosses_s32, lCrosses_s33, lCrosses_s34, lCrosses_s35, lCrosses_s36, lCrosses_s37, lCrosses_s38, lCrosses_s39, lCrosses_s40]
  rcases Bool.eq_false_or_eq_true (lCrosses_s1 x0_0 x0_1 x0_2 x0_3 x0_8 x2) with h | h
  · simp only [h, cond_true, Bool.not_true, cond_false]
    exact crossL_true hq0 hp0 hq1 hp1 hq2 hp2 hq3 hp3 hq4 hp4 hq5 hp5 hq6 hp6 hq7 hp7 hk
  · simp only [h, Bool.not_true, cond_false]
    exact crossL_true hp0 hq0 hp1 hq1 hp2 hq2 hp3 hq3 hp4 hq4 hp5 hq5 hp6 hq6 hp7 hq7 hk

theorem ClipCrosses_obs (x0_0 : Int) (a0_0 : IntKind.min .i16 ≤ x0_0) (b0_0 : x0_0 ≤ IntKind.max .i16) (x0_1 : Int) (a0_1 : IntKind.min .i16 ≤ x0_1) (b0_1 : x0_1 ≤ IntKind.max .i16) (x0_2 : Int) (a0_2 : IntKind.min .i16 ≤ x0_2) (b0_2 : x0_2 ≤ IntKind.max .i16) (x0_3 : Int) (a0_3 : IntKind.min .i16 ≤ x0_3) (b0_3 : x0_3 ≤ IntKind.max .i16) (x0_4 : Int) (a0_4 : IntKind.min .u8 ≤ x0_4) (b0_4 : x0_4 ≤ IntKind.max .u8) (x0_5 : Int) (a0_5 : IntKind.min .u8 ≤ x0_5) (b0_5 : x0_5 ≤ IntKind.max .u8) (x0_6 : Int) (a0_6 : IntKind.min .u8 ≤ x0_6) (b0_6 : x0_6 ≤ IntKind.max .u8) (x0_7 : Int) (a0_7 : IntKind.min .u8 ≤ x0_7) (b0_7 : x0_7 ≤ IntKind.max .u8) (x0_8 : Bool) (x1_0 : Int) (a1_0 : IntKind.min .i16 ≤ x1_0) (b1_0 : x1_0 ≤ IntKind.max .i16) (x1_1 : Int) (a1_1 : IntKind.min .i16 ≤ x1_1) (b1_1 : x1_1 ≤ IntKind.max .i16) (x1_2 : Int) (a1_2 : IntKind.min .i16 ≤ x1_2) (b1_2 : x1_2 ≤ IntKind.max .i16) (x1_3 : Int) (a1_3 : IntKind.min .i16 ≤ x1_3) (b1_3 : x1_3 ≤ IntKind.max .i16) (x1_4 : Int) (a1_4 : IntKind.min .u8 ≤ x1_4) (b1_4 : x1_4 ≤ IntKind.max .u8) (x1_5 : Int) (a1_5 : IntKind.min .u8 ≤ x1_5) (b1_5 : x1_5 ≤ IntKind.max .u8) (x1_6 : Int) (a1_6 : IntKind.min .u8 ≤ x1_6) (b1_6 : x1_6 ≤ IntKind.max .u8) (x1_7 : Int) (a1_7 : IntKind.min .u8 ≤ x1_7) (b1_7 : x1_7 ≤ IntKind.max .u8) (x1_8 : Bool) (x2 : Int) (a2 : IntKind.min .u8 ≤ x2) (b2 : x2 ≤ IntKind.max .u8) : Alls (lCrosses_o x0_0 x0_1 x0_2 x0_3 x0_4 x0_5 x0_6 x0_7 x0_8 x1_0 x1_1 x1_2 x1_3 x1_4 x1_5 x1_6 x1_7 x1_8 x2) := by
  exact aw_obs

end Go.Proofs.Ytbdmaepooahplaa
