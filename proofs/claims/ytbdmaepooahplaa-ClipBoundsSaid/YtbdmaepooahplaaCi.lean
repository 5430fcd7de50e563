/-
  The law on what cutting keeps.
-/
import Derived.Test.YtbdmaepooahplaaCh
import Derived.Test.YtbdmaepooahplaaCd2
namespace Go.Proofs.Ytbdmaepooahplaa
open Go Go.RowKit Go.Proofs.Ytbdmaepooahplaa.V
set_option linter.unusedVariables false
set_option linter.unusedSectionVars false

theorem byG_3 (ins : List Int → Int) (cr : List Int → List Int → List Int) (a b c : List Int) : byG ins cr [a, b, c] = ((([] ++ emG ins cr a b) ++ emG ins cr b c) ++ emG ins cr c a) := by kernel_rfl
theorem byG_out {ins : List Int → Int} {cr : List Int → List Int → List Int} {a b c : List Int} (ha : ins a < 0) (hb : ins b < 0) (hc : ins c < 0) : byG ins cr [a, b, c] = [] := by
  have e1 : decide (0 ≤ ins a) = false := decide_eq_false (by omega)
  have e2 : decide (0 ≤ ins b) = false := decide_eq_false (by omega)
  have e3 : decide (0 ≤ ins c) = false := decide_eq_false (by omega)
  rw [byG_3]
  unfold emG
  rw [e1, e2, e3]; rfl
theorem byG_in {ins : List Int → Int} {cr : List Int → List Int → List Int} {a b c : List Int} (ha : 0 ≤ ins a) (hb : 0 ≤ ins b) (hc : 0 ≤ ins c) : byG ins cr [a, b, c] = [r8 a, r8 b, r8 c] := by
  have e1 : decide (0 ≤ ins a) = true := decide_eq_true ha
  have e2 : decide (0 ≤ ins b) = true := decide_eq_true hb
  have e3 : decide (0 ≤ ins c) = true := decide_eq_true hc
  rw [byG_3]
  unfold emG
  rw [e1, e2, e3]; rfl
theorem byG_nil (ins : List Int → Int) (cr : List Int → List Int → List Int) : byG ins cr [] = [] := rfl

theorem clip_out {a b c : List Int} (ha : insC 0 a < 0) (hb : insC 0 b < 0) (hc : insC 0 c < 0) : clipG [a, b, c] = [] := by
  have : by7 [a, b, c] = [] := by unfold by7; rw [byG_out ha hb hc]; rfl
  unfold clipG
  rw [this]; rfl
theorem clip_in {a b c : List Int} (ra : r8 a = a) (rb : r8 b = b) (rc : r8 c = c) (h : ∀ k, 0 ≤ k → k ≤ 6 → 0 ≤ insC k a ∧ 0 ≤ insC k b ∧ 0 ≤ insC k c) : clipG [a, b, c] = [fixR a, fixR b, fixR c] := by
  have e : ∀ k, 0 ≤ k → k ≤ 6 → byG (insC k) (crC k) [a, b, c] = [a, b, c] := fun k l g => by
    rw [byG_in (h k l g).1 (h k l g).2.1 (h k l g).2.2, ra, rb, rc]
  have : by7 [a, b, c] = [a, b, c] := by
    unfold by7
    rw [e 0 (by omega) (by omega), e 1 (by omega) (by omega), e 2 (by omega) (by omega), e 3 (by omega) (by omega), e 4 (by omega) (by omega), e 5 (by omega) (by omega), e 6 (by omega) (by omega)]
  unfold clipG
  rw [this]; rfl

theorem col0_id {x : Int} (h : 0 ≤ x ∧ x ≤ 65536) : vmColour_0 x = x := by unfold vmColour_0 vmColour_s0; split <;> (try split) <;> omega
theorem col1_id {x : Int} (h : 0 ≤ x ∧ x ≤ 65536) : vmColour_1 x = x := col0_id h
theorem col2_id {x : Int} (h : 0 ≤ x ∧ x ≤ 65536) : vmColour_2 x = x := col0_id h
theorem col3_id {x : Int} (h : 0 ≤ x ∧ x ≤ 65536) : vmColour_3 x = x := col0_id h
theorem fixR_id {x0 x1 x2 x3 x4 x5 x6 x7 : Int} (h0 : Wn x0) (h1 : Wn x1) (h2 : Wn x2) (h3 : Wn x3) (hi : 256 ≤ x3) (h4 : 0 ≤ x4 ∧ x4 ≤ 65536) (h5 : 0 ≤ x5 ∧ x5 ≤ 65536) (h6 : 0 ≤ x6 ∧ x6 ≤ 65536) (h7 : 0 ≤ x7 ∧ x7 ≤ 65536) : fixR [x0, x1, x2, x3, x4, x5, x6, x7] = [x0, x1, x2, x3, x4, x5, x6, x7] := by
  show [fWithin_0 x0 4194304, fWithin_0 x1 4194304, fWithin_0 x2 4194304, if fWithin_0 x3 4194304 < 256 then 256 else fWithin_0 x3 4194304, vmColour_0 x4, vmColour_1 x5, vmColour_2 x6, vmColour_3 x7] = _
  rw [fwi, fwi, fwi, fwi, wi_id h0, wi_id h1, wi_id h2, wi_id h3, if_neg (by omega), col0_id h4, col1_id h5, col2_id h6, col3_id h7]

/-- The law's colours are in range. -/
theorem vc {x4 x5 x6 x7 : Int} (a4 : IntKind.min .u8 ≤ x4) (b4 : x4 ≤ IntKind.max .u8) (a5 : IntKind.min .u8 ≤ x5) (b5 : x5 ≤ IntKind.max .u8) (a6 : IntKind.min .u8 ≤ x6) (b6 : x6 ≤ IntKind.max .u8) (a7 : IntKind.min .u8 ≤ x7) (b7 : x7 ≤ IntKind.max .u8) :
    (0 ≤ l11V_4 x4 ∧ l11V_4 x4 ≤ 65536) ∧ (0 ≤ l11V_5 x5 ∧ l11V_5 x5 ≤ 65536) ∧ (0 ≤ l11V_6 x6 ∧ l11V_6 x6 ≤ 65536) ∧ (0 ≤ l11V_7 x7 ∧ l11V_7 x7 ≤ 65536) := by
  obtain ⟨l4, g4⟩ := bd_u8 a4 b4
  obtain ⟨l5, g5⟩ := bd_u8 a5 b5
  obtain ⟨l6, g6⟩ := bd_u8 a6 b6
  obtain ⟨l7, g7⟩ := bd_u8 a7 b7
  refine ⟨?_, ?_, ?_, ?_⟩
  · unfold l11V_4; rw [w64_in (n := x4) (by omega) (by omega), w64_in (by omega) (by omega)]; omega
  · unfold l11V_5; rw [w64_in (n := x5) (by omega) (by omega), w64_in (by omega) (by omega)]; omega
  · unfold l11V_6; rw [w64_in (n := x6) (by omega) (by omega), w64_in (by omega) (by omega)]; omega
  · unfold l11V_7; rw [w64_in (n := x7) (by omega) (by omega), w64_in (by omega) (by omega)]; omega

/-- How many of three are out. -/
def cnt (o0 o1 o2 : Bool) : Int := bif o2 then IntKind.wrap .i64 ((bif o1 then IntKind.wrap .i64 ((bif o0 then 1 else 0) + 1) else bif o0 then 1 else 0) + 1) else bif o1 then IntKind.wrap .i64 ((bif o0 then 1 else 0) + 1) else bif o0 then 1 else 0
theorem cnt3 : ∀ {o0 o1 o2 : Bool}, (cnt o0 o1 o2 == 3) = true → o0 = true ∧ o1 = true ∧ o2 = true := by decide
theorem cnt0 : ∀ {o0 o1 o2 : Bool}, (cnt o0 o1 o2 == 0) = true → o0 = false ∧ o1 = false ∧ o2 = false := by decide

theorem ClipKeeps_true (x0_0 : Int) (a0_0 : IntKind.min .i16 ≤ x0_0) (b0_0 : x0_0 ≤ IntKind.max .i16) (x0_1 : Int) (a0_1 : IntKind.min .i16 ≤ x0_1) (b0_1 : x0_1 ≤ IntKind.max .i16) (x0_2 : Int) (a0_2 : IntKind.min .i16 ≤ x0_2) (b0_2 : x0_2 ≤ IntKind.max .i16) (x0_3 : Int) (a0_3 : IntKind.min .i16 ≤ x0_3) (b0_3 : x0_3 ≤ IntKind.max .i16) (x0_4 : Int) (a0_4 : IntKind.min .u8 ≤ x0_4) (b0_4 : x0_4 ≤ IntKind.max .u8) (x0_5 : Int) (a0_5 : IntKind.min .u8 ≤ x0_5) (b0_5 : x0_5 ≤ IntKind.max .u8) (x0_6 : Int) (a0_6 : IntKind.min .u8 ≤ x0_6) (b0_6 : x0_6 ≤ IntKind.max .u8) (x0_7 : Int) (a0_7 : IntKind.min .u8 ≤ x0_7) (b0_7 : x0_7 ≤ IntKind.max .u8) (x0_8 : Bool) (x0_9 : Int) (a0_9 : IntKind.min .i16 ≤ x0_9) (b0_9 : x0_9 ≤ IntKind.max .i16) (x0_10 : Int) (a0_10 : IntKind.min .i16 ≤ x0_10) (b0_10 : x0_10 ≤ IntKind.max .i16) (x0_11 : Int) (a0_11 : IntKind.min .i16 ≤ x0_11) (b0_11 : x0_11 ≤ IntKind.max .i16) (x0_12 : Int) (a0_12 : IntKind.min .i16 ≤ x0_12) (b0_12 : x0_12 ≤ IntKind.max .i16) (x0_13 : Int) (a0_13 : IntKind.min .u8 ≤ x0_13) (b0_13 : x0_13 ≤ IntKind.max .u8) (x0_14 : Int) (a0_14 : IntKind.min .u8 ≤ x0_14) (b0_14 : x0_14 ≤ IntKind.max .u8) (x0_15 : Int) (a0_15 : IntKind.min .u8 ≤ x0_15) (b0_15 : x0_15 ≤ IntKind.max .u8) (x0_16 : Int) (a0_16 : IntKind.min .u8 ≤ x0_16) (b0_16 : x0_16 ≤ IntKind.max .u8) (x0_17 : Bool) (x0_18 : Int) (a0_18 : IntKind.min .i16 ≤ x0_18) (b0_18 : x0_18 ≤ IntKind.max .i16) (x0_19 : Int) (a0_19 : IntKind.min .i16 ≤ x0_19) (b0_19 : x0_19 ≤ IntKind.max .i16) (x0_20 : Int) (a0_20 : IntKind.min .i16 ≤ x0_20) (b0_20 : x0_20 ≤ IntKind.max .i16) (x0_21 : Int) (a0_21 : IntKind.min .i16 ≤ x0_21) (b0_21 : x0_21 ≤ IntKind.max .i16) (x0_22 : Int) (a0_22 : IntKind.min .u8 ≤ x0_22) (b0_22 : x0_22 ≤ IntKind.max .u8) (x0_23 : Int) (a0_23 : IntKind.min .u8 ≤ x0_23) (b0_23 : x0_23 ≤ IntKind.max .u8) (x0_24 : Int) (a0_24 : IntKind.min .u8 ≤ x0_24) (b0_24 : x0_24 ≤ IntKind.max .u8) (x0_25 : Int) (a0_25 : IntKind.min .u8 ≤ x0_25) (b0_25 : x0_25 ≤ IntKind.max .u8) (x0_26 : Bool) : lKeeps_0 x0_0 x0_1 x0_2 x0_3 x0_4 x0_5 x0_6 x0_7 x0_8 x0_9 x0_10 x0_11 x0_12 x0_13 x0_14 x0_15 x0_16 x0_17 x0_18 x0_19 x0_20 x0_21 x0_22 x0_23 x0_24 x0_25 x0_26 = true := by
  have e3 : lKeeps_s3 = 1 := by decide
  have e12 : lKeeps_s12 = 2 := by decide
  have e15 : lKeeps_s15 = 3 := by decide
  have e18 : lKeeps_s18 = 4 := by decide
  have e21 : lKeeps_s21 = 5 := by decide
  have e24 : lKeeps_s24 = 6 := by decide
  obtain ⟨hp0, hp1, hp2, hp3, -, -, -, -⟩ := vb x0_8 a0_0 b0_0 a0_1 b0_1 a0_2 b0_2 a0_3 b0_3 a0_4 b0_4 a0_5 b0_5 a0_6 b0_6 a0_7 b0_7
  obtain ⟨cp4, cp5, cp6, cp7⟩ := vc a0_4 b0_4 a0_5 b0_5 a0_6 b0_6 a0_7 b0_7
  obtain ⟨hq0, hq1, hq2, hq3, -, -, -, -⟩ := vb x0_17 a0_9 b0_9 a0_10 b0_10 a0_11 b0_11 a0_12 b0_12 a0_13 b0_13 a0_14 b0_14 a0_15 b0_15 a0_16 b0_16
  obtain ⟨cq4, cq5, cq6, cq7⟩ := vc a0_13 b0_13 a0_14 b0_14 a0_15 b0_15 a0_16 b0_16
  obtain ⟨hr0, hr1, hr2, hr3, -, -, -, -⟩ := vb x0_26 a0_18 b0_18 a0_19 b0_19 a0_20 b0_20 a0_21 b0_21 a0_22 b0_22 a0_23 b0_23 a0_24 b0_24 a0_25 b0_25
  obtain ⟨cr4, cr5, cr6, cr7⟩ := vc a0_22 b0_22 a0_23 b0_23 a0_24 b0_24 a0_25 b0_25
  have key : ∀ k : Int, (cnt (decide (cInside_0 (l11V_0 x0_0) (l11V_1 x0_1) (l11V_2 x0_2) (l11V_3 x0_3 x0_8) k < 0)) (decide (cInside_0 (l11V_0 x0_9) (l11V_1 x0_10) (l11V_2 x0_11) (l11V_3 x0_12 x0_17) k < 0)) (decide (cInside_0 (l11V_0 x0_18) (l11V_1 x0_19) (l11V_2 x0_20) (l11V_3 x0_21 x0_26) k < 0)) == 0) = true → 0 ≤ insC k [l11V_0 x0_0, l11V_1 x0_1, l11V_2 x0_2, l11V_3 x0_3 x0_8, l11V_4 x0_4, l11V_5 x0_5, l11V_6 x0_6, l11V_7 x0_7] ∧ 0 ≤ insC k [l11V_0 x0_9, l11V_1 x0_10, l11V_2 x0_11, l11V_3 x0_12 x0_17, l11V_4 x0_13, l11V_5 x0_14, l11V_6 x0_15, l11V_7 x0_16] ∧ 0 ≤ insC k [l11V_0 x0_18, l11V_1 x0_19, l11V_2 x0_20, l11V_3 x0_21 x0_26, l11V_4 x0_22, l11V_5 x0_23, l11V_6 x0_24, l11V_7 x0_25] := fun k h => by
    obtain ⟨h0, h1, h2⟩ := cnt0 h
    exact ⟨Int.not_lt.1 (of_decide_eq_false h0), Int.not_lt.1 (of_decide_eq_false h1), Int.not_lt.1 (of_decide_eq_false h2)⟩
  have s9 : lKeeps_s9 x0_0 x0_1 x0_2 x0_3 x0_4 x0_5 x0_6 x0_7 x0_8 x0_9 x0_10 x0_11 x0_12 x0_13 x0_14 x0_15 x0_16 x0_17 x0_18 x0_19 x0_20 x0_21 x0_22 x0_23 x0_24 x0_25 x0_26 = false := by
    have e : lKeeps_s9 x0_0 x0_1 x0_2 x0_3 x0_4 x0_5 x0_6 x0_7 x0_8 x0_9 x0_10 x0_11 x0_12 x0_13 x0_14 x0_15 x0_16 x0_17 x0_18 x0_19 x0_20 x0_21 x0_22 x0_23 x0_24 x0_25 x0_26 = (bif cnt (decide (cInside_0 (l11V_0 x0_0) (l11V_1 x0_1) (l11V_2 x0_2) (l11V_3 x0_3 x0_8) 0 < 0)) (decide (cInside_0 (l11V_0 x0_9) (l11V_1 x0_10) (l11V_2 x0_11) (l11V_3 x0_12 x0_17) 0 < 0)) (decide (cInside_0 (l11V_0 x0_18) (l11V_1 x0_19) (l11V_2 x0_20) (l11V_3 x0_21 x0_26) 0 < 0)) == 3 then decide (0 < Int.ofNat (cClip_0 (l11V_0 x0_0) (l11V_1 x0_1) (l11V_2 x0_2) (l11V_3 x0_3 x0_8) (l11V_4 x0_4) (l11V_5 x0_5) (l11V_6 x0_6) (l11V_7 x0_7) (l11V_0 x0_9) (l11V_1 x0_10) (l11V_2 x0_11) (l11V_3 x0_12 x0_17) (l11V_4 x0_13) (l11V_5 x0_14) (l11V_6 x0_15) (l11V_7 x0_16) (l11V_0 x0_18) (l11V_1 x0_19) (l11V_2 x0_20) (l11V_3 x0_21 x0_26) (l11V_4 x0_22) (l11V_5 x0_23) (l11V_6 x0_24) (l11V_7 x0_25)).length) else false) := by
      unfold lKeeps_s9 lKeeps_s6 lKeeps_s5 lKeeps_s4 lKeeps_s0 lKeeps_s1 lKeeps_s2 lKeeps_s8 lKeeps_s7
      rw [e3]
      rfl
    rw [e, clip_eq]
    rcases Bool.eq_false_or_eq_true (cnt (decide (cInside_0 (l11V_0 x0_0) (l11V_1 x0_1) (l11V_2 x0_2) (l11V_3 x0_3 x0_8) 0 < 0)) (decide (cInside_0 (l11V_0 x0_9) (l11V_1 x0_10) (l11V_2 x0_11) (l11V_3 x0_12 x0_17) 0 < 0)) (decide (cInside_0 (l11V_0 x0_18) (l11V_1 x0_19) (l11V_2 x0_20) (l11V_3 x0_21 x0_26) 0 < 0)) == 3) with h | h
    · obtain ⟨h0, h1, h2⟩ := cnt3 h
      rw [clip_out (a := [l11V_0 x0_0, l11V_1 x0_1, l11V_2 x0_2, l11V_3 x0_3 x0_8, l11V_4 x0_4, l11V_5 x0_5, l11V_6 x0_6, l11V_7 x0_7]) (b := [l11V_0 x0_9, l11V_1 x0_10, l11V_2 x0_11, l11V_3 x0_12 x0_17, l11V_4 x0_13, l11V_5 x0_14, l11V_6 x0_15, l11V_7 x0_16]) (c := [l11V_0 x0_18, l11V_1 x0_19, l11V_2 x0_20, l11V_3 x0_21 x0_26, l11V_4 x0_22, l11V_5 x0_23, l11V_6 x0_24, l11V_7 x0_25]) (of_decide_eq_true h0) (of_decide_eq_true h1) (of_decide_eq_true h2), h]; rfl
    · rw [h]; rfl
  have s27 : lKeeps_s27 x0_0 x0_1 x0_2 x0_3 x0_8 x0_9 x0_10 x0_11 x0_12 x0_17 x0_18 x0_19 x0_20 x0_21 x0_26 = !(bif bif bif bif bif bif cnt (decide (cInside_0 (l11V_0 x0_0) (l11V_1 x0_1) (l11V_2 x0_2) (l11V_3 x0_3 x0_8) 0 < 0)) (decide (cInside_0 (l11V_0 x0_9) (l11V_1 x0_10) (l11V_2 x0_11) (l11V_3 x0_12 x0_17) 0 < 0)) (decide (cInside_0 (l11V_0 x0_18) (l11V_1 x0_19) (l11V_2 x0_20) (l11V_3 x0_21 x0_26) 0 < 0)) == 0 then cnt (decide (cInside_0 (l11V_0 x0_0) (l11V_1 x0_1) (l11V_2 x0_2) (l11V_3 x0_3 x0_8) 1 < 0)) (decide (cInside_0 (l11V_0 x0_9) (l11V_1 x0_10) (l11V_2 x0_11) (l11V_3 x0_12 x0_17) 1 < 0)) (decide (cInside_0 (l11V_0 x0_18) (l11V_1 x0_19) (l11V_2 x0_20) (l11V_3 x0_21 x0_26) 1 < 0)) == 0 else false then cnt (decide (cInside_0 (l11V_0 x0_0) (l11V_1 x0_1) (l11V_2 x0_2) (l11V_3 x0_3 x0_8) 2 < 0)) (decide (cInside_0 (l11V_0 x0_9) (l11V_1 x0_10) (l11V_2 x0_11) (l11V_3 x0_12 x0_17) 2 < 0)) (decide (cInside_0 (l11V_0 x0_18) (l11V_1 x0_19) (l11V_2 x0_20) (l11V_3 x0_21 x0_26) 2 < 0)) == 0 else false then cnt (decide (cInside_0 (l11V_0 x0_0) (l11V_1 x0_1) (l11V_2 x0_2) (l11V_3 x0_3 x0_8) 3 < 0)) (decide (cInside_0 (l11V_0 x0_9) (l11V_1 x0_10) (l11V_2 x0_11) (l11V_3 x0_12 x0_17) 3 < 0)) (decide (cInside_0 (l11V_0 x0_18) (l11V_1 x0_19) (l11V_2 x0_20) (l11V_3 x0_21 x0_26) 3 < 0)) == 0 else false then cnt (decide (cInside_0 (l11V_0 x0_0) (l11V_1 x0_1) (l11V_2 x0_2) (l11V_3 x0_3 x0_8) 4 < 0)) (decide (cInside_0 (l11V_0 x0_9) (l11V_1 x0_10) (l11V_2 x0_11) (l11V_3 x0_12 x0_17) 4 < 0)) (decide (cInside_0 (l11V_0 x0_18) (l11V_1 x0_19) (l11V_2 x0_20) (l11V_3 x0_21 x0_26) 4 < 0)) == 0 else false then cnt (decide (cInside_0 (l11V_0 x0_0) (l11V_1 x0_1) (l11V_2 x0_2) (l11V_3 x0_3 x0_8) 5 < 0)) (decide (cInside_0 (l11V_0 x0_9) (l11V_1 x0_10) (l11V_2 x0_11) (l11V_3 x0_12 x0_17) 5 < 0)) (decide (cInside_0 (l11V_0 x0_18) (l11V_1 x0_19) (l11V_2 x0_20) (l11V_3 x0_21 x0_26) 5 < 0)) == 0 else false then cnt (decide (cInside_0 (l11V_0 x0_0) (l11V_1 x0_1) (l11V_2 x0_2) (l11V_3 x0_3 x0_8) 6 < 0)) (decide (cInside_0 (l11V_0 x0_9) (l11V_1 x0_10) (l11V_2 x0_11) (l11V_3 x0_12 x0_17) 6 < 0)) (decide (cInside_0 (l11V_0 x0_18) (l11V_1 x0_19) (l11V_2 x0_20) (l11V_3 x0_21 x0_26) 6 < 0)) == 0 else false) := by
    unfold lKeeps_s27 lKeeps_s6 lKeeps_s5 lKeeps_s4 lKeeps_s0 lKeeps_s1 lKeeps_s2 lKeeps_s11 lKeeps_s10 lKeeps_s14 lKeeps_s13 lKeeps_s17 lKeeps_s16 lKeeps_s20 lKeeps_s19 lKeeps_s23 lKeeps_s22 lKeeps_s26 lKeeps_s25
    rw [e3, e12, e15, e18, e21, e24]
    rfl
  unfold lKeeps_0
  rw [aw_true, s9]
  rcases Bool.eq_false_or_eq_true (lKeeps_s27 x0_0 x0_1 x0_2 x0_3 x0_8 x0_9 x0_10 x0_11 x0_12 x0_17 x0_18 x0_19 x0_20 x0_21 x0_26) with h | h
  · rw [h]; rfl
  · rw [h]
    rw [s27] at h
    have hn : ∀ {b : Bool}, (!b) = false → b = true := by decide
    have h := hn h
    have hb : ∀ {a b : Bool}, (bif a then b else false) = true → a = true ∧ b = true := by decide
    obtain ⟨h, k6⟩ := hb h
    obtain ⟨h, k5⟩ := hb h
    obtain ⟨h, k4⟩ := hb h
    obtain ⟨h, k3⟩ := hb h
    obtain ⟨h, k2⟩ := hb h
    obtain ⟨k0, k1⟩ := hb h
    have all : ∀ k, 0 ≤ k → k ≤ 6 → 0 ≤ insC k [l11V_0 x0_0, l11V_1 x0_1, l11V_2 x0_2, l11V_3 x0_3 x0_8, l11V_4 x0_4, l11V_5 x0_5, l11V_6 x0_6, l11V_7 x0_7] ∧ 0 ≤ insC k [l11V_0 x0_9, l11V_1 x0_10, l11V_2 x0_11, l11V_3 x0_12 x0_17, l11V_4 x0_13, l11V_5 x0_14, l11V_6 x0_15, l11V_7 x0_16] ∧ 0 ≤ insC k [l11V_0 x0_18, l11V_1 x0_19, l11V_2 x0_20, l11V_3 x0_21 x0_26, l11V_4 x0_22, l11V_5 x0_23, l11V_6 x0_24, l11V_7 x0_25] := fun k l g => by
      have hc : k = 0 ∨ k = 1 ∨ k = 2 ∨ k = 3 ∨ k = 4 ∨ k = 5 ∨ k = 6 := by omega
      rcases hc with rfl | rfl | rfl | rfl | rfl | rfl | rfl
      · exact key 0 k0
      · exact key 1 k1
      · exact key 2 k2
      · exact key 3 k3
      · exact key 4 k4
      · exact key 5 k5
      · exact key 6 k6
    have near : ∀ a b c d : Int, Wn a → Wn b → Wn c → Wn d → 0 ≤ cInside_0 a b c d 0 → 256 ≤ d := fun a b c d ha hb hc hd h => by
      rw [inside_eq, wi_id ha, wi_id hb, wi_id hc, wi_id hd] at h
      unfold ins at h
      rw [if_pos rfl] at h
      omega
    obtain ⟨n1, n2, n3⟩ := all 0 (by omega) (by omega)
    have ce := clip_in (a := [l11V_0 x0_0, l11V_1 x0_1, l11V_2 x0_2, l11V_3 x0_3 x0_8, l11V_4 x0_4, l11V_5 x0_5, l11V_6 x0_6, l11V_7 x0_7]) (b := [l11V_0 x0_9, l11V_1 x0_10, l11V_2 x0_11, l11V_3 x0_12 x0_17, l11V_4 x0_13, l11V_5 x0_14, l11V_6 x0_15, l11V_7 x0_16]) (c := [l11V_0 x0_18, l11V_1 x0_19, l11V_2 x0_20, l11V_3 x0_21 x0_26, l11V_4 x0_22, l11V_5 x0_23, l11V_6 x0_24, l11V_7 x0_25]) rfl rfl rfl all
    rw [fixR_id hp0 hp1 hp2 hp3 (near _ _ _ _ hp0 hp1 hp2 hp3 n1) cp4 cp5 cp6 cp7, fixR_id hq0 hq1 hq2 hq3 (near _ _ _ _ hq0 hq1 hq2 hq3 n2) cq4 cq5 cq6 cq7, fixR_id hr0 hr1 hr2 hr3 (near _ _ _ _ hr0 hr1 hr2 hr3 n3) cr4 cr5 cr6 cr7, ← clip_eq] at ce
    unfold lKeeps_s28 lKeeps_s29 lKeeps_s30 lKeeps_s8 lKeeps_s7
    rw [ce]
    have rr : ∀ (a b c : List Int) (j : Nat), rget [a, b, c] (Int.toNat 0) j = a.getD j 0 ∧ rget [a, b, c] (Int.toNat 1) j = b.getD j 0 ∧ rget [a, b, c] (Int.toNat 2) j = c.getD j 0 := fun _ _ _ _ => ⟨rfl, rfl, rfl⟩
    have gg : ∀ (y0 y1 y2 y3 y4 y5 y6 y7 : Int), [y0, y1, y2, y3, y4, y5, y6, y7].getD 0 0 = y0 ∧ [y0, y1, y2, y3, y4, y5, y6, y7].getD 1 0 = y1 ∧ [y0, y1, y2, y3, y4, y5, y6, y7].getD 2 0 = y2 ∧ [y0, y1, y2, y3, y4, y5, y6, y7].getD 3 0 = y3 ∧ [y0, y1, y2, y3, y4, y5, y6, y7].getD 4 0 = y4 ∧ [y0, y1, y2, y3, y4, y5, y6, y7].getD 5 0 = y5 ∧ [y0, y1, y2, y3, y4, y5, y6, y7].getD 6 0 = y6 ∧ [y0, y1, y2, y3, y4, y5, y6, y7].getD 7 0 = y7 := fun _ _ _ _ _ _ _ _ => ⟨rfl, rfl, rfl, rfl, rfl, rfl, rfl, rfl⟩
    have l3 : ∀ a b c : List Int, (Int.ofNat [a, b, c].length == 3) = true := fun _ _ _ => rfl
    simp only [(rr _ _ _ _).1, (rr _ _ _ _).2.1, (rr _ _ _ _).2.2, (gg _ _ _ _ _ _ _ _).1, (gg _ _ _ _ _ _ _ _).2.1, (gg _ _ _ _ _ _ _ _).2.2.1, (gg _ _ _ _ _ _ _ _).2.2.2.1, (gg _ _ _ _ _ _ _ _).2.2.2.2.1, (gg _ _ _ _ _ _ _ _).2.2.2.2.2.1, (gg _ _ _ _ _ _ _ _).2.2.2.2.2.2.1, (gg _ _ _ _ _ _ _ _).2.2.2.2.2.2.2, l3, Bool.not_true, cond_false, beq_self_eq_true, Bool.and_self, cond_true]

theorem ClipKeeps_obs (x0_0 : Int) (a0_0 : IntKind.min .i16 ≤ x0_0) (b0_0 : x0_0 ≤ IntKind.max .i16) (x0_1 : Int) (a0_1 : IntKind.min .i16 ≤ x0_1) (b0_1 : x0_1 ≤ IntKind.max .i16) (x0_2 : Int) (a0_2 : IntKind.min .i16 ≤ x0_2) (b0_2 : x0_2 ≤ IntKind.max .i16) (x0_3 : Int) (a0_3 : IntKind.min .i16 ≤ x0_3) (b0_3 : x0_3 ≤ IntKind.max .i16) (x0_4 : Int) (a0_4 : IntKind.min .u8 ≤ x0_4) (b0_4 : x0_4 ≤ IntKind.max .u8) (x0_5 : Int) (a0_5 : IntKind.min .u8 ≤ x0_5) (b0_5 : x0_5 ≤ IntKind.max .u8) (x0_6 : Int) (a0_6 : IntKind.min .u8 ≤ x0_6) (b0_6 : x0_6 ≤ IntKind.max .u8) (x0_7 : Int) (a0_7 : IntKind.min .u8 ≤ x0_7) (b0_7 : x0_7 ≤ IntKind.max .u8) (x0_8 : Bool) (x0_9 : Int) (a0_9 : IntKind.min .i16 ≤ x0_9) (b0_9 : x0_9 ≤ IntKind.max .i16) (x0_10 : Int) (a0_10 : IntKind.min .i16 ≤ x0_10) (b0_10 : x0_10 ≤ IntKind.max .i16) (x0_11 : Int) (a0_11 : IntKind.min .i16 ≤ x0_11) (b0_11 : x0_11 ≤ IntKind.max .i16) (x0_12 : Int) (a0_12 : IntKind.min .i16 ≤ x0_12) (b0_12 : x0_12 ≤ IntKind.max .i16) (x0_13 : Int) (a0_13 : IntKind.min .u8 ≤ x0_13) (b0_13 : x0_13 ≤ IntKind.max .u8) (x0_14 : Int) (a0_14 : IntKind.min .u8 ≤ x0_14) (b0_14 : x0_14 ≤ IntKind.max .u8) (x0_15 : Int) (a0_15 : IntKind.min .u8 ≤ x0_15) (b0_15 : x0_15 ≤ IntKind.max .u8) (x0_16 : Int) (a0_16 : IntKind.min .u8 ≤ x0_16) (b0_16 : x0_16 ≤ IntKind.max .u8) (x0_17 : Bool) (x0_18 : Int) (a0_18 : IntKind.min .i16 ≤ x0_18) (b0_18 : x0_18 ≤ IntKind.max .i16) (x0_19 : Int) (a0_19 : IntKind.min .i16 ≤ x0_19) (b0_19 : x0_19 ≤ IntKind.max .i16) (x0_20 : Int) (a0_20 : IntKind.min .i16 ≤ x0_20) (b0_20 : x0_20 ≤ IntKind.max .i16) (x0_21 : Int) (a0_21 : IntKind.min .i16 ≤ x0_21) (b0_21 : x0_21 ≤ IntKind.max .i16) (x0_22 : Int) (a0_22 : IntKind.min .u8 ≤ x0_22) (b0_22 : x0_22 ≤ IntKind.max .u8) (x0_23 : Int) (a0_23 : IntKind.min .u8 ≤ x0_23) (b0_23 : x0_23 ≤ IntKind.max .u8) (x0_24 : Int) (a0_24 : IntKind.min .u8 ≤ x0_24) (b0_24 : x0_24 ≤ IntKind.max .u8) (x0_25 : Int) (a0_25 : IntKind.min .u8 ≤ x0_25) (b0_25 : x0_25 ≤ IntKind.max .u8) (x0_26 : Bool) : Alls (lKeeps_o x0_0 x0_1 x0_2 x0_3 x0_4 x0_5 x0_6 x0_7 x0_8 x0_9 x0_10 x0_11 x0_12 x0_13 x0_14 x0_15 x0_16 x0_17 x0_18 x0_19 x0_20 x0_21 x0_22 x0_23 x0_24 x0_25 x0_26) := by
  unfold lKeeps_o
  obtain ⟨h1, h2, h3, h4, h5, h6, h7, h8, h9, _⟩ := aw_obs
  refine ⟨h1, h2, h3, h4, h5, h6, h7, h8, h9, ?_⟩
  refine ⟨fun _ => by_lok _ (Nat.le_trans (c6_len ..) (by omega)), fun _ => by_lok _ (Nat.le_trans (c7_len ..) (by omega)), fun _ => by_lok _ (Nat.le_trans (c8_len ..) (by omega)), fun _ => by_lok _ (Nat.le_trans (c9_len ..) (by omega)), fun _ => by_lok _ (Nat.le_trans (c10_len ..) (by omega)), fun _ => by_lok _ (Nat.le_trans (c11_len ..) (by omega)), fun _ => by_lok _ (Nat.le_trans (c12_len ..) (by omega)), fun _ _ => fx_lok (Nat.le_trans (c13_len ..) (by omega)), fun _ _ _ h => ?_, fun _ _ _ h _ => ?_, fun _ _ _ h _ _ => ?_, trivial⟩ <;>
  · unfold lKeeps_s28 at h
    have := of_decide_eq_true h
    omega

end Go.Proofs.Ytbdmaepooahplaa
