/-
  StateAny: the law.
-/
import Derived.Test.YtcdejlgophpdjaaWf
namespace Go.Proofs.Ytcdejlgophpdjaa
open Go Go.RowKit Go.Proofs.Ytcdejlgophpdjaa.V
set_option linter.unusedVariables false
set_option linter.unusedSectionVars false

theorem rb_len {M : List (List Int)} : (rBytesK_s1 15 0 M).length ≤ M.length := by
  unfold rBytesK_s1
  simp only [List.nil_append, List.length_take, List.length_drop]
  omega
theorem st_len {M : List (List Int)} : 15 ≤ (stTakeK_s1 0 M).length ∧ (stTakeK_s1 0 M).length ≤ M.length + 15 := by
  unfold stTakeK_s1 rBytesK_1 stTakeK_s0
  rw [List.length_append, List.length_replicate]
  have := rb_len (M := M)
  have e : Int.toNat 15 = 15 := rfl
  omega
theorem rb_ob {M : List (List Int)} (h : 15 ≤ M.length) : 0 ≤ rBytesK_s0 15 0 ∧ rBytesK_s0 15 0 ≤ stTakeK_s20 0 ∧ stTakeK_s20 0 ≤ Int.ofNat (List.length M) := by
  have e1 : rBytesK_s0 15 0 = 0 := by decide +kernel
  have e2 : stTakeK_s20 0 = 15 := by decide +kernel
  have e3 : Int.ofNat M.length = (M.length : Int) := rfl
  rw [e1, e2, e3]; omega
theorem mul1 {n : Nat} (h : n ≤ 1000) : n * 1 ≤ 70368744177664 := by omega
theorem ix {n : Nat} (h : 15 ≤ n) {k : Int} (hk : 0 ≤ k ∧ k < 15) : 0 ≤ k ∧ k < Int.ofNat n := by
  have e : Int.ofNat n = (n : Int) := rfl
  rw [e]; omega
theorem sl_ob {n : Nat} (h : 15 ≤ n) : (0 : Int) ≤ Int.ofNat 0 ∧ Int.ofNat 0 ≤ 15 ∧ 15 ≤ Int.ofNat n := by
  have e : Int.ofNat n = (n : Int) := rfl
  have e0 : Int.ofNat 0 = 0 := rfl
  rw [e, e0]; omega
theorem aw09_t : aw09_0 = true := by decide +kernel
theorem d15 : (15 : Nat) * 1 ≤ 70368744177664 := by decide

set_option maxHeartbeats 1000000 in
theorem StateAny_true (y0 : List (List Int)) (p0 : ∀ row ∈ y0, RowFit [.int .u8] row) (q0 : y0.length ≤ maxLen) (x1_0 : Int) (a1_0 : IntKind.min .u8 ≤ x1_0) (b1_0 : x1_0 ≤ IntKind.max .u8) (x1_1 : Int) (a1_1 : IntKind.min .u8 ≤ x1_1) (b1_1 : x1_1 ≤ IntKind.max .u8) (x1_2 : Int) (a1_2 : IntKind.min .u8 ≤ x1_2) (b1_2 : x1_2 ≤ IntKind.max .u8) (x1_3 : Int) (a1_3 : IntKind.min .u8 ≤ x1_3) (b1_3 : x1_3 ≤ IntKind.max .u8) (x1_4 : Int) (a1_4 : IntKind.min .u8 ≤ x1_4) (b1_4 : x1_4 ≤ IntKind.max .u8) (x1_5 : Int) (a1_5 : IntKind.min .u8 ≤ x1_5) (b1_5 : x1_5 ≤ IntKind.max .u8) (x1_6 : Int) (a1_6 : IntKind.min .u8 ≤ x1_6) (b1_6 : x1_6 ≤ IntKind.max .u8) (x1_7 : Int) (a1_7 : IntKind.min .u8 ≤ x1_7) (b1_7 : x1_7 ≤ IntKind.max .u8) (x1_8 : Int) (a1_8 : IntKind.min .u8 ≤ x1_8) (b1_8 : x1_8 ≤ IntKind.max .u8) (x1_9 : Int) (a1_9 : IntKind.min .u8 ≤ x1_9) (b1_9 : x1_9 ≤ IntKind.max .u8) (x1_10 : Bool) (x1_11 : Bool) (x1_12 : Int) (a1_12 : IntKind.min .u8 ≤ x1_12) (b1_12 : x1_12 ≤ IntKind.max .u8) (x1_13 : Int) (a1_13 : IntKind.min .u8 ≤ x1_13) (b1_13 : x1_13 ≤ IntKind.max .u8) (x1_14 : Int) (a1_14 : IntKind.min .u8 ≤ x1_14) (b1_14 : x1_14 ≤ IntKind.max .u8) (x1_15 : Int) (a1_15 : IntKind.min .u8 ≤ x1_15) (b1_15 : x1_15 ≤ IntKind.max .u8) (x2 : Int) (a2 : IntKind.min .u8 ≤ x2) (b2 : x2 ≤ IntKind.max .u8) (x3 : Int) (a3 : IntKind.min .u8 ≤ x3) (b3 : x3 ≤ IntKind.max .u8) (x4_0 : Int) (a4_0 : IntKind.min .u8 ≤ x4_0) (b4_0 : x4_0 ≤ IntKind.max .u8) (x4_1 : Bool) (x4_2 : Int) (a4_2 : IntKind.min .u8 ≤ x4_2) (b4_2 : x4_2 ≤ IntKind.max .u8) (x4_3 : Int) (a4_3 : IntKind.min .u8 ≤ x4_3) (b4_3 : x4_3 ≤ IntKind.max .u8) (x4_4 : Int) (a4_4 : IntKind.min .u8 ≤ x4_4) (b4_4 : x4_4 ≤ IntKind.max .u8) (x4_5 : Int) (a4_5 : IntKind.min .u8 ≤ x4_5) (b4_5 : x4_5 ≤ IntKind.max .u8) (x4_6 : Int) (a4_6 : IntKind.min .u8 ≤ x4_6) (b4_6 : x4_6 ≤ IntKind.max .u8) (x4_7 : Int) (a4_7 : IntKind.min .u8 ≤ x4_7) (b4_7 : x4_7 ≤ IntKind.max .u8) (x4_8 : Int) (a4_8 : IntKind.min .u8 ≤ x4_8) (b4_8 : x4_8 ≤ IntKind.max .u8) (x4_9 : Int) (a4_9 : IntKind.min .u8 ≤ x4_9) (b4_9 : x4_9 ≤ IntKind.max .u8) (x4_10 : Int) (a4_10 : IntKind.min .u8 ≤ x4_10) (b4_10 : x4_10 ≤ IntKind.max .u8) (x4_11 : Int) (a4_11 : IntKind.min .i64 ≤ x4_11) (b4_11 : x4_11 ≤ IntKind.max .i64) (x4_12 : Int) (a4_12 : IntKind.min .i64 ≤ x4_12) (b4_12 : x4_12 ≤ IntKind.max .i64) (x4_13 : Int) (a4_13 : IntKind.min .i64 ≤ x4_13) (b4_13 : x4_13 ≤ IntKind.max .i64) (x4_14 : Int) (a4_14 : IntKind.min .i64 ≤ x4_14) (b4_14 : x4_14 ≤ IntKind.max .i64) : lAny_0 (List.length y0) x1_0 x1_1 x1_2 x1_3 x1_4 x1_5 x1_6 x1_7 x1_8 x1_9 x1_10 x1_11 x1_12 x1_13 x1_14 x1_15 x2 x3 x4_0 x4_2 x4_5 x4_6 x4_7 x4_8 x4_9 x4_10 x4_11 x4_12 x4_13 x4_14 y0 = true := by
  obtain ⟨l1_0, g1_0⟩ := bd_u8 a1_0 b1_0
  have w1_0 : IntKind.wrap .i64 x1_0 = x1_0 := w64_in (by omega) (by omega)
  obtain ⟨l1_1, g1_1⟩ := bd_u8 a1_1 b1_1
  have w1_1 : IntKind.wrap .i64 x1_1 = x1_1 := w64_in (by omega) (by omega)
  obtain ⟨l1_2, g1_2⟩ := bd_u8 a1_2 b1_2
  have w1_2 : IntKind.wrap .i64 x1_2 = x1_2 := w64_in (by omega) (by omega)
  obtain ⟨l1_3, g1_3⟩ := bd_u8 a1_3 b1_3
  have w1_3 : IntKind.wrap .i64 x1_3 = x1_3 := w64_in (by omega) (by omega)
  obtain ⟨l1_4, g1_4⟩ := bd_u8 a1_4 b1_4
  have w1_4 : IntKind.wrap .i64 x1_4 = x1_4 := w64_in (by omega) (by omega)
  obtain ⟨l1_5, g1_5⟩ := bd_u8 a1_5 b1_5
  have w1_5 : IntKind.wrap .i64 x1_5 = x1_5 := w64_in (by omega) (by omega)
  obtain ⟨l1_6, g1_6⟩ := bd_u8 a1_6 b1_6
  have w1_6 : IntKind.wrap .i64 x1_6 = x1_6 := w64_in (by omega) (by omega)
  obtain ⟨l1_7, g1_7⟩ := bd_u8 a1_7 b1_7
  have w1_7 : IntKind.wrap .i64 x1_7 = x1_7 := w64_in (by omega) (by omega)
  obtain ⟨l1_8, g1_8⟩ := bd_u8 a1_8 b1_8
  have w1_8 : IntKind.wrap .i64 x1_8 = x1_8 := w64_in (by omega) (by omega)
  obtain ⟨l1_9, g1_9⟩ := bd_u8 a1_9 b1_9
  have w1_9 : IntKind.wrap .i64 x1_9 = x1_9 := w64_in (by omega) (by omega)
  obtain ⟨l1_12, g1_12⟩ := bd_u8 a1_12 b1_12
  have w1_12 : IntKind.wrap .i64 x1_12 = x1_12 := w64_in (by omega) (by omega)
  obtain ⟨l1_13, g1_13⟩ := bd_u8 a1_13 b1_13
  have w1_13 : IntKind.wrap .i64 x1_13 = x1_13 := w64_in (by omega) (by omega)
  obtain ⟨l1_14, g1_14⟩ := bd_u8 a1_14 b1_14
  have w1_14 : IntKind.wrap .i64 x1_14 = x1_14 := w64_in (by omega) (by omega)
  obtain ⟨l1_15, g1_15⟩ := bd_u8 a1_15 b1_15
  have w1_15 : IntKind.wrap .i64 x1_15 = x1_15 := w64_in (by omega) (by omega)
  obtain ⟨l2, g2⟩ := bd_u8 a2 b2
  have w2 : IntKind.wrap .i64 x2 = x2 := w64_in (by omega) (by omega)
  obtain ⟨l3, g3⟩ := bd_u8 a3 b3
  have w3 : IntKind.wrap .i64 x3 = x3 := w64_in (by omega) (by omega)
  obtain ⟨l4_0, g4_0⟩ := bd_u8 a4_0 b4_0
  have w4_0 : IntKind.wrap .i64 x4_0 = x4_0 := w64_in (by omega) (by omega)
  obtain ⟨l4_2, g4_2⟩ := bd_u8 a4_2 b4_2
  have w4_2 : IntKind.wrap .i64 x4_2 = x4_2 := w64_in (by omega) (by omega)
  obtain ⟨l4_3, g4_3⟩ := bd_u8 a4_3 b4_3
  have w4_3 : IntKind.wrap .i64 x4_3 = x4_3 := w64_in (by omega) (by omega)
  obtain ⟨l4_4, g4_4⟩ := bd_u8 a4_4 b4_4
  have w4_4 : IntKind.wrap .i64 x4_4 = x4_4 := w64_in (by omega) (by omega)
  obtain ⟨l4_5, g4_5⟩ := bd_u8 a4_5 b4_5
  have w4_5 : IntKind.wrap .i64 x4_5 = x4_5 := w64_in (by omega) (by omega)
  obtain ⟨l4_6, g4_6⟩ := bd_u8 a4_6 b4_6
  have w4_6 : IntKind.wrap .i64 x4_6 = x4_6 := w64_in (by omega) (by omega)
  obtain ⟨l4_7, g4_7⟩ := bd_u8 a4_7 b4_7
  have w4_7 : IntKind.wrap .i64 x4_7 = x4_7 := w64_in (by omega) (by omega)
  obtain ⟨l4_8, g4_8⟩ := bd_u8 a4_8 b4_8
  have w4_8 : IntKind.wrap .i64 x4_8 = x4_8 := w64_in (by omega) (by omega)
  obtain ⟨l4_9, g4_9⟩ := bd_u8 a4_9 b4_9
  have w4_9 : IntKind.wrap .i64 x4_9 = x4_9 := w64_in (by omega) (by omega)
  obtain ⟨l4_10, g4_10⟩ := bd_u8 a4_10 b4_10
  have w4_10 : IntKind.wrap .i64 x4_10 = x4_10 := w64_in (by omega) (by omega)
  obtain ⟨l4_11, g4_11⟩ := bd_i64 a4_11 b4_11
  have w4_11 : IntKind.wrap .i64 x4_11 = x4_11 := w64_in (by omega) (by omega)
  obtain ⟨l4_12, g4_12⟩ := bd_i64 a4_12 b4_12
  have w4_12 : IntKind.wrap .i64 x4_12 = x4_12 := w64_in (by omega) (by omega)
  obtain ⟨l4_13, g4_13⟩ := bd_i64 a4_13 b4_13
  have w4_13 : IntKind.wrap .i64 x4_13 = x4_13 := w64_in (by omega) (by omega)
  obtain ⟨l4_14, g4_14⟩ := bd_i64 a4_14 b4_14
  have w4_14 : IntKind.wrap .i64 x4_14 = x4_14 := w64_in (by omega) (by omega)
  have hn : ∀ {b : Bool}, (!b) = true → b = false := by decide
  have hn' : ∀ {b : Bool}, (!b) = false → b = true := by decide
  have hy : wReadS_s0 y0.length y0 = y0 := by unfold wReadS_s0; simp
  have hM1 : (wReadS_s0 y0.length y0).length = y0.length := by rw [hy]
  have hM2 : ((lAny_s29 x1_0 x1_1 x1_2 x1_3 x1_4 x1_5 x1_6 x1_7 x1_8 x1_9 x1_10 x1_11 x1_12 x1_13 x1_14 x1_15 x2 x3)).length = 15 := by
    show ([] ++ List.set _ _ _).length = 15
    rw [List.nil_append, List.length_set]; rfl
  have hM2' : ((lAny_s28 x1_0 x1_1 x1_2 x1_3 x1_4 x1_5 x1_6 x1_7 x1_8 x1_9 x1_10 x1_11 x1_12 x1_13 x1_14 x1_15 x2 x3)).length = 15 := by
    show (List.set _ _ _).length = 15
    rw [List.length_set]; rfl
  have hr2 : ∀ row ∈ (lAny_s29 x1_0 x1_1 x1_2 x1_3 x1_4 x1_5 x1_6 x1_7 x1_8 x1_9 x1_10 x1_11 x1_12 x1_13 x1_14 x1_15 x2 x3), RowFit [.int .u8] row := by
    intro row hrow
    have hrow' : row ∈ List.set (lAny_s1 x1_0 x1_1 x1_2 x1_3 x1_4 x1_5 x1_6 x1_7 x1_8 x1_9 x1_10 x1_11 x1_12 x1_13 x1_14 x1_15) (Int.toNat (lAny_s27 x1_0 x1_1 x1_2 x1_3 x1_4 x1_5 x1_6 x1_7 x1_8 x1_9 x1_10 x1_11 x1_12 x1_13 x1_14 x1_15 x2)) [x3] := by
      have e : (lAny_s29 x1_0 x1_1 x1_2 x1_3 x1_4 x1_5 x1_6 x1_7 x1_8 x1_9 x1_10 x1_11 x1_12 x1_13 x1_14 x1_15 x2 x3) = [] ++ List.set (lAny_s1 x1_0 x1_1 x1_2 x1_3 x1_4 x1_5 x1_6 x1_7 x1_8 x1_9 x1_10 x1_11 x1_12 x1_13 x1_14 x1_15) (Int.toNat (lAny_s27 x1_0 x1_1 x1_2 x1_3 x1_4 x1_5 x1_6 x1_7 x1_8 x1_9 x1_10 x1_11 x1_12 x1_13 x1_14 x1_15 x2)) [x3] := rfl
      rw [e, List.nil_append] at hrow; exact hrow
    have one : ∀ b : Int, 0 ≤ b → b ≤ 255 → RowFit [.int .u8] [b] := fun b h0 h1 => ⟨rfl, fun j k n hj hn => by
      match j with
      | 0 =>
        simp only [List.getElem?_cons_zero, Option.some.injEq] at hj hn
        subst hj hn; exact ⟨h0, h1⟩
      | j + 1 => simp at hj⟩
    rcases List.mem_or_eq_of_mem_set hrow' with h | h
    · have h' : row ∈ [[sm09_0 x1_0], [stPut0_s0 x1_10], [sm09_1 x1_1 x1_11], [x1_2], [x1_3], [sm09_2 x1_4], [sm09_3 x1_5 x1_11], [sm09_4 x1_6 x1_11], [sm09_5 x1_7 x1_11], [sm09_6 x1_8 x1_11], [sm09_7 x1_9], [IntKind.wrap .u8 (sm09_8 x1_12)], [IntKind.wrap .u8 (sm09_9 x1_12 x1_13)], [IntKind.wrap .u8 (sm09_10 x1_12 x1_14)], [IntKind.wrap .u8 (sm09_11 x1_12 x1_13 x1_15)]] := h
      have W : ∀ x : Int, 0 ≤ IntKind.wrap .u8 x ∧ IntKind.wrap .u8 x ≤ 255 := fun x => by have e := IntKind.wrap_u8 x; omega
      have md : ∀ (x m : Int), 0 ≤ x → 0 < m → m ≤ 255 → 0 ≤ Int.tmod x m ∧ Int.tmod x m ≤ 255 := fun x m h0 h1 h2 => by
        rw [Int.tmod_eq_emod_of_nonneg h0]
        have := Int.emod_nonneg x (show m ≠ 0 by omega)
        have := Int.emod_lt_of_pos x h1
        omega
      have bf : ∀ (b : Bool) (x y : Int), 0 ≤ x ∧ x ≤ 255 → 0 ≤ y ∧ y ≤ 255 → 0 ≤ (bif b then x else y) ∧ (bif b then x else y) ≤ 255 := fun b x y hx hy => by cases b <;> assumption
      simp only [List.mem_cons, List.not_mem_nil, or_false] at h'
      rcases h' with rfl | rfl | rfl | rfl | rfl | rfl | rfl | rfl | rfl | rfl | rfl | rfl | rfl | rfl | rfl
      · exact one _ (md _ _ l1_0 (by omega) (by omega)).1 (md _ _ l1_0 (by omega) (by omega)).2
      · exact one _ (bf _ _ _ (by omega) (by omega)).1 (bf _ _ _ (by omega) (by omega)).2
      · exact one _ (bf _ _ _ (by omega) (md _ _ l1_1 (by omega) (by omega))).1 (bf _ _ _ (by omega) (md _ _ l1_1 (by omega) (by omega))).2
      · exact one _ l1_2 g1_2
      · exact one _ l1_3 g1_3
      · exact one _ (md _ _ l1_4 (by omega) (by omega)).1 (md _ _ l1_4 (by omega) (by omega)).2
      · exact one _ (bf _ _ _ (by omega) (md _ _ l1_5 (by omega) (by omega))).1 (bf _ _ _ (by omega) (md _ _ l1_5 (by omega) (by omega))).2
      · exact one _ (bf _ _ _ (by omega) (md _ _ l1_6 (by omega) (by omega))).1 (bf _ _ _ (by omega) (md _ _ l1_6 (by omega) (by omega))).2
      · exact one _ (bf _ _ _ (by omega) (md _ _ l1_7 (by omega) (by omega))).1 (bf _ _ _ (by omega) (md _ _ l1_7 (by omega) (by omega))).2
      · exact one _ (bf _ _ _ (by omega) (md _ _ l1_8 (by omega) (by omega))).1 (bf _ _ _ (by omega) (md _ _ l1_8 (by omega) (by omega))).2
      · exact one _ (md _ _ l1_9 (by omega) (by omega)).1 (md _ _ l1_9 (by omega) (by omega)).2
      · exact one _ (W _).1 (W _).2
      · exact one _ (W _).1 (W _).2
      · exact one _ (W _).1 (W _).2
      · exact one _ (W _).1 (W _).2
    · rw [h]; exact one _ l3 g3
  unfold lAny_0
  rw [aw09_t]
  by_cases h60 : 60 < (y0.length : Int)
  · have e : lAny_s0 (List.length y0) = true := decide_eq_true h60
    rw [e]; rfl
  · have e : lAny_s0 (List.length y0) = false := decide_eq_false h60
    have hM1' : (wReadS_s0 y0.length y0).length ≤ 1000 := by rw [hM1]; omega
    have A1 := any_one (M := wReadS_s0 y0.length y0) (by rw [hy]; exact p0) hM1'
    have A2 := any_one (M := (lAny_s29 x1_0 x1_1 x1_2 x1_3 x1_4 x1_5 x1_6 x1_7 x1_8 x1_9 x1_10 x1_11 x1_12 x1_13 x1_14 x1_15 x2 x3)) hr2 (by rw [hM2]; omega)
    have e4 : (lAny_s4 x1_0 x1_1 x1_2 x1_3 x1_4 x1_5 x1_6 x1_7 x1_8 x1_9 x1_10 x1_11 x1_12 x1_13 x1_14 x1_15) = false := by show ((15 : Int) == 0) = false; rfl
    have c1 : (lAny_s6 (List.length y0) y0) = true → (lAny_s22 (List.length y0) y0) = false := fun h => by
      exact congrArg (fun b : Bool => !b) (A1.1 h)
    have c2 : (lAny_s6 (List.length y0) y0) = false → (lAny_s25 (List.length y0) y0) = false := fun h => by
      obtain ⟨g1, g2, g3⟩ := A1.2 h
      have g2 : (lAny_s23 (List.length y0) y0) = false := g2
      have g3 : (lAny_s24 (List.length y0) y0) = (wReadS_s0 y0.length y0).take 15 := g3
      unfold lAny_s25
      rw [g2, g3, hy]
      simp
    have c3 : (lAny_s33 x1_0 x1_1 x1_2 x1_3 x1_4 x1_5 x1_6 x1_7 x1_8 x1_9 x1_10 x1_11 x1_12 x1_13 x1_14 x1_15 x2 x3) = true → (lAny_s34 x1_0 x1_1 x1_2 x1_3 x1_4 x1_5 x1_6 x1_7 x1_8 x1_9 x1_10 x1_11 x1_12 x1_13 x1_14 x1_15 x2 x3 == (0 : Int) && (lAny_s35 x1_0 x1_1 x1_2 x1_3 x1_4 x1_5 x1_6 x1_7 x1_8 x1_9 x1_10 x1_11 x1_12 x1_13 x1_14 x1_15 x2 x3 == false && (lAny_s36 x1_0 x1_1 x1_2 x1_3 x1_4 x1_5 x1_6 x1_7 x1_8 x1_9 x1_10 x1_11 x1_12 x1_13 x1_14 x1_15 x2 x3 == (0 : Int) && (lAny_s37 x1_0 x1_1 x1_2 x1_3 x1_4 x1_5 x1_6 x1_7 x1_8 x1_9 x1_10 x1_11 x1_12 x1_13 x1_14 x1_15 x2 x3 == (0 : Int) && (lAny_s38 x1_0 x1_1 x1_2 x1_3 x1_4 x1_5 x1_6 x1_7 x1_8 x1_9 x1_10 x1_11 x1_12 x1_13 x1_14 x1_15 x2 x3 == (0 : Int) && (lAny_s39 x1_0 x1_1 x1_2 x1_3 x1_4 x1_5 x1_6 x1_7 x1_8 x1_9 x1_10 x1_11 x1_12 x1_13 x1_14 x1_15 x2 x3 == (0 : Int) && (lAny_s40 x1_0 x1_1 x1_2 x1_3 x1_4 x1_5 x1_6 x1_7 x1_8 x1_9 x1_10 x1_11 x1_12 x1_13 x1_14 x1_15 x2 x3 == (0 : Int) && (lAny_s41 x1_0 x1_1 x1_2 x1_3 x1_4 x1_5 x1_6 x1_7 x1_8 x1_9 x1_10 x1_11 x1_12 x1_13 x1_14 x1_15 x2 x3 == (0 : Int) && (lAny_s42 x1_0 x1_1 x1_2 x1_3 x1_4 x1_5 x1_6 x1_7 x1_8 x1_9 x1_10 x1_11 x1_12 x1_13 x1_14 x1_15 x2 x3 == (0 : Int) && (lAny_s43 x1_0 x1_1 x1_2 x1_3 x1_4 x1_5 x1_6 x1_7 x1_8 x1_9 x1_10 x1_11 x1_12 x1_13 x1_14 x1_15 x2 x3 == (0 : Int) && (lAny_s44 x1_0 x1_1 x1_2 x1_3 x1_4 x1_5 x1_6 x1_7 x1_8 x1_9 x1_10 x1_11 x1_12 x1_13 x1_14 x1_15 x2 x3 == (0 : Int) && (lAny_s45 x1_0 x1_1 x1_2 x1_3 x1_4 x1_5 x1_6 x1_7 x1_8 x1_9 x1_10 x1_11 x1_12 x1_13 x1_14 x1_15 x2 x3 == (0 : Int) && (lAny_s46 x1_0 x1_1 x1_2 x1_3 x1_4 x1_5 x1_6 x1_7 x1_8 x1_9 x1_10 x1_11 x1_12 x1_13 x1_14 x1_15 x2 x3 == (0 : Int) && (lAny_s47 x1_0 x1_1 x1_2 x1_3 x1_4 x1_5 x1_6 x1_7 x1_8 x1_9 x1_10 x1_11 x1_12 x1_13 x1_14 x1_15 x2 x3 == (0 : Int) && lAny_s48 x1_0 x1_1 x1_2 x1_3 x1_4 x1_5 x1_6 x1_7 x1_8 x1_9 x1_10 x1_11 x1_12 x1_13 x1_14 x1_15 x2 x3 == (0 : Int))))))))))))))) = true := fun h => A2.1 h
    have c4 : (lAny_s33 x1_0 x1_1 x1_2 x1_3 x1_4 x1_5 x1_6 x1_7 x1_8 x1_9 x1_10 x1_11 x1_12 x1_13 x1_14 x1_15 x2 x3) = false → (lAny_s50 x1_0 x1_1 x1_2 x1_3 x1_4 x1_5 x1_6 x1_7 x1_8 x1_9 x1_10 x1_11 x1_12 x1_13 x1_14 x1_15 x2 x3) = false ∧ (lAny_s51 x1_0 x1_1 x1_2 x1_3 x1_4 x1_5 x1_6 x1_7 x1_8 x1_9 x1_10 x1_11 x1_12 x1_13 x1_14 x1_15 x2 x3) = (lAny_s28 x1_0 x1_1 x1_2 x1_3 x1_4 x1_5 x1_6 x1_7 x1_8 x1_9 x1_10 x1_11 x1_12 x1_13 x1_14 x1_15 x2 x3).take 15 := fun h => by
      obtain ⟨g1, g2, g3⟩ := A2.2 h
      exact ⟨g2, g3⟩
    rw [e, e4]
    have hc : ∀ a b c d x : Bool, (a = true → b = false) → (a = false → c = false) → d = false → (bif a && b || !a && c || x && d then false else true) = true := by decide
    have hfin : (sChk_0 x4_0 x4_2 x4_5 x4_6 x4_7 x4_8 x4_9 x4_10 x4_11 x4_12 x4_13 x4_14 == (bif bif decide ((7 : Int) < x4_0) then true else bif decide ((7 : Int) < x4_2) then true else bif decide ((5 : Int) < x4_5) then true else bif decide ((5 : Int) < x4_6) then true else bif decide ((5 : Int) < x4_7) then true else bif decide ((3 : Int) < x4_8) then true else bif decide ((2 : Int) < x4_10) then true else decide ((15 : Int) < x4_9) then (13 : Int) else bif bif decide (x4_11 < (0 : Int)) then true else bif decide (x4_13 < x4_11) then true else bif decide ((64 : Int) < x4_13) then true else bif decide (x4_12 < (0 : Int)) then true else bif decide (x4_14 < x4_12) then true else decide ((64 : Int) < x4_14) then (2 : Int) else (0 : Int))) = true := by
      have e8 : ∀ b : Int, decide (8 ≤ b) = decide (7 < b) := fun b => decide_eq_decide.2 (by omega)
      have e6 : ∀ b : Int, decide (6 ≤ b) = decide (5 < b) := fun b => decide_eq_decide.2 (by omega)
      have e4 : ∀ b : Int, decide (4 ≤ b) = decide (3 < b) := fun b => decide_eq_decide.2 (by omega)
      have e3 : ∀ b : Int, decide (3 ≤ b) = decide (2 < b) := fun b => decide_eq_decide.2 (by omega)
      unfold sChk_0 sChk_s0
      simp only [e8, e6, e4, e3]
      have key : ∀ A B : Bool, ((bif (bif A then true else B) then (bif A then (13 : Int) else 2) else 0) == (bif A then 13 else bif B then 2 else 0)) = true := by decide
      exact key _ _
    rw [hfin]
    refine hc _ _ _ _ _ c1 c2 ?_
    cases h33 : (lAny_s33 x1_0 x1_1 x1_2 x1_3 x1_4 x1_5 x1_6 x1_7 x1_8 x1_9 x1_10 x1_11 x1_12 x1_13 x1_14 x1_15 x2 x3)
    · obtain ⟨g1, g2⟩ := c4 h33
      have e49 : (lAny_s49 x1_0 x1_1 x1_2 x1_3 x1_4 x1_5 x1_6 x1_7 x1_8 x1_9 x1_10 x1_11 x1_12 x1_13 x1_14 x1_15 x2 x3) = true := by show (!(lAny_s33 x1_0 x1_1 x1_2 x1_3 x1_4 x1_5 x1_6 x1_7 x1_8 x1_9 x1_10 x1_11 x1_12 x1_13 x1_14 x1_15 x2 x3)) = true; rw [h33]; rfl
      rw [e49, g1, g2]
      simp
    · have e49 : (lAny_s49 x1_0 x1_1 x1_2 x1_3 x1_4 x1_5 x1_6 x1_7 x1_8 x1_9 x1_10 x1_11 x1_12 x1_13 x1_14 x1_15 x2 x3) = false := by show (!(lAny_s33 x1_0 x1_1 x1_2 x1_3 x1_4 x1_5 x1_6 x1_7 x1_8 x1_9 x1_10 x1_11 x1_12 x1_13 x1_14 x1_15 x2 x3)) = false; rw [h33]; rfl
      rw [e49, c3 h33]
      rfl

set_option maxHeartbeats 1000000 in
theorem StateAny_obs (y0 : List (List Int)) (p0 : ∀ row ∈ y0, RowFit [.int .u8] row) (q0 : y0.length ≤ maxLen) (x1_0 : Int) (a1_0 : IntKind.min .u8 ≤ x1_0) (b1_0 : x1_0 ≤ IntKind.max .u8) (x1_1 : Int) (a1_1 : IntKind.min .u8 ≤ x1_1) (b1_1 : x1_1 ≤ IntKind.max .u8) (x1_2 : Int) (a1_2 : IntKind.min .u8 ≤ x1_2) (b1_2 : x1_2 ≤ IntKind.max .u8) (x1_3 : Int) (a1_3 : IntKind.min .u8 ≤ x1_3) (b1_3 : x1_3 ≤ IntKind.max .u8) (x1_4 : Int) (a1_4 : IntKind.min .u8 ≤ x1_4) (b1_4 : x1_4 ≤ IntKind.max .u8) (x1_5 : Int) (a1_5 : IntKind.min .u8 ≤ x1_5) (b1_5 : x1_5 ≤ IntKind.max .u8) (x1_6 : Int) (a1_6 : IntKind.min .u8 ≤ x1_6) (b1_6 : x1_6 ≤ IntKind.max .u8) (x1_7 : Int) (a1_7 : IntKind.min .u8 ≤ x1_7) (b1_7 : x1_7 ≤ IntKind.max .u8) (x1_8 : Int) (a1_8 : IntKind.min .u8 ≤ x1_8) (b1_8 : x1_8 ≤ IntKind.max .u8) (x1_9 : Int) (a1_9 : IntKind.min .u8 ≤ x1_9) (b1_9 : x1_9 ≤ IntKind.max .u8) (x1_10 : Bool) (x1_11 : Bool) (x1_12 : Int) (a1_12 : IntKind.min .u8 ≤ x1_12) (b1_12 : x1_12 ≤ IntKind.max .u8) (x1_13 : Int) (a1_13 : IntKind.min .u8 ≤ x1_13) (b1_13 : x1_13 ≤ IntKind.max .u8) (x1_14 : Int) (a1_14 : IntKind.min .u8 ≤ x1_14) (b1_14 : x1_14 ≤ IntKind.max .u8) (x1_15 : Int) (a1_15 : IntKind.min .u8 ≤ x1_15) (b1_15 : x1_15 ≤ IntKind.max .u8) (x2 : Int) (a2 : IntKind.min .u8 ≤ x2) (b2 : x2 ≤ IntKind.max .u8) (x3 : Int) (a3 : IntKind.min .u8 ≤ x3) (b3 : x3 ≤ IntKind.max .u8) (x4_0 : Int) (a4_0 : IntKind.min .u8 ≤ x4_0) (b4_0 : x4_0 ≤ IntKind.max .u8) (x4_1 : Bool) (x4_2 : Int) (a4_2 : IntKind.min .u8 ≤ x4_2) (b4_2 : x4_2 ≤ IntKind.max .u8) (x4_3 : Int) (a4_3 : IntKind.min .u8 ≤ x4_3) (b4_3 : x4_3 ≤ IntKind.max .u8) (x4_4 : Int) (a4_4 : IntKind.min .u8 ≤ x4_4) (b4_4 : x4_4 ≤ IntKind.max .u8) (x4_5 : Int) (a4_5 : IntKind.min .u8 ≤ x4_5) (b4_5 : x4_5 ≤ IntKind.max .u8) (x4_6 : Int) (a4_6 : IntKind.min .u8 ≤ x4_6) (b4_6 : x4_6 ≤ IntKind.max .u8) (x4_7 : Int) (a4_7 : IntKind.min .u8 ≤ x4_7) (b4_7 : x4_7 ≤ IntKind.max .u8) (x4_8 : Int) (a4_8 : IntKind.min .u8 ≤ x4_8) (b4_8 : x4_8 ≤ IntKind.max .u8) (x4_9 : Int) (a4_9 : IntKind.min .u8 ≤ x4_9) (b4_9 : x4_9 ≤ IntKind.max .u8) (x4_10 : Int) (a4_10 : IntKind.min .u8 ≤ x4_10) (b4_10 : x4_10 ≤ IntKind.max .u8) (x4_11 : Int) (a4_11 : IntKind.min .i64 ≤ x4_11) (b4_11 : x4_11 ≤ IntKind.max .i64) (x4_12 : Int) (a4_12 : IntKind.min .i64 ≤ x4_12) (b4_12 : x4_12 ≤ IntKind.max .i64) (x4_13 : Int) (a4_13 : IntKind.min .i64 ≤ x4_13) (b4_13 : x4_13 ≤ IntKind.max .i64) (x4_14 : Int) (a4_14 : IntKind.min .i64 ≤ x4_14) (b4_14 : x4_14 ≤ IntKind.max .i64) : Alls (lAny_o (List.length y0) x1_0 x1_1 x1_2 x1_3 x1_4 x1_5 x1_6 x1_7 x1_8 x1_9 x1_10 x1_11 x1_12 x1_13 x1_14 x1_15 x2 x3 x4_0 x4_1 x4_2 x4_3 x4_4 x4_5 x4_6 x4_7 x4_8 x4_9 x4_10 x4_11 x4_12 x4_13 x4_14 y0) := by
  obtain ⟨l1_0, g1_0⟩ := bd_u8 a1_0 b1_0
  have w1_0 : IntKind.wrap .i64 x1_0 = x1_0 := w64_in (by omega) (by omega)
  obtain ⟨l1_1, g1_1⟩ := bd_u8 a1_1 b1_1
  have w1_1 : IntKind.wrap .i64 x1_1 = x1_1 := w64_in (by omega) (by omega)
  obtain ⟨l1_2, g1_2⟩ := bd_u8 a1_2 b1_2
  have w1_2 : IntKind.wrap .i64 x1_2 = x1_2 := w64_in (by omega) (by omega)
  obtain ⟨l1_3, g1_3⟩ := bd_u8 a1_3 b1_3
  have w1_3 : IntKind.wrap .i64 x1_3 = x1_3 := w64_in (by omega) (by omega)
  obtain ⟨l1_4, g1_4⟩ := bd_u8 a1_4 b1_4
  have w1_4 : IntKind.wrap .i64 x1_4 = x1_4 := w64_in (by omega) (by omega)
  obtain ⟨l1_5, g1_5⟩ := bd_u8 a1_5 b1_5
  have w1_5 : IntKind.wrap .i64 x1_5 = x1_5 := w64_in (by omega) (by omega)
  obtain ⟨l1_6, g1_6⟩ := bd_u8 a1_6 b1_6
  have w1_6 : IntKind.wrap .i64 x1_6 = x1_6 := w64_in (by omega) (by omega)
  obtain ⟨l1_7, g1_7⟩ := bd_u8 a1_7 b1_7
  have w1_7 : IntKind.wrap .i64 x1_7 = x1_7 := w64_in (by omega) (by omega)
  obtain ⟨l1_8, g1_8⟩ := bd_u8 a1_8 b1_8
  have w1_8 : IntKind.wrap .i64 x1_8 = x1_8 := w64_in (by omega) (by omega)
  obtain ⟨l1_9, g1_9⟩ := bd_u8 a1_9 b1_9
  have w1_9 : IntKind.wrap .i64 x1_9 = x1_9 := w64_in (by omega) (by omega)
  obtain ⟨l1_12, g1_12⟩ := bd_u8 a1_12 b1_12
  have w1_12 : IntKind.wrap .i64 x1_12 = x1_12 := w64_in (by omega) (by omega)
  obtain ⟨l1_13, g1_13⟩ := bd_u8 a1_13 b1_13
  have w1_13 : IntKind.wrap .i64 x1_13 = x1_13 := w64_in (by omega) (by omega)
  obtain ⟨l1_14, g1_14⟩ := bd_u8 a1_14 b1_14
  have w1_14 : IntKind.wrap .i64 x1_14 = x1_14 := w64_in (by omega) (by omega)
  obtain ⟨l1_15, g1_15⟩ := bd_u8 a1_15 b1_15
  have w1_15 : IntKind.wrap .i64 x1_15 = x1_15 := w64_in (by omega) (by omega)
  obtain ⟨l2, g2⟩ := bd_u8 a2 b2
  have w2 : IntKind.wrap .i64 x2 = x2 := w64_in (by omega) (by omega)
  obtain ⟨l3, g3⟩ := bd_u8 a3 b3
  have w3 : IntKind.wrap .i64 x3 = x3 := w64_in (by omega) (by omega)
  obtain ⟨l4_0, g4_0⟩ := bd_u8 a4_0 b4_0
  have w4_0 : IntKind.wrap .i64 x4_0 = x4_0 := w64_in (by omega) (by omega)
  obtain ⟨l4_2, g4_2⟩ := bd_u8 a4_2 b4_2
  have w4_2 : IntKind.wrap .i64 x4_2 = x4_2 := w64_in (by omega) (by omega)
  obtain ⟨l4_3, g4_3⟩ := bd_u8 a4_3 b4_3
  have w4_3 : IntKind.wrap .i64 x4_3 = x4_3 := w64_in (by omega) (by omega)
  obtain ⟨l4_4, g4_4⟩ := bd_u8 a4_4 b4_4
  have w4_4 : IntKind.wrap .i64 x4_4 = x4_4 := w64_in (by omega) (by omega)
  obtain ⟨l4_5, g4_5⟩ := bd_u8 a4_5 b4_5
  have w4_5 : IntKind.wrap .i64 x4_5 = x4_5 := w64_in (by omega) (by omega)
  obtain ⟨l4_6, g4_6⟩ := bd_u8 a4_6 b4_6
  have w4_6 : IntKind.wrap .i64 x4_6 = x4_6 := w64_in (by omega) (by omega)
  obtain ⟨l4_7, g4_7⟩ := bd_u8 a4_7 b4_7
  have w4_7 : IntKind.wrap .i64 x4_7 = x4_7 := w64_in (by omega) (by omega)
  obtain ⟨l4_8, g4_8⟩ := bd_u8 a4_8 b4_8
  have w4_8 : IntKind.wrap .i64 x4_8 = x4_8 := w64_in (by omega) (by omega)
  obtain ⟨l4_9, g4_9⟩ := bd_u8 a4_9 b4_9
  have w4_9 : IntKind.wrap .i64 x4_9 = x4_9 := w64_in (by omega) (by omega)
  obtain ⟨l4_10, g4_10⟩ := bd_u8 a4_10 b4_10
  have w4_10 : IntKind.wrap .i64 x4_10 = x4_10 := w64_in (by omega) (by omega)
  obtain ⟨l4_11, g4_11⟩ := bd_i64 a4_11 b4_11
  have w4_11 : IntKind.wrap .i64 x4_11 = x4_11 := w64_in (by omega) (by omega)
  obtain ⟨l4_12, g4_12⟩ := bd_i64 a4_12 b4_12
  have w4_12 : IntKind.wrap .i64 x4_12 = x4_12 := w64_in (by omega) (by omega)
  obtain ⟨l4_13, g4_13⟩ := bd_i64 a4_13 b4_13
  have w4_13 : IntKind.wrap .i64 x4_13 = x4_13 := w64_in (by omega) (by omega)
  obtain ⟨l4_14, g4_14⟩ := bd_i64 a4_14 b4_14
  have w4_14 : IntKind.wrap .i64 x4_14 = x4_14 := w64_in (by omega) (by omega)
  have hn : ∀ {b : Bool}, (!b) = true → b = false := by decide
  have hn' : ∀ {b : Bool}, (!b) = false → b = true := by decide
  have hy : wReadS_s0 y0.length y0 = y0 := by unfold wReadS_s0; simp
  have hM1 : (wReadS_s0 y0.length y0).length = y0.length := by rw [hy]
  have hM2 : ((lAny_s29 x1_0 x1_1 x1_2 x1_3 x1_4 x1_5 x1_6 x1_7 x1_8 x1_9 x1_10 x1_11 x1_12 x1_13 x1_14 x1_15 x2 x3)).length = 15 := by
    show ([] ++ List.set _ _ _).length = 15
    rw [List.nil_append, List.length_set]; rfl
  have hM2' : ((lAny_s28 x1_0 x1_1 x1_2 x1_3 x1_4 x1_5 x1_6 x1_7 x1_8 x1_9 x1_10 x1_11 x1_12 x1_13 x1_14 x1_15 x2 x3)).length = 15 := by
    show (List.set _ _ _).length = 15
    rw [List.length_set]; rfl
  have hr2 : ∀ row ∈ (lAny_s29 x1_0 x1_1 x1_2 x1_3 x1_4 x1_5 x1_6 x1_7 x1_8 x1_9 x1_10 x1_11 x1_12 x1_13 x1_14 x1_15 x2 x3), RowFit [.int .u8] row := by
    intro row hrow
    have hrow' : row ∈ List.set (lAny_s1 x1_0 x1_1 x1_2 x1_3 x1_4 x1_5 x1_6 x1_7 x1_8 x1_9 x1_10 x1_11 x1_12 x1_13 x1_14 x1_15) (Int.toNat (lAny_s27 x1_0 x1_1 x1_2 x1_3 x1_4 x1_5 x1_6 x1_7 x1_8 x1_9 x1_10 x1_11 x1_12 x1_13 x1_14 x1_15 x2)) [x3] := by
      have e : (lAny_s29 x1_0 x1_1 x1_2 x1_3 x1_4 x1_5 x1_6 x1_7 x1_8 x1_9 x1_10 x1_11 x1_12 x1_13 x1_14 x1_15 x2 x3) = [] ++ List.set (lAny_s1 x1_0 x1_1 x1_2 x1_3 x1_4 x1_5 x1_6 x1_7 x1_8 x1_9 x1_10 x1_11 x1_12 x1_13 x1_14 x1_15) (Int.toNat (lAny_s27 x1_0 x1_1 x1_2 x1_3 x1_4 x1_5 x1_6 x1_7 x1_8 x1_9 x1_10 x1_11 x1_12 x1_13 x1_14 x1_15 x2)) [x3] := rfl
      rw [e, List.nil_append] at hrow; exact hrow
    have one : ∀ b : Int, 0 ≤ b → b ≤ 255 → RowFit [.int .u8] [b] := fun b h0 h1 => ⟨rfl, fun j k n hj hn => by
      match j with
      | 0 =>
        simp only [List.getElem?_cons_zero, Option.some.injEq] at hj hn
        subst hj hn; exact ⟨h0, h1⟩
      | j + 1 => simp at hj⟩
    rcases List.mem_or_eq_of_mem_set hrow' with h | h
    · have h' : row ∈ [[sm09_0 x1_0], [stPut0_s0 x1_10], [sm09_1 x1_1 x1_11], [x1_2], [x1_3], [sm09_2 x1_4], [sm09_3 x1_5 x1_11], [sm09_4 x1_6 x1_11], [sm09_5 x1_7 x1_11], [sm09_6 x1_8 x1_11], [sm09_7 x1_9], [IntKind.wrap .u8 (sm09_8 x1_12)], [IntKind.wrap .u8 (sm09_9 x1_12 x1_13)], [IntKind.wrap .u8 (sm09_10 x1_12 x1_14)], [IntKind.wrap .u8 (sm09_11 x1_12 x1_13 x1_15)]] := h
      have W : ∀ x : Int, 0 ≤ IntKind.wrap .u8 x ∧ IntKind.wrap .u8 x ≤ 255 := fun x => by have e := IntKind.wrap_u8 x; omega
      have md : ∀ (x m : Int), 0 ≤ x → 0 < m → m ≤ 255 → 0 ≤ Int.tmod x m ∧ Int.tmod x m ≤ 255 := fun x m h0 h1 h2 => by
        rw [Int.tmod_eq_emod_of_nonneg h0]
        have := Int.emod_nonneg x (show m ≠ 0 by omega)
        have := Int.emod_lt_of_pos x h1
        omega
      have bf : ∀ (b : Bool) (x y : Int), 0 ≤ x ∧ x ≤ 255 → 0 ≤ y ∧ y ≤ 255 → 0 ≤ (bif b then x else y) ∧ (bif b then x else y) ≤ 255 := fun b x y hx hy => by cases b <;> assumption
      simp only [List.mem_cons, List.not_mem_nil, or_false] at h'
      rcases h' with rfl | rfl | rfl | rfl | rfl | rfl | rfl | rfl | rfl | rfl | rfl | rfl | rfl | rfl | rfl
      · exact one _ (md _ _ l1_0 (by omega) (by omega)).1 (md _ _ l1_0 (by omega) (by omega)).2
      · exact one _ (bf _ _ _ (by omega) (by omega)).1 (bf _ _ _ (by omega) (by omega)).2
      · exact one _ (bf _ _ _ (by omega) (md _ _ l1_1 (by omega) (by omega))).1 (bf _ _ _ (by omega) (md _ _ l1_1 (by omega) (by omega))).2
      · exact one _ l1_2 g1_2
      · exact one _ l1_3 g1_3
      · exact one _ (md _ _ l1_4 (by omega) (by omega)).1 (md _ _ l1_4 (by omega) (by omega)).2
      · exact one _ (bf _ _ _ (by omega) (md _ _ l1_5 (by omega) (by omega))).1 (bf _ _ _ (by omega) (md _ _ l1_5 (by omega) (by omega))).2
      · exact one _ (bf _ _ _ (by omega) (md _ _ l1_6 (by omega) (by omega))).1 (bf _ _ _ (by omega) (md _ _ l1_6 (by omega) (by omega))).2
      · exact one _ (bf _ _ _ (by omega) (md _ _ l1_7 (by omega) (by omega))).1 (bf _ _ _ (by omega) (md _ _ l1_7 (by omega) (by omega))).2
      · exact one _ (bf _ _ _ (by omega) (md _ _ l1_8 (by omega) (by omega))).1 (bf _ _ _ (by omega) (md _ _ l1_8 (by omega) (by omega))).2
      · exact one _ (md _ _ l1_9 (by omega) (by omega)).1 (md _ _ l1_9 (by omega) (by omega)).2
      · exact one _ (W _).1 (W _).2
      · exact one _ (W _).1 (W _).2
      · exact one _ (W _).1 (W _).2
      · exact one _ (W _).1 (W _).2
    · rw [h]; exact one _ l3 g3
  have h60 : ∀ {b}, b = true → (!lAny_s0 (List.length y0)) = true → y0.length ≤ 60 := fun _ h => by
    have := of_decide_eq_false (hn h)
    have e : Int.ofNat y0.length = (y0.length : Int) := rfl
    rw [e] at this; omega
  by_cases hq : lAny_s0 (List.length y0) = true
  · unfold lAny_o
    rw [hq]
    exact ⟨(fun _ h => nomatch h), (fun _ h => nomatch h), (fun _ h => nomatch h), (fun _ h => nomatch h), (fun _ h => nomatch h), (fun _ h => nomatch h), (fun _ h => nomatch h), (fun _ h => nomatch h), (fun _ h => nomatch h), (fun _ h => nomatch h), (fun _ h => nomatch h), (fun _ h => nomatch h), (fun _ h => nomatch h), (fun _ h => nomatch h), (fun _ h => nomatch h), (fun _ h => nomatch h), (fun _ h => nomatch h), (fun _ h => nomatch h), (fun _ h => nomatch h), (fun _ h => nomatch h), (fun _ h => nomatch h), (fun _ h => nomatch h), (fun _ h => nomatch h), (fun _ h => nomatch h), (fun _ h => nomatch h), (fun _ h => nomatch h), (fun _ h => nomatch h), (fun _ h => nomatch h), (fun _ h => nomatch h), (fun _ h => nomatch h), (fun _ h => nomatch h), (fun _ h => nomatch h), (fun _ h => nomatch h), (fun _ h => nomatch h), (fun _ h => nomatch h), (fun _ h => nomatch h), (fun _ h => nomatch h), (fun _ h => nomatch h), (fun _ h => nomatch h), (fun _ h => nomatch h), (fun _ h => nomatch h), (fun _ h => nomatch h), (fun _ h => nomatch h), (fun _ h => nomatch h), (fun _ h => nomatch h), (fun _ h => nomatch h), (fun _ h => nomatch h), (fun _ h => nomatch h), (fun _ h => nomatch h), (fun _ h => nomatch h), (fun _ h => nomatch h), (fun _ h => nomatch h), (fun _ h => nomatch h), (fun _ h => nomatch h), (fun _ h => nomatch h), (fun _ h => nomatch h), (fun _ h => nomatch h), (fun _ h => nomatch h), (fun _ h => nomatch h), (fun _ h => nomatch h), (fun _ h => nomatch h), (fun _ h => nomatch h), (fun _ h => nomatch h), (fun _ h => nomatch h), (fun _ h => nomatch h), (fun _ h => nomatch h), (fun _ h => nomatch h), (fun _ h => nomatch h), (fun _ h => nomatch h), (fun _ h => nomatch h), (fun _ h => nomatch h), (fun _ h => nomatch h), (fun _ h => nomatch h), (fun _ h => nomatch h), (fun _ h => nomatch h), (fun _ h => nomatch h), (fun _ h => nomatch h), (fun _ h => nomatch h), (fun _ h => nomatch h), (fun _ h => nomatch h), (fun _ h => nomatch h), (fun _ h => nomatch h), (fun _ h => nomatch h), (fun _ h => nomatch h), (fun _ h => nomatch h), (fun _ h => nomatch h), (fun _ h => nomatch h), (fun _ h => nomatch h), (fun _ h => nomatch h), (fun _ h => nomatch h), (fun _ h => nomatch h), (fun _ h => nomatch h), (fun _ h => nomatch h), (fun _ h => nomatch h), trivial⟩
  have hlen : y0.length ≤ 60 := by
    have := of_decide_eq_false (Bool.eq_false_iff.2 hq)
    have e : Int.ofNat y0.length = (y0.length : Int) := rfl
    rw [e] at this; omega
  have hM1' : (wReadS_s0 y0.length y0).length ≤ 1000 := by rw [hM1]; omega
  have A1 := any_one (M := wReadS_s0 y0.length y0) (by rw [hy]; exact p0) hM1'
  have e52 : lAny_s52 = false := by decide
  have hs5 : (!lAny_s5 (List.length y0) y0) = true → (bif lAny_s52 then true else lAny_s5 (List.length y0) y0) = false := fun h => by rw [e52]; exact hn h
  have hs5' : (!lAny_s5 (List.length y0) y0) = false → (bif lAny_s52 then true else lAny_s5 (List.length y0) y0) = true := fun h => by rw [e52]; exact hn' h
  have hl15 : (!lAny_s5 (List.length y0) y0) = true → 15 ≤ y0.length := fun h => by
    have h1 : decide (wLeft_0 0 0 (wReadS_s0 y0.length y0) < 15) = false := hn h
    rw [left_eq hM1'] at h1
    have := of_decide_eq_false h1
    omega
  have hs6 : (!(lAny_s6 (List.length y0) y0)) = true → 15 ≤ y0.length := fun h => by
    have := (A1.2 (hn h)).1
    rw [hM1] at this; exact this
  have h27 : 0 ≤ (lAny_s27 x1_0 x1_1 x1_2 x1_3 x1_4 x1_5 x1_6 x1_7 x1_8 x1_9 x1_10 x1_11 x1_12 x1_13 x1_14 x1_15 x2) ∧ (lAny_s27 x1_0 x1_1 x1_2 x1_3 x1_4 x1_5 x1_6 x1_7 x1_8 x1_9 x1_10 x1_11 x1_12 x1_13 x1_14 x1_15 x2) < (lAny_s3 x1_0 x1_1 x1_2 x1_3 x1_4 x1_5 x1_6 x1_7 x1_8 x1_9 x1_10 x1_11 x1_12 x1_13 x1_14 x1_15) := by
    have e3 : (lAny_s3 x1_0 x1_1 x1_2 x1_3 x1_4 x1_5 x1_6 x1_7 x1_8 x1_9 x1_10 x1_11 x1_12 x1_13 x1_14 x1_15) = 15 := rfl
    unfold lAny_s27
    rw [e3, w2, Int.tmod_eq_emod_of_nonneg l2]
    omega
  have hs54 : (lAny_s32 x1_0 x1_1 x1_2 x1_3 x1_4 x1_5 x1_6 x1_7 x1_8 x1_9 x1_10 x1_11 x1_12 x1_13 x1_14 x1_15 x2 x3) = true → (lAny_s54 x1_0 x1_1 x1_2 x1_3 x1_4 x1_5 x1_6 x1_7 x1_8 x1_9 x1_10 x1_11 x1_12 x1_13 x1_14 x1_15 x2 x3) = false := fun h => by
    show (bif lAny_s52 then true else (lAny_s31 x1_0 x1_1 x1_2 x1_3 x1_4 x1_5 x1_6 x1_7 x1_8 x1_9 x1_10 x1_11 x1_12 x1_13 x1_14 x1_15 x2 x3)) = false
    rw [e52]; exact hn h
  have hs54' : (lAny_s32 x1_0 x1_1 x1_2 x1_3 x1_4 x1_5 x1_6 x1_7 x1_8 x1_9 x1_10 x1_11 x1_12 x1_13 x1_14 x1_15 x2 x3) = false → (lAny_s54 x1_0 x1_1 x1_2 x1_3 x1_4 x1_5 x1_6 x1_7 x1_8 x1_9 x1_10 x1_11 x1_12 x1_13 x1_14 x1_15 x2 x3) = true := fun h => by
    show (bif lAny_s52 then true else (lAny_s31 x1_0 x1_1 x1_2 x1_3 x1_4 x1_5 x1_6 x1_7 x1_8 x1_9 x1_10 x1_11 x1_12 x1_13 x1_14 x1_15 x2 x3)) = true
    rw [e52]; exact hn' h
  exact ⟨(fun q0 q1 => d15),
    (fun q0 q1 => d15),
    (fun q0 q1 q2 => (by show (15 : Int) ≠ 0; decide)),
    (fun q0 q1 q2 => h27),
    (fun q0 q1 q2 => (mul1 (Nat.le_trans (Nat.le_of_eq hM1) (by omega)))),
    (fun q0 q1 q2 q3 => (hs5 q3)),
    (fun q0 q1 q2 q3 => rfl),
    (fun q0 q1 q2 q3 => (rb_ob (by rw [hM1]; exact hl15 q3))),
    (fun q0 q1 q2 q3 => (mul1 (Nat.le_trans rb_len (by rw [hM1]; omega)))),
    (fun q0 q1 q2 q3 => (by decide)),
    (fun q0 q1 q2 q3 => (mul1 (Nat.le_trans st_len.2 (by rw [hM1]; omega)))),
    (fun q0 q1 q2 q3 => (ix st_len.1 (by omega))),
    (fun q0 q1 q2 q3 => (ix st_len.1 (by omega))),
    (fun q0 q1 q2 q3 => (ix st_len.1 (by omega))),
    (fun q0 q1 q2 q3 => (ix st_len.1 (by omega))),
    (fun q0 q1 q2 q3 => (ix st_len.1 (by omega))),
    (fun q0 q1 q2 q3 => (ix st_len.1 (by omega))),
    (fun q0 q1 q2 q3 => (ix st_len.1 (by omega))),
    (fun q0 q1 q2 q3 => (ix st_len.1 (by omega))),
    (fun q0 q1 q2 q3 => (ix st_len.1 (by omega))),
    (fun q0 q1 q2 q3 => (ix st_len.1 (by omega))),
    (fun q0 q1 q2 q3 => (ix st_len.1 (by omega))),
    (fun q0 q1 q2 q3 => (ix st_len.1 (by omega))),
    (fun q0 q1 q2 q3 => (ix st_len.1 (by omega))),
    (fun q0 q1 q2 q3 => (ix st_len.1 (by omega))),
    (fun q0 q1 q2 q3 => (ix st_len.1 (by omega))),
    (fun q0 q1 q2 q3 q4 => (ix st_len.1 (by omega))),
    (fun q0 q1 q2 q3 => (hs5' q3)),
    (fun q0 q1 q2 q3 => (by decide)),
    (fun q0 q1 q2 q3 => (by decide)),
    (fun q0 q1 q2 q3 => (by decide)),
    (fun q0 q1 q2 q3 => (by decide)),
    (fun q0 q1 q2 q3 => (by decide)),
    (fun q0 q1 q2 q3 => (by decide)),
    (fun q0 q1 q2 q3 => (by decide)),
    (fun q0 q1 q2 q3 => (by decide)),
    (fun q0 q1 q2 q3 => (by decide)),
    (fun q0 q1 q2 q3 => (by decide)),
    (fun q0 q1 q2 q3 => (by decide)),
    (fun q0 q1 q2 q3 => (by decide)),
    (fun q0 q1 q2 q3 => (by decide)),
    (fun q0 q1 q2 q3 => (by decide)),
    (fun q0 q1 q2 q3 => (by decide)),
    (fun q0 q1 q2 q3 => (by decide)),
    (fun q0 q1 q2 q3 => (by decide)),
    (fun q0 q1 q2 q3 q4 => (by decide)),
    (fun q0 q1 q2 q3 => d15),
    (fun q0 q1 q2 q3 q4 => d15),
    (fun q0 q1 q2 q3 q4 => (sl_ob (hs6 q3))),
    (fun q0 q1 q2 q3 => (mul1 (Nat.le_trans (Nat.le_of_eq hM2) (by omega)))),
    (fun q0 q1 q2 q3 q4 => (hs54 q4)),
    (fun q0 q1 q2 q3 q4 => rfl),
    (fun q0 q1 q2 q3 q4 => (rb_ob (Nat.le_of_eq hM2.symm))),
    (fun q0 q1 q2 q3 q4 => (mul1 (Nat.le_trans rb_len (by rw [hM2]; omega)))),
    (fun q0 q1 q2 q3 q4 => (by decide)),
    (fun q0 q1 q2 q3 q4 => (mul1 (Nat.le_trans st_len.2 (by rw [hM2]; omega)))),
    (fun q0 q1 q2 q3 q4 => (ix st_len.1 (by omega))),
    (fun q0 q1 q2 q3 q4 => (ix st_len.1 (by omega))),
    (fun q0 q1 q2 q3 q4 => (ix st_len.1 (by omega))),
    (fun q0 q1 q2 q3 q4 => (ix st_len.1 (by omega))),
    (fun q0 q1 q2 q3 q4 => (ix st_len.1 (by omega))),
    (fun q0 q1 q2 q3 q4 => (ix st_len.1 (by omega))),
    (fun q0 q1 q2 q3 q4 => (ix st_len.1 (by omega))),
    (fun q0 q1 q2 q3 q4 => (ix st_len.1 (by omega))),
    (fun q0 q1 q2 q3 q4 => (ix st_len.1 (by omega))),
    (fun q0 q1 q2 q3 q4 => (ix st_len.1 (by omega))),
    (fun q0 q1 q2 q3 q4 => (ix st_len.1 (by omega))),
    (fun q0 q1 q2 q3 q4 => (ix st_len.1 (by omega))),
    (fun q0 q1 q2 q3 q4 => (ix st_len.1 (by omega))),
    (fun q0 q1 q2 q3 q4 => (ix st_len.1 (by omega))),
    (fun q0 q1 q2 q3 q4 => (ix st_len.1 (by omega))),
    (fun q0 q1 q2 q3 q4 q5 => (ix st_len.1 (by omega))),
    (fun q0 q1 q2 q3 q4 => (hs54' q4)),
    (fun q0 q1 q2 q3 q4 => (by decide)),
    (fun q0 q1 q2 q3 q4 => (by decide)),
    (fun q0 q1 q2 q3 q4 => (by decide)),
    (fun q0 q1 q2 q3 q4 => (by decide)),
    (fun q0 q1 q2 q3 q4 => (by decide)),
    (fun q0 q1 q2 q3 q4 => (by decide)),
    (fun q0 q1 q2 q3 q4 => (by decide)),
    (fun q0 q1 q2 q3 q4 => (by decide)),
    (fun q0 q1 q2 q3 q4 => (by decide)),
    (fun q0 q1 q2 q3 q4 => (by decide)),
    (fun q0 q1 q2 q3 q4 => (by decide)),
    (fun q0 q1 q2 q3 q4 => (by decide)),
    (fun q0 q1 q2 q3 q4 => (by decide)),
    (fun q0 q1 q2 q3 q4 => (by decide)),
    (fun q0 q1 q2 q3 q4 => (by decide)),
    (fun q0 q1 q2 q3 q4 => (by decide)),
    (fun q0 q1 q2 q3 q4 => (by decide)),
    (fun q0 q1 q2 q3 q4 q5 => (by decide)),
    (fun q0 q1 q2 q3 q4 => d15),
    (fun q0 q1 q2 q3 q4 q5 => d15),
    (fun q0 q1 q2 q3 q4 q5 => (sl_ob (Nat.le_of_eq hM2'.symm))), trivial⟩

end Go.Proofs.Ytcdejlgophpdjaa
