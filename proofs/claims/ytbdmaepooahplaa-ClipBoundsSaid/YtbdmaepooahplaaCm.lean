/-
  The law on what is left of a triangle: its bounds.
-/
import Derived.Test.YtbdmaepooahplaaCi
import Derived.Test.YtbdmaepooahplaaCd3
namespace Go.Proofs.Ytbdmaepooahplaa
open Go Go.RowKit Go.Proofs.Ytbdmaepooahplaa.V
set_option linter.unusedVariables false
set_option linter.unusedSectionVars false

theorem clipG_q (l : List (List Int)) : ∃ q : List (List Int), clipG l = q.map fixR ∧ q.length ≤ 16 ∧ q.length ≠ 1 ∧ q.length ≠ 2 := by
  unfold clipG
  by_cases h : (by7 l).length < 3
  · rw [decide_eq_true h]; exact ⟨[], rfl, by decide, by decide, by decide⟩
  · rw [decide_eq_false h]
    by_cases g : 16 < (by7 l).length
    · rw [decide_eq_true g]; exact ⟨[], rfl, by decide, by decide, by decide⟩
    · rw [decide_eq_false g]; exact ⟨by7 l, rfl, by omega, by omega, by omega⟩

theorem bdP (x : Int) : (wi x == fWithin_0 (wi x) 4194304) = true := by
  rw [fwi, wi_id (wi_bd x)]; exact beq_self_eq_true _
theorem bd3 (x : Int) : ((if wi x < 256 then 256 else wi x) == fWithin_0 (if wi x < 256 then 256 else wi x) 4194304) = true := by
  have h := wi_bd x
  rw [fwi, wi_id (x := if wi x < 256 then 256 else wi x) ⟨by split <;> omega, by split <;> omega⟩]; exact beq_self_eq_true _
theorem bd3' (x : Int) : decide ((if wi x < 256 then 256 else wi x) < 256) = false := decide_eq_false (by split <;> omega)
theorem bdc (x : Int) : (bif decide (vmColour_0 x < 0) then true else decide (65536 < vmColour_0 x)) = false := by
  have h : 0 ≤ vmColour_0 x ∧ vmColour_0 x ≤ 65536 := by unfold vmColour_0 vmColour_s0; split <;> (try split) <;> omega
  rw [decide_eq_false (by omega), decide_eq_false (by omega)]; rfl

def bdS (v : lBounds_l62671_T) (i : Nat) : lBounds_l62671_T := { v with a4 := Int.ofNat i }

section
variable {v : lBounds_l62671_T} {q : List (List Int)} (h53 : v.a53 = q.map fixR) (h3 : v.a3 = Int.ofNat q.length) (hl : q.length ≤ 1000000)
include h53 h3 hl
theorem bd_0 {i : Nat} : lBounds_l62671_s0 (bdS v i) = decide (i < q.length) := by
  show decide (Int.ofNat i < v.a3) = _
  rw [h3]
  by_cases h : i < q.length
  · rw [decide_eq_true h]; exact decide_eq_true (by simpa using h)
  · rw [decide_eq_false h]; exact decide_eq_false (by simpa using h)
theorem bd_r {i : Nat} (h : i < q.length) (j : Nat) : rget (bdS v i).a53 (Int.toNat (bdS v i).a4) j = (fixR (q.getD i [])).getD j 0 := by
  show ((v.a53).getD i []).getD j 0 = _
  rw [h53]
  have e : (q.map fixR).getD i [] = fixR (q.getD i []) := by
    rw [List.getD_eq_getElem?_getD, List.getElem?_map, List.getElem?_eq_getElem h, List.getD_eq_getElem?_getD, List.getElem?_eq_getElem h]
    rfl
  rw [e]
theorem bd_s3 {i : Nat} (h : i < q.length) : lBounds_l62671_s3 (bdS v i) = false := by
  unfold lBounds_l62671_s3
  rw [bd_r h53 h3 hl h, bd_r h53 h3 hl h, bd_r h53 h3 hl h, bd_r h53 h3 hl h]
  have e0 : (fixR (q.getD i [])).getD 0 0 = wi ((q.getD i []).getD 0 0) := fwi _
  have e1 : (fixR (q.getD i [])).getD 1 0 = wi ((q.getD i []).getD 1 0) := fwi _
  have e2 : (fixR (q.getD i [])).getD 2 0 = wi ((q.getD i []).getD 2 0) := fwi _
  have e3 : (fixR (q.getD i [])).getD 3 0 = if wi ((q.getD i []).getD 3 0) < 256 then 256 else wi ((q.getD i []).getD 3 0) := by
    show (if fWithin_0 _ 4194304 < 256 then 256 else fWithin_0 _ 4194304) = _
    rw [fwi]
  rw [e0, e1, e2, e3, bd3', bdP, bdP, bdP, bd3]
  rfl
theorem bd_s5 {i : Nat} (h : i < q.length) : lBounds_l62671_s5 (bdS v i) = false := by
  unfold lBounds_l62671_s5; rw [bd_r h53 h3 hl h]; exact bdc _
theorem bd_s7 {i : Nat} (h : i < q.length) : lBounds_l62671_s7 (bdS v i) = false := by
  unfold lBounds_l62671_s7; rw [bd_r h53 h3 hl h]; exact bdc _
theorem bd_s9 {i : Nat} (h : i < q.length) : lBounds_l62671_s9 (bdS v i) = false := by
  unfold lBounds_l62671_s9; rw [bd_r h53 h3 hl h]; exact bdc _
theorem bd_s11 {i : Nat} (h : i < q.length) : lBounds_l62671_s11 (bdS v i) = false := by
  unfold lBounds_l62671_s11; rw [bd_r h53 h3 hl h]; exact bdc _
theorem bd_step {i : Nat} (h : i < q.length) : pick1 (lBounds_l62671_st (bdS v i)).2 = some (.n, bdS v (i + 1)) := by
  unfold lBounds_l62671_st
  rw [bd_0 h53 h3 hl, decide_eq_true h, bd_s3 h53 h3 hl h, bd_s5 h53 h3 hl h, bd_s7 h53 h3 hl h, bd_s9 h53 h3 hl h, bd_s11 h53 h3 hl h]
  simp only [pick1, Bool.not_true, Bool.not_false, Bool.and_false, Bool.or_false, Bool.and_self]
  have e1 : IntKind.wrap .i64 ((bdS v i).a4 + 1) = Int.ofNat (i + 1) := by
    have e : Int.ofNat i = (i : Int) := rfl
    show IntKind.wrap .i64 (Int.ofNat i + 1) = _
    rw [w64_in (by omega) (by omega)]; rfl
  rw [e1]
  rfl
theorem bd_end : pick1 (lBounds_l62671_st (bdS v q.length)).2 = some (.e 2, bdS v q.length) := by
  unfold lBounds_l62671_st
  rw [bd_0 h53 h3 hl, decide_eq_false (by omega)]
  rfl
theorem bd_obs {i : Nat} (h : i ≤ q.length) : Alls (lBounds_l62671_st (bdS v i)).1 := by
  unfold lBounds_l62671_st
  rw [bd_0 h53 h3 hl]
  by_cases g : i < q.length
  · rw [decide_eq_true g]
    have n2 : Int.ofNat (bdS v i).a53.length = (q.length : Int) := by
      show Int.ofNat v.a53.length = _
      rw [h53, List.length_map]; rfl
    have n3 : (bdS v i).a4 = (i : Int) := rfl
    rw [n2, n3]
    exact ⟨fun _ => ⟨by omega, by omega⟩, trivial⟩
  · rw [decide_eq_false g]
    exact ⟨nofun, trivial⟩
theorem bd_run (h4 : v.a4 = 0) : lrun lBounds_l62671_st 18446744073709551616 v = some (.e 2, bdS v q.length) := by
  have e : bdS v 0 = v := by
    show ({ v with a4 := (0 : Int) } : lBounds_l62671_T) = v
    rw [← h4]
  have := lrun_count (st := lBounds_l62671_st) (s := bdS v) (n := q.length) (fun i h => bd_step h53 h3 hl h) (bd_end h53 h3 hl) nofun q.length 0 (by omega) 18446744073709551616 (by omega)
  rw [e] at this
  exact this
theorem bd_lok (h4 : v.a4 = 0) : lok lBounds_l62671_st 18446744073709551616 v := by
  have e : bdS v 0 = v := by
    show ({ v with a4 := (0 : Int) } : lBounds_l62671_T) = v
    rw [← h4]
  have := lok_count (st := lBounds_l62671_st) (s := bdS v) (n := q.length) (fun i h => bd_step h53 h3 hl h) (bd_end h53 h3 hl) nofun (fun i h => bd_obs h53 h3 hl h) q.length 0 (by omega) 18446744073709551616 (by omega)
  rw [e] at this
  exact this
end

theorem few {q : List (List Int)} (h : q.length ≤ 16) (h1 : q.length ≠ 1) (h2 : q.length ≠ 2) : (bif decide (16 < Int.ofNat (q.map fixR).length) then true else bif Int.ofNat (q.map fixR).length == 1 then true else Int.ofNat (q.map fixR).length == 2) = false := by
  rw [List.length_map]
  have e : Int.ofNat q.length = (q.length : Int) := rfl
  rw [e, decide_eq_false (by omega), beq_false_of_ne (show (q.length : Int) ≠ 1 by omega), beq_false_of_ne (show (q.length : Int) ≠ 2 by omega)]; rfl

set_option maxHeartbeats 400000 in
theorem ClipBounds_true (x0_0 : Int) (a0_0 : IntKind.min .i16 ≤ x0_0) (b0_0 : x0_0 ≤ IntKind.max .i16) (x0_1 : Int) (a0_1 : IntKind.min .i16 ≤ x0_1) (b0_1 : x0_1 ≤ IntKind.max .i16) (x0_2 : Int) (a0_2 : IntKind.min .i16 ≤ x0_2) (b0_2 : x0_2 ≤ IntKind.max .i16) (x0_3 : Int) (a0_3 : IntKind.min .i16 ≤ x0_3) (b0_3 : x0_3 ≤ IntKind.max .i16) (x0_4 : Int) (a0_4 : IntKind.min .u8 ≤ x0_4) (b0_4 : x0_4 ≤ IntKind.max .u8) (x0_5 : Int) (a0_5 : IntKind.min .u8 ≤ x0_5) (b0_5 : x0_5 ≤ IntKind.max .u8) (x0_6 : Int) (a0_6 : IntKind.min .u8 ≤ x0_6) (b0_6 : x0_6 ≤ IntKind.max .u8) (x0_7 : Int) (a0_7 : IntKind.min .u8 ≤ x0_7) (b0_7 : x0_7 ≤ IntKind.max .u8) (x0_8 : Bool) (x0_9 : Int) (a0_9 : IntKind.min .i16 ≤ x0_9) (b0_9 : x0_9 ≤ IntKind.max .i16) (x0_10 : Int) (a0_10 : IntKind.min .i16 ≤ x0_10) (b0_10 : x0_10 ≤ IntKind.max .i16) (x0_11 : Int) (a0_11 : IntKind.min .i16 ≤ x0_11) (b0_11 : x0_11 ≤ IntKind.max .i16) (x0_12 : Int) (a0_12 : IntKind.min .i16 ≤ x0_12) (b0_12 : x0_12 ≤ IntKind.max .i16) (x0_13 : Int) (a0_13 : IntKind.min .u8 ≤ x0_13) (b0_13 : x0_13 ≤ IntKind.max .u8) (x0_14 : Int) (a0_14 : IntKind.min .u8 ≤ x0_14) (b0_14 : x0_14 ≤ IntKind.max .u8) (x0_15 : Int) (a0_15 : IntKind.min .u8 ≤ x0_15) (b0_15 : x0_15 ≤ IntKind.max .u8) (x0_16 : Int) (a0_16 : IntKind.min .u8 ≤ x0_16) (b0_16 : x0_16 ≤ IntKind.max .u8) (x0_17 : Bool) (x0_18 : Int) (a0_18 : IntKind.min .i16 ≤ x0_18) (b0_18 : x0_18 ≤ IntKind.max .i16) (x0_19 : Int) (a0_19 : IntKind.min .i16 ≤ x0_19) (b0_19 : x0_19 ≤ IntKind.max .i16) (x0_20 : Int) (a0_20 : IntKind.min .i16 ≤ x0_20) (b0_20 : x0_20 ≤ IntKind.max .i16) (x0_21 : Int) (a0_21 : IntKind.min .i16 ≤ x0_21) (b0_21 : x0_21 ≤ IntKind.max .i16) (x0_22 : Int) (a0_22 : IntKind.min .u8 ≤ x0_22) (b0_22 : x0_22 ≤ IntKind.max .u8) (x0_23 : Int) (a0_23 : IntKind.min .u8 ≤ x0_23) (b0_23 : x0_23 ≤ IntKind.max .u8) (x0_24 : Int) (a0_24 : IntKind.min .u8 ≤ x0_24) (b0_24 : x0_24 ≤ IntKind.max .u8) (x0_25 : Int) (a0_25 : IntKind.min .u8 ≤ x0_25) (b0_25 : x0_25 ≤ IntKind.max .u8) (x0_26 : Bool) (x1_0 : Int) (a1_0 : IntKind.min .i64 ≤ x1_0) (b1_0 : x1_0 ≤ IntKind.max .i64) (x1_1 : Int) (a1_1 : IntKind.min .i64 ≤ x1_1) (b1_1 : x1_1 ≤ IntKind.max .i64) (x1_2 : Int) (a1_2 : IntKind.min .i64 ≤ x1_2) (b1_2 : x1_2 ≤ IntKind.max .i64) (x1_3 : Int) (a1_3 : IntKind.min .i64 ≤ x1_3) (b1_3 : x1_3 ≤ IntKind.max .i64) (x1_4 : Int) (a1_4 : IntKind.min .i64 ≤ x1_4) (b1_4 : x1_4 ≤ IntKind.max .i64) (x1_5 : Int) (a1_5 : IntKind.min .i64 ≤ x1_5) (b1_5 : x1_5 ≤ IntKind.max .i64) (x1_6 : Int) (a1_6 : IntKind.min .i64 ≤ x1_6) (b1_6 : x1_6 ≤ IntKind.max .i64) (x1_7 : Int) (a1_7 : IntKind.min .i64 ≤ x1_7) (b1_7 : x1_7 ≤ IntKind.max .i64) (x1_8 : Int) (a1_8 : IntKind.min .i64 ≤ x1_8) (b1_8 : x1_8 ≤ IntKind.max .i64) (x1_9 : Int) (a1_9 : IntKind.min .i64 ≤ x1_9) (b1_9 : x1_9 ≤ IntKind.max .i64) (x1_10 : Int) (a1_10 : IntKind.min .i64 ≤ x1_10) (b1_10 : x1_10 ≤ IntKind.max .i64) (x1_11 : Int) (a1_11 : IntKind.min .i64 ≤ x1_11) (b1_11 : x1_11 ≤ IntKind.max .i64) (x2_0 : Int) (a2_0 : IntKind.min .i64 ≤ x2_0) (b2_0 : x2_0 ≤ IntKind.max .i64) (x2_1 : Int) (a2_1 : IntKind.min .i64 ≤ x2_1) (b2_1 : x2_1 ≤ IntKind.max .i64) (x2_2 : Int) (a2_2 : IntKind.min .i64 ≤ x2_2) (b2_2 : x2_2 ≤ IntKind.max .i64) (x2_3 : Int) (a2_3 : IntKind.min .i64 ≤ x2_3) (b2_3 : x2_3 ≤ IntKind.max .i64) (x2_4 : Int) (a2_4 : IntKind.min .i64 ≤ x2_4) (b2_4 : x2_4 ≤ IntKind.max .i64) (x2_5 : Int) (a2_5 : IntKind.min .i64 ≤ x2_5) (b2_5 : x2_5 ≤ IntKind.max .i64) (x2_6 : Int) (a2_6 : IntKind.min .i64 ≤ x2_6) (b2_6 : x2_6 ≤ IntKind.max .i64) (x2_7 : Int) (a2_7 : IntKind.min .i64 ≤ x2_7) (b2_7 : x2_7 ≤ IntKind.max .i64) (x2_8 : Int) (a2_8 : IntKind.min .i64 ≤ x2_8) (b2_8 : x2_8 ≤ IntKind.max .i64) (x2_9 : Int) (a2_9 : IntKind.min .i64 ≤ x2_9) (b2_9 : x2_9 ≤ IntKind.max .i64) (x2_10 : Int) (a2_10 : IntKind.min .i64 ≤ x2_10) (b2_10 : x2_10 ≤ IntKind.max .i64) (x2_11 : Int) (a2_11 : IntKind.min .i64 ≤ x2_11) (b2_11 : x2_11 ≤ IntKind.max .i64) : lBounds_0 x0_0 x0_1 x0_2 x0_3 x0_4 x0_5 x0_6 x0_7 x0_8 x0_9 x0_10 x0_11 x0_12 x0_13 x0_14 x0_15 x0_16 x0_17 x0_18 x0_19 x0_20 x0_21 x0_22 x0_23 x0_24 x0_25 x0_26 x1_0 x1_1 x1_2 x1_3 x1_4 x1_5 x1_6 x1_7 x1_8 x1_9 x1_10 x1_11 x2_0 x2_1 x2_2 x2_3 x2_4 x2_5 x2_6 x2_7 x2_8 x2_9 x2_10 x2_11 = true := by
  obtain ⟨q, eq, q1, q2, q3⟩ : ∃ q : List (List Int), lBounds_s0 x0_0 x0_1 x0_2 x0_3 x0_4 x0_5 x0_6 x0_7 x0_8 x0_9 x0_10 x0_11 x0_12 x0_13 x0_14 x0_15 x0_16 x0_17 x0_18 x0_19 x0_20 x0_21 x0_22 x0_23 x0_24 x0_25 x0_26 = q.map fixR ∧ q.length ≤ 16 ∧ q.length ≠ 1 ∧ q.length ≠ 2 := by
    unfold lBounds_s0
    rw [clip_eq]
    exact clipG_q _
  obtain ⟨r, er, r1, r2, r3⟩ : ∃ q : List (List Int), lBounds_s9 x1_0 x1_1 x1_2 x1_3 x1_4 x1_5 x1_6 x1_7 x1_8 x1_9 x1_10 x1_11 x2_0 x2_1 x2_2 x2_3 x2_4 x2_5 x2_6 x2_7 x2_8 x2_9 x2_10 x2_11 = q.map fixR ∧ q.length ≤ 16 ∧ q.length ≠ 1 ∧ q.length ≠ 2 := by
    unfold lBounds_s9
    rw [clip_eq]
    exact clipG_q _
  have nq : lBounds_s1 x0_0 x0_1 x0_2 x0_3 x0_4 x0_5 x0_6 x0_7 x0_8 x0_9 x0_10 x0_11 x0_12 x0_13 x0_14 x0_15 x0_16 x0_17 x0_18 x0_19 x0_20 x0_21 x0_22 x0_23 x0_24 x0_25 x0_26 = Int.ofNat q.length := by unfold lBounds_s1; rw [eq, List.length_map]
  have nr : lBounds_s10 x1_0 x1_1 x1_2 x1_3 x1_4 x1_5 x1_6 x1_7 x1_8 x1_9 x1_10 x1_11 x2_0 x2_1 x2_2 x2_3 x2_4 x2_5 x2_6 x2_7 x2_8 x2_9 x2_10 x2_11 = Int.ofNat r.length := by unfold lBounds_s10; rw [er, List.length_map]
  have e2 : lBounds_s2 x0_0 x0_1 x0_2 x0_3 x0_4 x0_5 x0_6 x0_7 x0_8 x0_9 x0_10 x0_11 x0_12 x0_13 x0_14 x0_15 x0_16 x0_17 x0_18 x0_19 x0_20 x0_21 x0_22 x0_23 x0_24 x0_25 x0_26 = false := by
    have := few q1 q2 q3
    rw [List.length_map] at this
    unfold lBounds_s2; rw [nq]; exact this
  have e11 : lBounds_s11 x1_0 x1_1 x1_2 x1_3 x1_4 x1_5 x1_6 x1_7 x1_8 x1_9 x1_10 x1_11 x2_0 x2_1 x2_2 x2_3 x2_4 x2_5 x2_6 x2_7 x2_8 x2_9 x2_10 x2_11 = false := by
    have := few r1 r2 r3
    rw [List.length_map] at this
    unfold lBounds_s11; rw [nr]; exact this
  obtain ⟨w, e4, w1, w2⟩ : ∃ w : lBounds_l62671_T, lBounds_s4 x0_0 x0_1 x0_2 x0_3 x0_4 x0_5 x0_6 x0_7 x0_8 x0_9 x0_10 x0_11 x0_12 x0_13 x0_14 x0_15 x0_16 x0_17 x0_18 x0_19 x0_20 x0_21 x0_22 x0_23 x0_24 x0_25 x0_26 x1_0 x1_1 x1_2 x1_3 x1_4 x1_5 x1_6 x1_7 x1_8 x1_9 x1_10 x1_11 x2_0 x2_1 x2_2 x2_3 x2_4 x2_5 x2_6 x2_7 x2_8 x2_9 x2_10 x2_11 = some (.e 2, w) ∧ w.a1 = Int.ofNat 2 ∧ w.a2 = 0 := by
    unfold lBounds_s4
    refine ⟨_, bd_run (q := q) ?_ ?_ ?_ ?_, ?_, ?_⟩
    · dsimp only; exact eq
    · dsimp only; exact nq
    · omega
    · rfl
    · rfl
    · rfl
  obtain ⟨z, e15, z1, z2⟩ : ∃ w : lBounds_l62671_T, lBounds_s15 x0_0 x0_1 x0_2 x0_3 x0_4 x0_5 x0_6 x0_7 x0_8 x0_9 x0_10 x0_11 x0_12 x0_13 x0_14 x0_15 x0_16 x0_17 x0_18 x0_19 x0_20 x0_21 x0_22 x0_23 x0_24 x0_25 x0_26 x1_0 x1_1 x1_2 x1_3 x1_4 x1_5 x1_6 x1_7 x1_8 x1_9 x1_10 x1_11 x2_0 x2_1 x2_2 x2_3 x2_4 x2_5 x2_6 x2_7 x2_8 x2_9 x2_10 x2_11 = some (.e 2, w) ∧ w.a1 = Int.ofNat 2 ∧ w.a2 = lBounds_s14 := by
    unfold lBounds_s15
    refine ⟨_, bd_run (q := r) ?_ ?_ ?_ ?_, ?_, ?_⟩
    · dsimp only; exact er
    · dsimp only; exact nr
    · omega
    · rfl
    · rfl
    · rfl
  have e6 : lBounds_s6 x0_0 x0_1 x0_2 x0_3 x0_4 x0_5 x0_6 x0_7 x0_8 x0_9 x0_10 x0_11 x0_12 x0_13 x0_14 x0_15 x0_16 x0_17 x0_18 x0_19 x0_20 x0_21 x0_22 x0_23 x0_24 x0_25 x0_26 x1_0 x1_1 x1_2 x1_3 x1_4 x1_5 x1_6 x1_7 x1_8 x1_9 x1_10 x1_11 x2_0 x2_1 x2_2 x2_3 x2_4 x2_5 x2_6 x2_7 x2_8 x2_9 x2_10 x2_11 = false := by
    unfold lBounds_s6 lBounds_s5
    have hx : isX X.r (some (X.e 2, w)) = false := rfl
    rw [e2, e4, hx, Bool.and_false, Bool.or_false]
  have e16 : lBounds_s16 x0_0 x0_1 x0_2 x0_3 x0_4 x0_5 x0_6 x0_7 x0_8 x0_9 x0_10 x0_11 x0_12 x0_13 x0_14 x0_15 x0_16 x0_17 x0_18 x0_19 x0_20 x0_21 x0_22 x0_23 x0_24 x0_25 x0_26 x1_0 x1_1 x1_2 x1_3 x1_4 x1_5 x1_6 x1_7 x1_8 x1_9 x1_10 x1_11 x2_0 x2_1 x2_2 x2_3 x2_4 x2_5 x2_6 x2_7 x2_8 x2_9 x2_10 x2_11 = false := by
    unfold lBounds_s16
    rw [e15]; rfl
  unfold lBounds_0
  rw [aw_true, e6, e11, e16]
  simp only [Bool.not_true, Bool.and_false, Bool.or_false, cond_false]

set_option maxHeartbeats 400000 in
theorem ClipBounds_obs (x0_0 : Int) (a0_0 : IntKind.min .i16 ≤ x0_0) (b0_0 : x0_0 ≤ IntKind.max .i16) (x0_1 : Int) (a0_1 : IntKind.min .i16 ≤ x0_1) (b0_1 : x0_1 ≤ IntKind.max .i16) (x0_2 : Int) (a0_2 : IntKind.min .i16 ≤ x0_2) (b0_2 : x0_2 ≤ IntKind.max .i16) (x0_3 : Int) (a0_3 : IntKind.min .i16 ≤ x0_3) (b0_3 : x0_3 ≤ IntKind.max .i16) (x0_4 : Int) (a0_4 : IntKind.min .u8 ≤ x0_4) (b0_4 : x0_4 ≤ IntKind.max .u8) (x0_5 : Int) (a0_5 : IntKind.min .u8 ≤ x0_5) (b0_5 : x0_5 ≤ IntKind.max .u8) (x0_6 : Int) (a0_6 : IntKind.min .u8 ≤ x0_6) (b0_6 : x0_6 ≤ IntKind.max .u8) (x0_7 : Int) (a0_7 : IntKind.min .u8 ≤ x0_7) (b0_7 : x0_7 ≤ IntKind.max .u8) (x0_8 : Bool) (x0_9 : Int) (a0_9 : IntKind.min .i16 ≤ x0_9) (b0_9 : x0_9 ≤ IntKind.max .i16) (x0_10 : Int) (a0_10 : IntKind.min .i16 ≤ x0_10) (b0_10 : x0_10 ≤ IntKind.max .i16) (x0_11 : Int) (a0_11 : IntKind.min .i16 ≤ x0_11) (b0_11 : x0_11 ≤ IntKind.max .i16) (x0_12 : Int) (a0_12 : IntKind.min .i16 ≤ x0_12) (b0_12 : x0_12 ≤ IntKind.max .i16) (x0_13 : Int) (a0_13 : IntKind.min .u8 ≤ x0_13) (b0_13 : x0_13 ≤ IntKind.max .u8) (x0_14 : Int) (a0_14 : IntKind.min .u8 ≤ x0_14) (b0_14 : x0_14 ≤ IntKind.max .u8) (x0_15 : Int) (a0_15 : IntKind.min .u8 ≤ x0_15) (b0_15 : x0_15 ≤ IntKind.max .u8) (x0_16 : Int) (a0_16 : IntKind.min .u8 ≤ x0_16) (b0_16 : x0_16 ≤ IntKind.max .u8) (x0_17 : Bool) (x0_18 : Int) (a0_18 : IntKind.min .i16 ≤ x0_18) (b0_18 : x0_18 ≤ IntKind.max .i16) (x0_19 : Int) (a0_19 : IntKind.min .i16 ≤ x0_19) (b0_19 : x0_19 ≤ IntKind.max .i16) (x0_20 : Int) (a0_20 : IntKind.min .i16 ≤ x0_20) (b0_20 : x0_20 ≤ IntKind.max .i16) (x0_21 : Int) (a0_21 : IntKind.min .i16 ≤ x0_21) (b0_21 : x0_21 ≤ IntKind.max .i16) (x0_22 : Int) (a0_22 : IntKind.min .u8 ≤ x0_22) (b0_22 : x0_22 ≤ IntKind.max .u8) (x0_23 : Int) (a0_23 : IntKind.min .u8 ≤ x0_23) (b0_23 : x0_23 ≤ IntKind.max .u8) (x0_24 : Int) (a0_24 : IntKind.min .u8 ≤ x0_24) (b0_24 : x0_24 ≤ IntKind.max .u8) (x0_25 : Int) (a0_25 : IntKind.min .u8 ≤ x0_25) (b0_25 : x0_25 ≤ IntKind.max .u8) (x0_26 : Bool) (x1_0 : Int) (a1_0 : IntKind.min .i64 ≤ x1_0) (b1_0 : x1_0 ≤ IntKind.max .i64) (x1_1 : Int) (a1_1 : IntKind.min .i64 ≤ x1_1) (b1_1 : x1_1 ≤ IntKind.max .i64) (x1_2 : Int) (a1_2 : IntKind.min .i64 ≤ x1_2) (b1_2 : x1_2 ≤ IntKind.max .i64) (x1_3 : Int) (a1_3 : IntKind.min .i64 ≤ x1_3) (b1_3 : x1_3 ≤ IntKind.max .i64) (x1_4 : Int) (a1_4 : IntKind.min .i64 ≤ x1_4) (b1_4 : x1_4 ≤ IntKind.max .i64) (x1_5 : Int) (a1_5 : IntKind.min .i64 ≤ x1_5) (b1_5 : x1_5 ≤ IntKind.max .i64) (x1_6 : Int) (a1_6 : IntKind.min .i64 ≤ x1_6) (b1_6 : x1_6 ≤ IntKind.max .i64) (x1_7 : Int) (a1_7 : IntKind.min .i64 ≤ x1_7) (b1_7 : x1_7 ≤ IntKind.max .i64) (x1_8 : Int) (a1_8 : IntKind.min .i64 ≤ x1_8) (b1_8 : x1_8 ≤ IntKind.max .i64) (x1_9 : Int) (a1_9 : IntKind.min .i64 ≤ x1_9) (b1_9 : x1_9 ≤ IntKind.max .i64) (x1_10 : Int) (a1_10 : IntKind.min .i64 ≤ x1_10) (b1_10 : x1_10 ≤ IntKind.max .i64) (x1_11 : Int) (a1_11 : IntKind.min .i64 ≤ x1_11) (b1_11 : x1_11 ≤ IntKind.max .i64) (x2_0 : Int) (a2_0 : IntKind.min .i64 ≤ x2_0) (b2_0 : x2_0 ≤ IntKind.max .i64) (x2_1 : Int) (a2_1 : IntKind.min .i64 ≤ x2_1) (b2_1 : x2_1 ≤ IntKind.max .i64) (x2_2 : Int) (a2_2 : IntKind.min .i64 ≤ x2_2) (b2_2 : x2_2 ≤ IntKind.max .i64) (x2_3 : Int) (a2_3 : IntKind.min .i64 ≤ x2_3) (b2_3 : x2_3 ≤ IntKind.max .i64) (x2_4 : Int) (a2_4 : IntKind.min .i64 ≤ x2_4) (b2_4 : x2_4 ≤ IntKind.max .i64) (x2_5 : Int) (a2_5 : IntKind.min .i64 ≤ x2_5) (b2_5 : x2_5 ≤ IntKind.max .i64) (x2_6 : Int) (a2_6 : IntKind.min .i64 ≤ x2_6) (b2_6 : x2_6 ≤ IntKind.max .i64) (x2_7 : Int) (a2_7 : IntKind.min .i64 ≤ x2_7) (b2_7 : x2_7 ≤ IntKind.max .i64) (x2_8 : Int) (a2_8 : IntKind.min .i64 ≤ x2_8) (b2_8 : x2_8 ≤ IntKind.max .i64) (x2_9 : Int) (a2_9 : IntKind.min .i64 ≤ x2_9) (b2_9 : x2_9 ≤ IntKind.max .i64) (x2_10 : Int) (a2_10 : IntKind.min .i64 ≤ x2_10) (b2_10 : x2_10 ≤ IntKind.max .i64) (x2_11 : Int) (a2_11 : IntKind.min .i64 ≤ x2_11) (b2_11 : x2_11 ≤ IntKind.max .i64) : Alls (lBounds_o x0_0 x0_1 x0_2 x0_3 x0_4 x0_5 x0_6 x0_7 x0_8 x0_9 x0_10 x0_11 x0_12 x0_13 x0_14 x0_15 x0_16 x0_17 x0_18 x0_19 x0_20 x0_21 x0_22 x0_23 x0_24 x0_25 x0_26 x1_0 x1_1 x1_2 x1_3 x1_4 x1_5 x1_6 x1_7 x1_8 x1_9 x1_10 x1_11 x2_0 x2_1 x2_2 x2_3 x2_4 x2_5 x2_6 x2_7 x2_8 x2_9 x2_10 x2_11) := by
  obtain ⟨q, eq, q1, q2, q3⟩ : ∃ q : List (List Int), lBounds_s0 x0_0 x0_1 x0_2 x0_3 x0_4 x0_5 x0_6 x0_7 x0_8 x0_9 x0_10 x0_11 x0_12 x0_13 x0_14 x0_15 x0_16 x0_17 x0_18 x0_19 x0_20 x0_21 x0_22 x0_23 x0_24 x0_25 x0_26 = q.map fixR ∧ q.length ≤ 16 ∧ q.length ≠ 1 ∧ q.length ≠ 2 := by
    unfold lBounds_s0
    rw [clip_eq]
    exact clipG_q _
  obtain ⟨r, er, r1, r2, r3⟩ : ∃ q : List (List Int), lBounds_s9 x1_0 x1_1 x1_2 x1_3 x1_4 x1_5 x1_6 x1_7 x1_8 x1_9 x1_10 x1_11 x2_0 x2_1 x2_2 x2_3 x2_4 x2_5 x2_6 x2_7 x2_8 x2_9 x2_10 x2_11 = q.map fixR ∧ q.length ≤ 16 ∧ q.length ≠ 1 ∧ q.length ≠ 2 := by
    unfold lBounds_s9
    rw [clip_eq]
    exact clipG_q _
  have nq : lBounds_s1 x0_0 x0_1 x0_2 x0_3 x0_4 x0_5 x0_6 x0_7 x0_8 x0_9 x0_10 x0_11 x0_12 x0_13 x0_14 x0_15 x0_16 x0_17 x0_18 x0_19 x0_20 x0_21 x0_22 x0_23 x0_24 x0_25 x0_26 = Int.ofNat q.length := by unfold lBounds_s1; rw [eq, List.length_map]
  have nr : lBounds_s10 x1_0 x1_1 x1_2 x1_3 x1_4 x1_5 x1_6 x1_7 x1_8 x1_9 x1_10 x1_11 x2_0 x2_1 x2_2 x2_3 x2_4 x2_5 x2_6 x2_7 x2_8 x2_9 x2_10 x2_11 = Int.ofNat r.length := by unfold lBounds_s10; rw [er, List.length_map]
  have e2 : lBounds_s2 x0_0 x0_1 x0_2 x0_3 x0_4 x0_5 x0_6 x0_7 x0_8 x0_9 x0_10 x0_11 x0_12 x0_13 x0_14 x0_15 x0_16 x0_17 x0_18 x0_19 x0_20 x0_21 x0_22 x0_23 x0_24 x0_25 x0_26 = false := by
    have := few q1 q2 q3
    rw [List.length_map] at this
    unfold lBounds_s2; rw [nq]; exact this
  have e11 : lBounds_s11 x1_0 x1_1 x1_2 x1_3 x1_4 x1_5 x1_6 x1_7 x1_8 x1_9 x1_10 x1_11 x2_0 x2_1 x2_2 x2_3 x2_4 x2_5 x2_6 x2_7 x2_8 x2_9 x2_10 x2_11 = false := by
    have := few r1 r2 r3
    rw [List.length_map] at this
    unfold lBounds_s11; rw [nr]; exact this
  obtain ⟨w, e4, w1, w2⟩ : ∃ w : lBounds_l62671_T, lBounds_s4 x0_0 x0_1 x0_2 x0_3 x0_4 x0_5 x0_6 x0_7 x0_8 x0_9 x0_10 x0_11 x0_12 x0_13 x0_14 x0_15 x0_16 x0_17 x0_18 x0_19 x0_20 x0_21 x0_22 x0_23 x0_24 x0_25 x0_26 x1_0 x1_1 x1_2 x1_3 x1_4 x1_5 x1_6 x1_7 x1_8 x1_9 x1_10 x1_11 x2_0 x2_1 x2_2 x2_3 x2_4 x2_5 x2_6 x2_7 x2_8 x2_9 x2_10 x2_11 = some (.e 2, w) ∧ w.a1 = Int.ofNat 2 ∧ w.a2 = 0 := by
    unfold lBounds_s4
    refine ⟨_, bd_run (q := q) ?_ ?_ ?_ ?_, ?_, ?_⟩
    · dsimp only; exact eq
    · dsimp only; exact nq
    · omega
    · rfl
    · rfl
    · rfl
  obtain ⟨z, e15, z1, z2⟩ : ∃ w : lBounds_l62671_T, lBounds_s15 x0_0 x0_1 x0_2 x0_3 x0_4 x0_5 x0_6 x0_7 x0_8 x0_9 x0_10 x0_11 x0_12 x0_13 x0_14 x0_15 x0_16 x0_17 x0_18 x0_19 x0_20 x0_21 x0_22 x0_23 x0_24 x0_25 x0_26 x1_0 x1_1 x1_2 x1_3 x1_4 x1_5 x1_6 x1_7 x1_8 x1_9 x1_10 x1_11 x2_0 x2_1 x2_2 x2_3 x2_4 x2_5 x2_6 x2_7 x2_8 x2_9 x2_10 x2_11 = some (.e 2, w) ∧ w.a1 = Int.ofNat 2 ∧ w.a2 = lBounds_s14 := by
    unfold lBounds_s15
    refine ⟨_, bd_run (q := r) ?_ ?_ ?_ ?_, ?_, ?_⟩
    · dsimp only; exact er
    · dsimp only; exact nr
    · omega
    · rfl
    · rfl
    · rfl
  obtain ⟨h1, h2, h3, h4, h5, h6, h7, h8, h9, _⟩ := aw_obs
  unfold lBounds_o
  refine ⟨h1, h2, h3, h4, h5, h6, h7, h8, h9, ?_⟩
  refine ⟨fun _ => by_lok _ (Nat.le_trans (c6_len ..) (by omega)), fun _ => by_lok _ (Nat.le_trans (c7_len ..) (by omega)), fun _ => by_lok _ (Nat.le_trans (c8_len ..) (by omega)), fun _ => by_lok _ (Nat.le_trans (c9_len ..) (by omega)), fun _ => by_lok _ (Nat.le_trans (c10_len ..) (by omega)), fun _ => by_lok _ (Nat.le_trans (c11_len ..) (by omega)), fun _ => by_lok _ (Nat.le_trans (c12_len ..) (by omega)), fun _ _ => fx_lok (Nat.le_trans (c13_len ..) (by omega)), ?_⟩
  refine ⟨fun _ _ => by
    refine bd_lok (q := q) ?_ ?_ ?_ ?_
    · dsimp only; exact eq
    · dsimp only; exact nq
    · omega
    · rfl, fun _ _ _ => by rw [e4]; exact w1, fun _ _ _ => by rw [e4]; exact w2, fun _ _ _ => by rw [e4]; exact w1, fun _ _ _ => by rw [e4]; exact w2, ?_⟩
  refine ⟨fun _ _ => by_lok _ (Nat.le_trans (c6_len ..) (by omega)), fun _ _ => by_lok _ (Nat.le_trans (c7_len ..) (by omega)), fun _ _ => by_lok _ (Nat.le_trans (c8_len ..) (by omega)), fun _ _ => by_lok _ (Nat.le_trans (c9_len ..) (by omega)), fun _ _ => by_lok _ (Nat.le_trans (c10_len ..) (by omega)), fun _ _ => by_lok _ (Nat.le_trans (c11_len ..) (by omega)), fun _ _ => by_lok _ (Nat.le_trans (c12_len ..) (by omega)), fun _ _ _ => fx_lok (Nat.le_trans (c13_len ..) (by omega)), ?_⟩
  exact ⟨fun _ _ _ => by
    refine bd_lok (q := r) ?_ ?_ ?_ ?_
    · dsimp only; exact er
    · dsimp only; exact nr
    · omega
    · rfl, fun _ _ _ _ => by rw [e15]; exact z1, fun _ _ _ _ => by rw [e15]; exact z2, fun _ _ _ _ => by rw [e15]; exact z1, fun _ _ _ _ => by rw [e15]; exact z2, trivial⟩

end Go.Proofs.Ytbdmaepooahplaa
