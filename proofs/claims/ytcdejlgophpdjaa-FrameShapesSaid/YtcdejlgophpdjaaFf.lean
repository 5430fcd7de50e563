/-
  New pictures.
-/
import Derived.Test.YtcdejlgophpdjaaFe
namespace Go.Proofs.Ytcdejlgophpdjaa
open Go Go.RowKit Go.Proofs.Ytcdejlgophpdjaa.V
set_option linter.unusedVariables false
set_option linter.unusedSectionVars false

/-- Between 1 and 64. -/
def cl (x : Int) : Nat := (if 64 < (if x < 1 then 1 else x) then 64 else (if x < 1 then 1 else x)).toNat
theorem cl_1 (x : Int) : 1 ≤ cl x := by
  unfold cl; split <;> split at * <;> omega
theorem cl_64 (x : Int) : cl x ≤ 64 := by
  unfold cl; split <;> split at * <;> omega
theorem n_s2 (x : Int) : fNew_s2 x = (cl x : Int) := by
  unfold fNew_s2 fNew_s0 cl; split <;> split at * <;> omega
theorem n_s5 (x : Int) : fNew_s5 x = (cl x : Int) := by
  unfold fNew_s5 fNew_s3 cl; split <;> split at * <;> omega
theorem cl_N (x y : Int) : 1 ≤ cl x * cl y ∧ cl x * cl y ≤ 4096 :=
  ⟨Nat.mul_pos (cl_1 x) (cl_1 y), Nat.mul_le_mul (cl_64 x) (cl_64 y)⟩
theorem n_s6 (x y : Int) : fNew_s6 x y = ((cl x * cl y : Nat) : Int) := by
  have := cl_N x y
  unfold fNew_s6
  rw [n_s2, n_s5, ← Int.natCast_mul, w64_in (by omega) (by omega)]
theorem new_eq (x y p0 p1 p2 p3 p4 p5 : Int) : fNew_0 x y p0 p1 p2 p3 p4 p5 = List.replicate (cl x * cl y) [p0, p1, p2, p3, p4, p5] := by
  unfold fNew_0
  rw [n_s6]
  exact rep_eq (cl_N x y).1 (cl_N x y).2

theorem chk_sz {w h : Nat} (w1 : 1 ≤ w) (w2 : w ≤ 64) (h1 : 1 ≤ h) (h2 : h ≤ 64) {l : List (List Int)} (hl : l.length = w * h) : fChk_s0 (w : Int) (h : Int) l = false := by
  have h3 : w * h ≤ 64 * 64 := Nat.mul_le_mul w2 h2
  unfold fChk_s0
  rw [decide_eq_false (show ¬ (w : Int) < 1 by omega), decide_eq_false (show ¬ 64 < (w : Int) by omega), decide_eq_false (show ¬ (h : Int) < 1 by omega), decide_eq_false (show ¬ 64 < (h : Int) by omega), ← Int.natCast_mul, w64_in (by omega) (by omega), hl]
  simp

theorem rget_rep {N i : Nat} (h : i < N) (p : List Int) (j : Nat) : rget (List.replicate N p) i j = p.getD j 0 := by
  unfold rget
  rw [List.getD_eq_getElem?_getD (l := List.replicate N p), List.getElem?_replicate, if_pos h]; rfl
theorem rset_len (l : List (List Int)) (i j : Nat) (v : List Int) : (rset l i j v).length = l.length := by
  unfold rset; simp
theorem rget_set_ne {l : List (List Int)} {i k j : Nat} (v : List Int) (j' : Nat) (h : i ≠ k) : rget (rset l k j' v) i j = rget l i j := by
  unfold rget rset
  have e : (l.set k (wr (l.getD k []) j' v)).getD i [] = l.getD i [] := by
    simp only [List.getD_eq_getElem?_getD, List.getElem?_set_ne (Ne.symm h)]
  rw [e]
theorem rget_set_eq {l : List (List Int)} {k : Nat} (v : List Int) (j j' : Nat) (h : k < l.length) : rget (rset l k j' v) k j = (wr (l.getD k []) j' v).getD j 0 := by
  unfold rget rset
  rw [List.getD_eq_getElem?_getD (l := List.set _ _ _), List.getElem?_set_self h]; rfl

/-- The chapter's example. -/
theorem aw_l : fAwake_s0 = [[0, 0, 0, 0, 0, 0], [0, 0, 0, 0, 0, 0]] := by
  unfold fAwake_s0
  rw [new_eq, show cl 2 * cl 1 = 2 by decide]; rfl
theorem aw_w : fNew_s2 2 = ((2 : Nat) : Int) := by decide
theorem aw_h : fNew_s5 1 = ((1 : Nat) : Int) := by decide
theorem aw_c : fChk_0 (fNew_s2 2) (fNew_s5 1) fAwake_s0 = 0 := by
  rw [aw_w, aw_h]
  refine c_good (by rw [aw_l]; decide) (chk_sz (by omega) (by omega) (by omega) (by omega) (by rw [aw_l]; rfl)) fun i hi => ?_
  rw [aw_l] at hi ⊢
  have hi' : i < 2 := hi
  match i, hi' with
  | 0, _ => exact ⟨by decide, by decide⟩
  | 1, _ => exact ⟨by decide, by decide⟩
theorem aw_text : fText_0 (fNew_s2 2) (fNew_s5 1) fAwake_s0 = ⟨⟨[32, 32, 10]⟩⟩ := by
  have hc := aw_c
  rw [aw_w, aw_h] at hc ⊢
  rw [text_eq (by omega) (by omega) hc, aw_l]
  decide +kernel
theorem awake : fAwake_0 = true := by
  unfold fAwake_0 fAwake_s1
  rw [aw_text, aw_c]
  simp
theorem aw_obs : Alls fAwake_o := by
  have h := rep_obs (p0 := 0) (p1 := 0) (p2 := 0) (p3 := 0) (p4 := 0) (p5 := 0) (N := 2) (by omega) (by omega) false
  have e6 : fNew_s6 2 1 = ((2 : Nat) : Int) := by decide +kernel
  have e2 : List.length (sRep_s2 ((2 : Nat) : Int)) = 2 := by decide +kernel
  have e3 : sRep_s3 ((2 : Nat) : Int) 0 0 0 0 0 0 = 1 := by decide +kernel
  unfold sRep_o at h
  rw [e2, e3] at h
  obtain ⟨o1, o2, o3, o4, _⟩ := h
  have hL : fAwake_s0.length = 2 := by rw [aw_l]; rfl
  have k := c_lok (l := fAwake_s0) (by omega)
  rw [hL] at k
  unfold fAwake_o fAwake_s2 fAwake_s3 fAwake_s4
  rw [e6, e3]
  refine ⟨o1, o2, o3, o4, fun _ => k, fun _ => ?_, fun _ _ => k, trivial⟩
  rw [aw_w, aw_h]
  refine text_lok (by omega) (by omega) (by rw [hL]) fun a j hj => ?_
  rw [aw_l]
  match a with
  | 0 => match j, hj with
    | 0, _ => decide
    | 1, _ => decide
    | 2, _ => decide
  | 1 => match j, hj with
    | 0, _ => decide
    | 1, _ => decide
    | 2, _ => decide
  | a + 2 => exact (show (0 : Int) ≤ 0 ∧ (0 : Int) ≤ 255 by decide)

section
variable {x0 x1 x2_0 x2_1 x2_2 x2_3 x2_4 x2_5 x3 x4 : Int}

local notation "Pxl" => [x2_0, x2_1, x2_2, x2_3, IntKind.wrap IntKind.i64 x2_4, x2_5]
local notation "LL" => List.replicate (cl x0 * cl x1) [x2_0, x2_1, x2_2, x2_3, IntKind.wrap IntKind.i64 x2_4, x2_5]

theorem f_s1 : lFrNew_s1 x0 = (cl x0 : Int) := n_s2 x0
theorem f_s3 : lFrNew_s3 x1 = (cl x1 : Int) := n_s5 x1
theorem f_s4 : lFrNew_s4 x0 x1 x2_0 x2_1 x2_2 x2_3 x2_4 x2_5 = cl x0 * cl x1 := by
  unfold lFrNew_s4
  rw [new_eq, List.length_replicate]
theorem f_s8 : lFrNew_s8 x0 x1 x2_0 x2_1 x2_2 x2_3 x2_4 x2_5 = LL := by
  unfold lFrNew_s8 sClone_s0
  rw [new_eq, List.nil_append]
theorem f_s9 : lFrNew_s9 x0 x1 x2_0 x2_1 x2_2 x2_3 x2_4 x2_5 = cl x0 * cl x1 := by
  unfold lFrNew_s9
  rw [f_s8, List.length_replicate]
theorem f_s5 : lFrNew_s5 x0 x1 x2_0 x2_1 x2_2 x2_3 x2_4 x2_5 = false := by
  have := cl_N x0 x1
  unfold lFrNew_s5
  rw [f_s4, f_s1, f_s3, ← Int.natCast_mul, w64_in (by omega) (by omega)]
  simp
theorem f_sz : fChk_s0 (cl x0 : Int) (cl x1 : Int) LL = false := chk_sz (cl_1 _) (cl_64 _) (cl_1 _) (cl_64 _) (by rw [List.length_replicate])

def nS (x0 x1 x2_0 x2_1 x2_2 x2_3 x2_4 x2_5 x3 x4 : Int) (i : Nat) : lFrNew_l253_T := .mk x3 x4 false ((cl x0 * cl x1 : Nat) : Int) (i : Int) x2_0 x2_1 x2_2 x2_3 x2_4 x2_5 (cl x0) (cl x1) (List.replicate (cl x0 * cl x1) [x2_0, x2_1, x2_2, x2_3, IntKind.wrap IntKind.i64 x2_4, x2_5])
theorem nS_0 (i : Nat) : lFrNew_l253_s0 (nS x0 x1 x2_0 x2_1 x2_2 x2_3 x2_4 x2_5 x3 x4 i) = decide (i < cl x0 * cl x1) := by
  unfold lFrNew_l253_s0
  exact decide_eq_decide.2 Int.ofNat_lt
theorem nS_step (i : Nat) (hi : i < cl x0 * cl x1) : pick1 (lFrNew_l253_st (nS x0 x1 x2_0 x2_1 x2_2 x2_3 x2_4 x2_5 x3 x4 i)).2 = some (.n, nS x0 x1 x2_0 x2_1 x2_2 x2_3 x2_4 x2_5 x3 x4 (i + 1)) := by
  have := cl_N x0 x1
  have e : IntKind.wrap .i64 ((nS x0 x1 x2_0 x2_1 x2_2 x2_3 x2_4 x2_5 x3 x4 i).a4 + 1) = ((i + 1 : Nat) : Int) := by
    show IntKind.wrap .i64 ((i : Int) + 1) = _
    rw [w64_in (by omega) (by omega)]; omega
  have g : ∀ j, rget (nS x0 x1 x2_0 x2_1 x2_2 x2_3 x2_4 x2_5 x3 x4 i).a13 (nS x0 x1 x2_0 x2_1 x2_2 x2_3 x2_4 x2_5 x3 x4 i).a4.toNat j = (Pxl).getD j 0 := fun j => rget_rep hi _ j
  have e1 : lFrNew_l253_s1 (nS x0 x1 x2_0 x2_1 x2_2 x2_3 x2_4 x2_5 x3 x4 i) = false := by
    unfold lFrNew_l253_s1
    rw [g, g, g, g, g, g]
    simp [nS]
  unfold lFrNew_l253_st
  rw [nS_0, decide_eq_true hi, e1, e]; rfl
theorem nS_end : pick1 (lFrNew_l253_st (nS x0 x1 x2_0 x2_1 x2_2 x2_3 x2_4 x2_5 x3 x4 (cl x0 * cl x1))).2 = some (.e 0, nS x0 x1 x2_0 x2_1 x2_2 x2_3 x2_4 x2_5 x3 x4 (cl x0 * cl x1)) := by
  unfold lFrNew_l253_st
  rw [nS_0, decide_eq_false (Nat.lt_irrefl _)]; rfl
theorem nS_obs (i : Nat) : Alls (lFrNew_l253_st (nS x0 x1 x2_0 x2_1 x2_2 x2_3 x2_4 x2_5 x3 x4 i)).1 := by
  unfold lFrNew_l253_st
  rw [nS_0]
  refine ⟨fun h => ⟨Int.natCast_nonneg i, ?_⟩, trivial⟩
  show (i : Int) < Int.ofNat (List.length LL)
  rw [List.length_replicate]
  exact Int.ofNat_lt.2 (of_decide_eq_true h)
theorem f_start : lFrNew_l253_T.mk x3 x4 false (Int.ofNat (lFrNew_s4 x0 x1 x2_0 x2_1 x2_2 x2_3 x2_4 x2_5)) 0 x2_0 x2_1 x2_2 x2_3 x2_4 x2_5 (fNew_s2 x0) (fNew_s5 x1) (fNew_0 x0 x1 x2_0 x2_1 x2_2 x2_3 (IntKind.wrap IntKind.i64 x2_4) x2_5) = nS x0 x1 x2_0 x2_1 x2_2 x2_3 x2_4 x2_5 x3 x4 0 := by
  rw [f_s4, new_eq, n_s2, n_s5]; rfl
theorem f_s7 : lFrNew_s7 x0 x1 x2_0 x2_1 x2_2 x2_3 x2_4 x2_5 x3 x4 = some (.e 0, nS x0 x1 x2_0 x2_1 x2_2 x2_3 x2_4 x2_5 x3 x4 (cl x0 * cl x1)) := by
  have := cl_N x0 x1
  unfold lFrNew_s7
  rw [f_start]
  exact lx_run (s := nS x0 x1 x2_0 x2_1 x2_2 x2_3 x2_4 x2_5 x3 x4) nS_step nS_end nofun (by omega)
theorem f_lok : lok lFrNew_l253_st 18446744073709551616 (nS x0 x1 x2_0 x2_1 x2_2 x2_3 x2_4 x2_5 x3 x4 0) := by
  have := cl_N x0 x1
  exact lx_lok (s := nS x0 x1 x2_0 x2_1 x2_2 x2_3 x2_4 x2_5 x3 x4) nS_step nS_end nofun (fun i _ => nS_obs i) (by omega)
theorem f_s11 : lFrNew_s11 x0 x1 x2_0 x2_1 x2_2 x2_3 x2_4 x2_5 x3 x4 = x3 := by
  unfold lFrNew_s11
  rw [f_s7]; rfl

variable (d0 : 0 ≤ x2_4) (d1 : x2_4 ≤ 65535) (e0 : 0 ≤ x4) (e1 : x4 ≤ 255)
include e0 e1 in
theorem f_s10 : ∃ k : Nat, k < cl x0 * cl x1 ∧ lFrNew_s10 x0 x1 x2_0 x2_1 x2_2 x2_3 x2_4 x2_5 x3 x4 = (k : Int) := by
  have h := cl_N x0 x1
  have a1 : (V.valOf (lFrNew_s7 x0 x1 x2_0 x2_1 x2_2 x2_3 x2_4 x2_5 x3 x4)).a1 = x4 := by rw [f_s7]; rfl
  unfold lFrNew_s10
  rw [a1, f_s9, w64_in (by omega) (by omega), Int.tmod_eq_emod_of_nonneg e0]
  refine ⟨(x4 % ((cl x0 * cl x1 : Nat) : Int)).toNat, ?_, ?_⟩
  · have := Int.emod_lt_of_pos x4 (b := ((cl x0 * cl x1 : Nat) : Int)) (by omega)
    have := Int.emod_nonneg x4 (b := ((cl x0 * cl x1 : Nat) : Int)) (by omega)
    omega
  · have := Int.emod_nonneg x4 (b := ((cl x0 * cl x1 : Nat) : Int)) (by omega)
    exact (Int.toNat_of_nonneg this).symm
include d0 d1 in
theorem f_dep (i : Nat) (hi : i < cl x0 * cl x1) : dOK LL i := by
  unfold dOK
  rw [rget_rep hi]
  show 0 ≤ IntKind.wrap IntKind.i64 x2_4 ∧ IntKind.wrap IntKind.i64 x2_4 ≤ 65535
  rw [w64_in (by omega) (by omega)]
  exact ⟨d0, d1⟩
include d0 d1 in
theorem f_good : fChk_0 (cl x0 : Int) (cl x1 : Int) LL = 0 :=
  c_good (by rw [List.length_replicate]; exact (cl_N x0 x1).2) f_sz fun i hi => f_dep d0 d1 i (by rw [List.length_replicate] at hi; exact hi)
include d0 d1 in
theorem f_s6 : lFrNew_s6 x0 x1 x2_0 x2_1 x2_2 x2_3 x2_4 x2_5 = false := by
  unfold lFrNew_s6
  rw [n_s2, n_s5, f_s1, f_s3, f_s5, new_eq, f_good d0 d1]
  simp
theorem f_len12 : (lFrNew_s12 x0 x1 x2_0 x2_1 x2_2 x2_3 x2_4 x2_5 x3 x4).length = cl x0 * cl x1 := by
  unfold lFrNew_s12
  rw [rset_len, f_s8, List.length_replicate]
include d0 d1 e0 e1 in
theorem f_chk : fChk_0 (cl x0 : Int) (cl x1 : Int) (lFrNew_s12 x0 x1 x2_0 x2_1 x2_2 x2_3 x2_4 x2_5 x3 x4) = if 0 ≤ x3 ∧ x3 ≤ 65535 then 0 else 2 := by
  have h := cl_N x0 x1
  have hz : fChk_s0 (cl x0 : Int) (cl x1 : Int) (lFrNew_s12 x0 x1 x2_0 x2_1 x2_2 x2_3 x2_4 x2_5 x3 x4) = false := chk_sz (cl_1 _) (cl_64 _) (cl_1 _) (cl_64 _) f_len12
  obtain ⟨k, hk, e⟩ := f_s10 (x0 := x0) (x1 := x1) (x2_0 := x2_0) (x2_1 := x2_1) (x2_2 := x2_2) (x2_3 := x2_3) (x2_4 := x2_4) (x2_5 := x2_5) (x3 := x3) e0 e1
  have e12 : lFrNew_s12 x0 x1 x2_0 x2_1 x2_2 x2_3 x2_4 x2_5 x3 x4 = rset LL k 4 [x3] := by
    unfold lFrNew_s12
    rw [e, f_s8, f_s11]; rfl
  have hL : (rset LL k 4 [x3]).length = cl x0 * cl x1 := by rw [rset_len, List.length_replicate]
  rw [e12] at hz ⊢
  have hne : ∀ i, i < cl x0 * cl x1 → i ≠ k → dOK (rset LL k 4 [x3]) i := fun i hi hik => by
    unfold dOK
    rw [rget_set_ne _ _ hik]
    exact f_dep d0 d1 i hi
  have hke : rget (rset LL k 4 [x3]) k 4 = x3 := by
    rw [rget_set_eq _ _ _ (by rw [List.length_replicate]; exact hk), List.getD_eq_getElem?_getD (l := LL), List.getElem?_replicate, if_pos hk]
    rfl
  by_cases hx : 0 ≤ x3 ∧ x3 ≤ 65535
  · rw [if_pos hx]
    refine c_good (by omega) hz fun i hi => ?_
    by_cases hik : i = k
    · subst hik; unfold dOK; rw [hke]; exact hx
    · exact hne i (by omega) hik
  · rw [if_neg hx]
    refine c_two (by omega) hz (m := k) (by omega) (fun i hi => hne i (by omega) (by omega)) ?_
    unfold dOK; rw [hke]; exact hx
theorem f_s14 : lFrNew_s14 x0 x1 x2_0 x2_1 x2_2 x2_3 x2_4 x2_5 x3 x4 = if 0 ≤ x3 ∧ x3 ≤ 65535 then 0 else 2 := by
  unfold lFrNew_s14
  rw [f_s11]
  by_cases h0 : x3 < 0
  · rw [decide_eq_true h0, if_neg (by omega)]; rfl
  · by_cases h1 : 65535 < x3
    · rw [decide_eq_false h0, decide_eq_true h1, if_neg (by omega)]; rfl
    · rw [decide_eq_false h0, decide_eq_false h1, if_pos (by omega)]; rfl
theorem f_short : fChkS_s0 (cl x0 : Int) (cl x1 : Int) (lFrNew_s16 x0 x1 x2_0 x2_1 x2_2 x2_3 x2_4 x2_5) = true := by
  have h := cl_N x0 x1
  have a := cl_1 x0
  have b := cl_64 x0
  have c := cl_1 x1
  have d := cl_64 x1
  unfold fChkS_s0 lFrNew_s16
  rw [f_s9, decide_eq_false (show ¬ (cl x0 : Int) < 1 by omega), decide_eq_false (show ¬ 64 < (cl x0 : Int) by omega), decide_eq_false (show ¬ (cl x1 : Int) < 1 by omega), decide_eq_false (show ¬ 64 < (cl x1 : Int) by omega), ← Int.natCast_mul, w64_in (by omega) (by omega)]
  have : Int.ofNat (Int.toNat (Int.ofNat (cl x0 * cl x1)) - Int.toNat 1) ≠ ((cl x0 * cl x1 : Nat) : Int) := by
    have z1 : Int.toNat (Int.ofNat (cl x0 * cl x1)) = cl x0 * cl x1 := rfl
    have z2 : Int.toNat 1 = 1 := rfl
    have z3 : Int.ofNat (cl x0 * cl x1 - 1) = ((cl x0 * cl x1 - 1 : Nat) : Int) := rfl
    rw [z1, z2, z3]; omega
  simpa using this
theorem f_wide (l : List (List Int)) : fChk_s0 65 (cl x1 : Int) l = true := rfl
theorem f_s17 : lFrNew_s17 x0 x1 x2_0 x2_1 x2_2 x2_3 x2_4 x2_5 = true := by
  unfold lFrNew_s17 fChkS_0
  rw [n_s2, n_s5, f_short]; rfl
theorem f_s18 : lFrNew_s18 x0 x1 x2_0 x2_1 x2_2 x2_3 x2_4 x2_5 = true := by
  unfold lFrNew_s18
  rw [n_s5, c_six (f_wide _)]; rfl
theorem f_s19 : lFrNew_s19 x0 x1 x2_0 x2_1 x2_2 x2_3 x2_4 x2_5 = true := by
  unfold lFrNew_s19
  rw [n_s5, text_no (by rw [c_six (f_wide _)]; decide)]; simp
end

theorem FrameNew_true (x0 : Int) (a0 : IntKind.min .i64 ≤ x0) (b0 : x0 ≤ IntKind.max .i64) (x1 : Int) (a1 : IntKind.min .i64 ≤ x1) (b1 : x1 ≤ IntKind.max .i64) (x2_0 : Int) (a2_0 : IntKind.min .u8 ≤ x2_0) (b2_0 : x2_0 ≤ IntKind.max .u8) (x2_1 : Int) (a2_1 : IntKind.min .u8 ≤ x2_1) (b2_1 : x2_1 ≤ IntKind.max .u8) (x2_2 : Int) (a2_2 : IntKind.min .u8 ≤ x2_2) (b2_2 : x2_2 ≤ IntKind.max .u8) (x2_3 : Int) (a2_3 : IntKind.min .u8 ≤ x2_3) (b2_3 : x2_3 ≤ IntKind.max .u8) (x2_4 : Int) (a2_4 : IntKind.min .u16 ≤ x2_4) (b2_4 : x2_4 ≤ IntKind.max .u16) (x2_5 : Int) (a2_5 : IntKind.min .u8 ≤ x2_5) (b2_5 : x2_5 ≤ IntKind.max .u8) (x3 : Int) (a3 : IntKind.min .i64 ≤ x3) (b3 : x3 ≤ IntKind.max .i64) (x4 : Int) (a4 : IntKind.min .u8 ≤ x4) (b4 : x4 ≤ IntKind.max .u8) : lFrNew_0 x0 x1 x2_0 x2_1 x2_2 x2_3 x2_4 x2_5 x3 x4 = true := by
  obtain ⟨l0, g0⟩ := bd_i64 a0 b0
  have w0 : IntKind.wrap .i64 x0 = x0 := w64_in (by omega) (by omega)
  obtain ⟨l1, g1⟩ := bd_i64 a1 b1
  have w1 : IntKind.wrap .i64 x1 = x1 := w64_in (by omega) (by omega)
  obtain ⟨l2_0, g2_0⟩ := bd_u8 a2_0 b2_0
  have w2_0 : IntKind.wrap .i64 x2_0 = x2_0 := w64_in (by omega) (by omega)
  obtain ⟨l2_1, g2_1⟩ := bd_u8 a2_1 b2_1
  have w2_1 : IntKind.wrap .i64 x2_1 = x2_1 := w64_in (by omega) (by omega)
  obtain ⟨l2_2, g2_2⟩ := bd_u8 a2_2 b2_2
  have w2_2 : IntKind.wrap .i64 x2_2 = x2_2 := w64_in (by omega) (by omega)
  obtain ⟨l2_3, g2_3⟩ := bd_u8 a2_3 b2_3
  have w2_3 : IntKind.wrap .i64 x2_3 = x2_3 := w64_in (by omega) (by omega)
  obtain ⟨l2_4, g2_4⟩ := bd_u16 a2_4 b2_4
  have w2_4 : IntKind.wrap .i64 x2_4 = x2_4 := w64_in (by omega) (by omega)
  obtain ⟨l2_5, g2_5⟩ := bd_u8 a2_5 b2_5
  have w2_5 : IntKind.wrap .i64 x2_5 = x2_5 := w64_in (by omega) (by omega)
  obtain ⟨l3, g3⟩ := bd_i64 a3 b3
  have w3 : IntKind.wrap .i64 x3 = x3 := w64_in (by omega) (by omega)
  obtain ⟨l4, g4⟩ := bd_u8 a4 b4
  have w4 : IntKind.wrap .i64 x4 = x4 := w64_in (by omega) (by omega)
  unfold lFrNew_0
  rw [awake, f_s6 l2_4 g2_4, f_s7]
  have h := f_chk (x0 := x0) (x1 := x1) (x2_0 := x2_0) (x2_1 := x2_1) (x2_2 := x2_2) (x2_3 := x2_3) (x2_5 := x2_5) (x3 := x3) l2_4 g2_4 l4 g4
  have h15 : lFrNew_s15 x0 x1 x2_0 x2_1 x2_2 x2_3 x2_4 x2_5 x3 x4 = true := by
    unfold lFrNew_s15
    rw [n_s2, n_s5, h, f_s14]; simp
  rw [h15, f_s17, f_s18, f_s19]
  unfold lFrNew_s20
  rw [f_s14, n_s2, n_s5]
  by_cases hx : 0 ≤ x3 ∧ x3 ≤ 65535
  · rw [if_pos hx]; rfl
  · rw [if_neg hx] at h ⊢
    rw [text_no (by rw [h]; decide)]
    simp [isX, xeq]

theorem FrameNew_obs (x0 : Int) (a0 : IntKind.min .i64 ≤ x0) (b0 : x0 ≤ IntKind.max .i64) (x1 : Int) (a1 : IntKind.min .i64 ≤ x1) (b1 : x1 ≤ IntKind.max .i64) (x2_0 : Int) (a2_0 : IntKind.min .u8 ≤ x2_0) (b2_0 : x2_0 ≤ IntKind.max .u8) (x2_1 : Int) (a2_1 : IntKind.min .u8 ≤ x2_1) (b2_1 : x2_1 ≤ IntKind.max .u8) (x2_2 : Int) (a2_2 : IntKind.min .u8 ≤ x2_2) (b2_2 : x2_2 ≤ IntKind.max .u8) (x2_3 : Int) (a2_3 : IntKind.min .u8 ≤ x2_3) (b2_3 : x2_3 ≤ IntKind.max .u8) (x2_4 : Int) (a2_4 : IntKind.min .u16 ≤ x2_4) (b2_4 : x2_4 ≤ IntKind.max .u16) (x2_5 : Int) (a2_5 : IntKind.min .u8 ≤ x2_5) (b2_5 : x2_5 ≤ IntKind.max .u8) (x3 : Int) (a3 : IntKind.min .i64 ≤ x3) (b3 : x3 ≤ IntKind.max .i64) (x4 : Int) (a4 : IntKind.min .u8 ≤ x4) (b4 : x4 ≤ IntKind.max .u8) : Alls (lFrNew_o x0 x1 x2_0 x2_1 x2_2 x2_3 x2_4 x2_5 x3 x4) := by
  obtain ⟨l0, g0⟩ := bd_i64 a0 b0
  have w0 : IntKind.wrap .i64 x0 = x0 := w64_in (by omega) (by omega)
  obtain ⟨l1, g1⟩ := bd_i64 a1 b1
  have w1 : IntKind.wrap .i64 x1 = x1 := w64_in (by omega) (by omega)
  obtain ⟨l2_0, g2_0⟩ := bd_u8 a2_0 b2_0
  have w2_0 : IntKind.wrap .i64 x2_0 = x2_0 := w64_in (by omega) (by omega)
  obtain ⟨l2_1, g2_1⟩ := bd_u8 a2_1 b2_1
  have w2_1 : IntKind.wrap .i64 x2_1 = x2_1 := w64_in (by omega) (by omega)
  obtain ⟨l2_2, g2_2⟩ := bd_u8 a2_2 b2_2
  have w2_2 : IntKind.wrap .i64 x2_2 = x2_2 := w64_in (by omega) (by omega)
  obtain ⟨l2_3, g2_3⟩ := bd_u8 a2_3 b2_3
  have w2_3 : IntKind.wrap .i64 x2_3 = x2_3 := w64_in (by omega) (by omega)
  obtain ⟨l2_4, g2_4⟩ := bd_u16 a2_4 b2_4
  have w2_4 : IntKind.wrap .i64 x2_4 = x2_4 := w64_in (by omega) (by omega)
  obtain ⟨l2_5, g2_5⟩ := bd_u8 a2_5 b2_5
  have w2_5 : IntKind.wrap .i64 x2_5 = x2_5 := w64_in (by omega) (by omega)
  obtain ⟨l3, g3⟩ := bd_i64 a3 b3
  have w3 : IntKind.wrap .i64 x3 = x3 := w64_in (by omega) (by omega)
  obtain ⟨l4, g4⟩ := bd_u8 a4 b4
  have w4 : IntKind.wrap .i64 x4 = x4 := w64_in (by omega) (by omega)
  have hN := cl_N x0 x1
  obtain ⟨q1, q2, q3, q4, _⟩ := rep_obs (p0 := x2_0) (p1 := x2_1) (p2 := x2_2) (p3 := x2_3) (p4 := IntKind.wrap .i64 x2_4) (p5 := x2_5) hN.1 hN.2 false
  rw [← n_s6] at q1 q2 q3 q4
  obtain ⟨a1, a2, a3, a4', a5, a6, a7, _⟩ := aw_obs
  have f9 := f_s9 (x0 := x0) (x1 := x1) (x2_0 := x2_0) (x2_1 := x2_1) (x2_2 := x2_2) (x2_3 := x2_3) (x2_4 := x2_4) (x2_5 := x2_5)
  have f4 := f_s4 (x0 := x0) (x1 := x1) (x2_0 := x2_0) (x2_1 := x2_1) (x2_2 := x2_2) (x2_3 := x2_3) (x2_4 := x2_4) (x2_5 := x2_5)
  have z0 : (Int.ofNat (cl x0 * cl x1)) = ((cl x0 * cl x1 : Nat) : Int) := rfl
  have k12 := c_lok (l := lFrNew_s12 x0 x1 x2_0 x2_1 x2_2 x2_3 x2_4 x2_5 x3 x4) (by rw [f_len12]; exact hN.2)
  have nw : ∀ {p : Prop}, (!fChk_s0 65 (fNew_s5 x1) (lFrNew_s8 x0 x1 x2_0 x2_1 x2_2 x2_3 x2_4 x2_5)) = true → p := fun h => by
    rw [n_s5, f_wide] at h; cases h
  refine ⟨a1, a2, a3, a4', a5, a6, a7, fun _ => q1, fun _ => q2, fun _ => q3, fun _ => q4, fun _ _ _ _ _ => ?_, fun _ _ => ?_, fun _ _ _ => ?_, fun _ _ _ => ?_, fun _ _ _ => ?_, fun _ _ _ => ?_, fun _ _ _ => ?_, fun _ _ _ => ?_, fun _ _ _ => ?_, fun _ _ _ => ?_, fun _ _ _ => ?_, fun _ _ _ _ => k12, fun _ _ _ _ h => ?_, fun _ _ _ _ _ h => nw h, fun _ _ _ _ _ _ h => nw h, fun _ _ _ _ _ _ h => ?_, fun _ _ _ _ _ _ _ _ _ => k12, fun _ _ _ _ _ _ _ hs h => ?_, trivial⟩
  · exact c_lok (by rw [new_eq, List.length_replicate]; exact hN.2)
  · rw [f_start]; exact f_lok
  · rw [f4]; omega
  · rw [f9]; omega
  · rw [f9, z0]; omega
  · obtain ⟨k, hk, e⟩ := f_s10 (x0 := x0) (x1 := x1) (x2_0 := x2_0) (x2_1 := x2_1) (x2_2 := x2_2) (x2_3 := x2_3) (x2_4 := x2_4) (x2_5 := x2_5) (x3 := x3) l4 g4
    rw [e, f9, z0]; omega
  · rw [f4]; omega
  · rw [f9]; omega
  · rw [f9, z0]; omega
  · rw [f4]; omega
  · rw [f9]; omega
  · rw [n_s2, n_s5, f_short] at h; cases h
  · unfold fText_s0 at h
    rw [n_s5, c_six (f_wide _)] at h; cases h
  · unfold lFrNew_s20 at hs
    rw [f_s14] at hs
    unfold fText_s0 at h
    rw [n_s2, n_s5, f_chk l2_4 g2_4 l4 g4] at h
    by_cases hx : 0 ≤ x3 ∧ x3 ≤ 65535
    · rw [if_pos hx] at hs; cases hs
    · rw [if_neg hx] at h; cases h

end Go.Proofs.Ytcdejlgophpdjaa
