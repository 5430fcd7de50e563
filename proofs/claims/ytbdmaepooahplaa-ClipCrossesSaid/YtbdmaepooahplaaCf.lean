/-
  The last of the cuts, and that the walk wakes.
-/
import Derived.Test.YtbdmaepooahplaaCe
namespace Go.Proofs.Ytbdmaepooahplaa
open Go Go.RowKit Go.Proofs.Ytbdmaepooahplaa.V
set_option linter.unusedVariables false
set_option linter.unusedSectionVars false

def fixR (r : List Int) : List Int := [fWithin_0 (r.getD 0 0) 4194304, fWithin_0 (r.getD 1 0) 4194304, fWithin_0 (r.getD 2 0) 4194304, if fWithin_0 (r.getD 3 0) 4194304 < 256 then 256 else fWithin_0 (r.getD 3 0) 4194304, vmColour_0 (r.getD 4 0), vmColour_1 (r.getD 5 0), vmColour_2 (r.getD 6 0), vmColour_3 (r.getD 7 0)]
def fixN (f : List Int → List Int) (l : List (List Int)) : Nat → List (List Int)
  | 0 => l
  | i + 1 => (fixN f l i).set i (f ((fixN f l i).getD i []))
theorem fixN_len (f : List Int → List Int) (l : List (List Int)) : ∀ i, (fixN f l i).length = l.length
  | 0 => rfl
  | i + 1 => by unfold fixN; rw [List.length_set, fixN_len f l i]
theorem fixN_eq (f : List Int → List Int) (l : List (List Int)) : ∀ i, i ≤ l.length → fixN f l i = (l.take i).map f ++ l.drop i
  | 0, _ => by simp [fixN]
  | i + 1, h => by
    unfold fixN
    rw [fixN_eq f l i (by omega)]
    have hi : i < l.length := by omega
    have e1 : ((l.take i).map f).length = i := by simp; omega
    have e2 : l.drop i = l[i] :: l.drop (i + 1) := List.drop_eq_getElem_cons hi
    have e3 : ((l.take i).map f ++ l.drop i).getD i [] = l[i] := by
      rw [List.getD_eq_getElem?_getD, List.getElem?_append_right (by omega), e1, Nat.sub_self, e2]; rfl
    rw [e3, List.set_append_right _ _ (by omega), e1, Nat.sub_self, e2, List.set_cons_zero, List.take_succ_eq_append_getElem hi, List.map_append, List.map_singleton, List.append_assoc]
    rfl
theorem fixN_all (f : List Int → List Int) (l : List (List Int)) : fixN f l l.length = l.map f := by
  rw [fixN_eq f l _ (Nat.le_refl _), List.take_length, List.drop_length, List.append_nil]

def fxS (l : List (List Int)) (i : Nat) : cClip_l125_T := .mk (Int.ofNat l.length) (Int.ofNat i) (fixN fixR l i)
theorem fx_0 {l : List (List Int)} {i : Nat} : cClip_l125_s0 (fxS l i) = decide (i < l.length) := by
  simp only [cClip_l125_s0, fxS]
  by_cases h : i < l.length
  · rw [decide_eq_true h]; exact decide_eq_true (by simpa using h)
  · rw [decide_eq_false h]; exact decide_eq_false (by simpa using h)
theorem fx_step {l : List (List Int)} (hl : l.length ≤ 1000000) {i : Nat} (h : i < l.length) : pick1 (cClip_l125_st (fxS l i)).2 = some (.n, fxS l (i + 1)) := by
  unfold cClip_l125_st
  rw [fx_0, decide_eq_true h]
  simp only [pick1, Bool.not_true]
  have e1 : IntKind.wrap .i64 (cClip_l125_T.a1 (fxS l i) + 1) = Int.ofNat (i + 1) := by
    have e : Int.ofNat i = (i : Int) := rfl
    show IntKind.wrap .i64 (Int.ofNat i + 1) = _
    rw [w64_in (by omega) (by omega)]; rfl
  rw [e1]
  rfl
theorem fx_end {l : List (List Int)} : pick1 (cClip_l125_st (fxS l l.length)).2 = some (.e 2, fxS l l.length) := by
  unfold cClip_l125_st
  rw [fx_0, decide_eq_false (by omega)]
  rfl
theorem fx_obs {l : List (List Int)} {i : Nat} (h : i ≤ l.length) : Alls (cClip_l125_st (fxS l i)).1 := by
  unfold cClip_l125_st
  rw [fx_0]
  by_cases g : i < l.length
  · rw [decide_eq_true g]
    have n2 : Int.ofNat (fixN fixR l i).length = (l.length : Int) := by rw [fixN_len]; rfl
    have n3 : Int.ofNat i = (i : Int) := rfl
    have e2 : (fxS l i).a1 = Int.ofNat i := rfl
    have e3 : (fxS l i).a2 = fixN fixR l i := rfl
    rw [e2, e3, n2, n3]
    exact ⟨fun _ => ⟨by omega, by omega⟩, fun _ => ⟨by omega, by omega⟩, trivial⟩
  · rw [decide_eq_false g]
    exact ⟨nofun, nofun, trivial⟩
theorem fx_eq {l : List (List Int)} (hl : l.length ≤ 1000000) : cClip_l125_T.a2 (V.valOf (lrun cClip_l125_st 18446744073709551616 (cClip_l125_T.mk (Int.ofNat l.length) 0 l))) = l.map fixR := by
  have := lrun_count (st := cClip_l125_st) (s := fxS l) (n := l.length) (fun i h => fx_step hl h) fx_end nofun l.length 0 (by omega) 18446744073709551616 (by omega)
  have e : fxS l 0 = cClip_l125_T.mk (Int.ofNat l.length) 0 l := rfl
  rw [e] at this
  rw [this]
  show fixN fixR l l.length = _
  exact fixN_all _ _
theorem fx_lok {l : List (List Int)} (hl : l.length ≤ 1000000) : lok cClip_l125_st 18446744073709551616 (cClip_l125_T.mk (Int.ofNat l.length) 0 l) :=
  lok_count (st := cClip_l125_st) (s := fxS l) (n := l.length) (fun i h => fx_step hl h) fx_end nofun (fun i h => fx_obs h) l.length 0 (by omega) 18446744073709551616 (by omega)

theorem by_len (k : Int) {l : List (List Int)} {n : Nat} (h : l.length ≤ n) (hn : n ≤ 1000000) : (cBy_0 k l).length ≤ 2 * n := by
  rw [by_eq k (by omega)]
  have := byG_len (insC k) (crC k) l
  omega

def by7 (l : List (List Int)) : List (List Int) := byG (insC 6) (crC 6) (byG (insC 5) (crC 5) (byG (insC 4) (crC 4) (byG (insC 3) (crC 3) (byG (insC 2) (crC 2) (byG (insC 1) (crC 1) (byG (insC 0) (crC 0) l))))))
def clipG (l : List (List Int)) : List (List Int) := bif bif decide ((by7 l).length < 3) then true else decide (16 < (by7 l).length) then [] else (by7 l).map fixR

section
variable (x0_0 x0_1 x0_2 x0_3 x0_4 x0_5 x0_6 x0_7 x1_0 x1_1 x1_2 x1_3 x1_4 x1_5 x1_6 x1_7 x2_0 x2_1 x2_2 x2_3 x2_4 x2_5 x2_6 x2_7 : Int)
theorem c6_len : (cClip_s6 x0_0 x0_1 x0_2 x0_3 x0_4 x0_5 x0_6 x0_7 x1_0 x1_1 x1_2 x1_3 x1_4 x1_5 x1_6 x1_7 x2_0 x2_1 x2_2 x2_3 x2_4 x2_5 x2_6 x2_7).length ≤ 3 := Nat.le_refl 3
theorem c7_len : (cClip_s7 x0_0 x0_1 x0_2 x0_3 x0_4 x0_5 x0_6 x0_7 x1_0 x1_1 x1_2 x1_3 x1_4 x1_5 x1_6 x1_7 x2_0 x2_1 x2_2 x2_3 x2_4 x2_5 x2_6 x2_7).length ≤ 6 := by_len _ (c6_len ..) (by omega)
theorem c8_len : (cClip_s8 x0_0 x0_1 x0_2 x0_3 x0_4 x0_5 x0_6 x0_7 x1_0 x1_1 x1_2 x1_3 x1_4 x1_5 x1_6 x1_7 x2_0 x2_1 x2_2 x2_3 x2_4 x2_5 x2_6 x2_7).length ≤ 12 := by_len _ (c7_len ..) (by omega)
theorem c9_len : (cClip_s9 x0_0 x0_1 x0_2 x0_3 x0_4 x0_5 x0_6 x0_7 x1_0 x1_1 x1_2 x1_3 x1_4 x1_5 x1_6 x1_7 x2_0 x2_1 x2_2 x2_3 x2_4 x2_5 x2_6 x2_7).length ≤ 24 := by_len _ (c8_len ..) (by omega)
theorem c10_len : (cClip_s10 x0_0 x0_1 x0_2 x0_3 x0_4 x0_5 x0_6 x0_7 x1_0 x1_1 x1_2 x1_3 x1_4 x1_5 x1_6 x1_7 x2_0 x2_1 x2_2 x2_3 x2_4 x2_5 x2_6 x2_7).length ≤ 48 := by_len _ (c9_len ..) (by omega)
theorem c11_len : (cClip_s11 x0_0 x0_1 x0_2 x0_3 x0_4 x0_5 x0_6 x0_7 x1_0 x1_1 x1_2 x1_3 x1_4 x1_5 x1_6 x1_7 x2_0 x2_1 x2_2 x2_3 x2_4 x2_5 x2_6 x2_7).length ≤ 96 := by_len _ (c10_len ..) (by omega)
theorem c12_len : (cClip_s12 x0_0 x0_1 x0_2 x0_3 x0_4 x0_5 x0_6 x0_7 x1_0 x1_1 x1_2 x1_3 x1_4 x1_5 x1_6 x1_7 x2_0 x2_1 x2_2 x2_3 x2_4 x2_5 x2_6 x2_7).length ≤ 192 := by_len _ (c11_len ..) (by omega)
theorem c13_len : (cClip_s13 x0_0 x0_1 x0_2 x0_3 x0_4 x0_5 x0_6 x0_7 x1_0 x1_1 x1_2 x1_3 x1_4 x1_5 x1_6 x1_7 x2_0 x2_1 x2_2 x2_3 x2_4 x2_5 x2_6 x2_7).length ≤ 384 := by_len _ (c12_len ..) (by omega)
theorem c13_eq : cClip_s13 x0_0 x0_1 x0_2 x0_3 x0_4 x0_5 x0_6 x0_7 x1_0 x1_1 x1_2 x1_3 x1_4 x1_5 x1_6 x1_7 x2_0 x2_1 x2_2 x2_3 x2_4 x2_5 x2_6 x2_7 = by7 [[x0_0, x0_1, x0_2, x0_3, x0_4, x0_5, x0_6, x0_7], [x1_0, x1_1, x1_2, x1_3, x1_4, x1_5, x1_6, x1_7], [x2_0, x2_1, x2_2, x2_3, x2_4, x2_5, x2_6, x2_7]] := by
  have s0 : cClip_s0 = 1 := by decide
  have s1 : cClip_s1 = 2 := by decide
  have s2 : cClip_s2 = 3 := by decide
  have s3 : cClip_s3 = 4 := by decide
  have s4 : cClip_s4 = 5 := by decide
  have s5 : cClip_s5 = 6 := by decide
  have e7 : cClip_s7 x0_0 x0_1 x0_2 x0_3 x0_4 x0_5 x0_6 x0_7 x1_0 x1_1 x1_2 x1_3 x1_4 x1_5 x1_6 x1_7 x2_0 x2_1 x2_2 x2_3 x2_4 x2_5 x2_6 x2_7 = _ := by_eq 0 (Nat.le_trans (c6_len ..) (by omega))
  have e8 : cClip_s8 x0_0 x0_1 x0_2 x0_3 x0_4 x0_5 x0_6 x0_7 x1_0 x1_1 x1_2 x1_3 x1_4 x1_5 x1_6 x1_7 x2_0 x2_1 x2_2 x2_3 x2_4 x2_5 x2_6 x2_7 = _ := by_eq _ (Nat.le_trans (c7_len ..) (by omega))
  have e9 : cClip_s9 x0_0 x0_1 x0_2 x0_3 x0_4 x0_5 x0_6 x0_7 x1_0 x1_1 x1_2 x1_3 x1_4 x1_5 x1_6 x1_7 x2_0 x2_1 x2_2 x2_3 x2_4 x2_5 x2_6 x2_7 = _ := by_eq _ (Nat.le_trans (c8_len ..) (by omega))
  have e10 : cClip_s10 x0_0 x0_1 x0_2 x0_3 x0_4 x0_5 x0_6 x0_7 x1_0 x1_1 x1_2 x1_3 x1_4 x1_5 x1_6 x1_7 x2_0 x2_1 x2_2 x2_3 x2_4 x2_5 x2_6 x2_7 = _ := by_eq _ (Nat.le_trans (c9_len ..) (by omega))
  have e11 : cClip_s11 x0_0 x0_1 x0_2 x0_3 x0_4 x0_5 x0_6 x0_7 x1_0 x1_1 x1_2 x1_3 x1_4 x1_5 x1_6 x1_7 x2_0 x2_1 x2_2 x2_3 x2_4 x2_5 x2_6 x2_7 = _ := by_eq _ (Nat.le_trans (c10_len ..) (by omega))
  have e12 : cClip_s12 x0_0 x0_1 x0_2 x0_3 x0_4 x0_5 x0_6 x0_7 x1_0 x1_1 x1_2 x1_3 x1_4 x1_5 x1_6 x1_7 x2_0 x2_1 x2_2 x2_3 x2_4 x2_5 x2_6 x2_7 = _ := by_eq _ (Nat.le_trans (c11_len ..) (by omega))
  have e13 : cClip_s13 x0_0 x0_1 x0_2 x0_3 x0_4 x0_5 x0_6 x0_7 x1_0 x1_1 x1_2 x1_3 x1_4 x1_5 x1_6 x1_7 x2_0 x2_1 x2_2 x2_3 x2_4 x2_5 x2_6 x2_7 = _ := by_eq _ (Nat.le_trans (c12_len ..) (by omega))
  rw [e13, e12, e11, e10, e9, e8, e7, s0, s1, s2, s3, s4, s5]
  rfl
theorem clip_eq : cClip_0 x0_0 x0_1 x0_2 x0_3 x0_4 x0_5 x0_6 x0_7 x1_0 x1_1 x1_2 x1_3 x1_4 x1_5 x1_6 x1_7 x2_0 x2_1 x2_2 x2_3 x2_4 x2_5 x2_6 x2_7 = clipG [[x0_0, x0_1, x0_2, x0_3, x0_4, x0_5, x0_6, x0_7], [x1_0, x1_1, x1_2, x1_3, x1_4, x1_5, x1_6, x1_7], [x2_0, x2_1, x2_2, x2_3, x2_4, x2_5, x2_6, x2_7]] := by
  have hl := c13_len x0_0 x0_1 x0_2 x0_3 x0_4 x0_5 x0_6 x0_7 x1_0 x1_1 x1_2 x1_3 x1_4 x1_5 x1_6 x1_7 x2_0 x2_1 x2_2 x2_3 x2_4 x2_5 x2_6 x2_7
  unfold cClip_0 cClip_s16 cClip_s14 clipG
  rw [fx_eq (Nat.le_trans hl (by omega)), c13_eq]
  have c1 : ∀ n : Nat, decide (Int.ofNat n < 3) = decide (n < 3) := fun n => by
    have e : Int.ofNat n = (n : Int) := rfl
    by_cases h : n < 3
    · rw [decide_eq_true h]; exact decide_eq_true (by omega)
    · rw [decide_eq_false h]; exact decide_eq_false (by omega)
  have c2 : ∀ n : Nat, decide (16 < Int.ofNat n) = decide (16 < n) := fun n => by
    have e : Int.ofNat n = (n : Int) := rfl
    by_cases h : 16 < n
    · rw [decide_eq_true h]; exact decide_eq_true (by omega)
    · rw [decide_eq_false h]; exact decide_eq_false (by omega)
  rw [c1, c2]
end

theorem by_lok' (k : Int) {l : List (List Int)} {n : Nat} (h : l.length = n) (hl : n ≤ 1000000) : lok cBy_l29_st 18446744073709551616 (cBy_l29_T.mk k (Int.ofNat n) 0 l []) := by
  subst h
  exact by_lok k hl
theorem aw_obs : Alls aw12_o := by
  unfold aw12_o
  exact ⟨by_lok' _ rfl (by omega), by_lok' _ (by decide +kernel) (by omega), by_lok' _ (by decide +kernel) (by omega), by_lok' _ (by decide +kernel) (by omega), by_lok' _ (by decide +kernel) (by omega), by_lok' _ (by decide +kernel) (by omega), by_lok' _ (by decide +kernel) (by omega), fun _ => fx_lok (Nat.le_trans (c13_len ..) (by omega)), fun _ => by decide, trivial⟩
theorem aw_true : aw12_0 = true := by
  unfold aw12_0 aw12_s1
  rw [clip_eq]
  decide +kernel

end Go.Proofs.Ytbdmaepooahplaa
