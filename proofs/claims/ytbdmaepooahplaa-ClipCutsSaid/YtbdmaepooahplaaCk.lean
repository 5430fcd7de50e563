/-
  The reference's cuts (printed by tools/genck.py).
-/
import Derived.Test.YtbdmaepooahplaaCj
namespace Go.Proofs.Ytbdmaepooahplaa
open Go Go.RowKit Go.Proofs.Ytbdmaepooahplaa.V
set_option linter.unusedVariables false
set_option linter.unusedSectionVars false

def rbS (k : Int) (l : List (List Int)) (i : Nat) : r12Clip_l3365_T := .mk k (Int.ofNat i) (decide (k < 7)) l (outG (insR k) (crR k) l i)

theorem rb_6 {k : Int} {l : List (List Int)} {i : Nat} (h : i < l.length) : r12Clip_l3365_s6 (rbS k l i) = decide (0 ≤ insR k (pr l i)) := by
  simp only [r12Clip_l3365_s6, rbS, by_r h, insR]; rfl
theorem rb_13 {k : Int} {l : List (List Int)} {i : Nat} (h : i < l.length) (hl : l.length ≤ 1000000) : r12Clip_l3365_s13 (rbS k l i) = decide (0 ≤ insR k (pr l (i + 1))) := by
  simp only [r12Clip_l3365_s13, r12Clip_l3365_s8, r12Clip_l3365_s9, r12Clip_l3365_s10, r12Clip_l3365_s11, r12Clip_l3365_s2, rbS, by_i h hl, by_t, by_q, insR]; rfl
theorem rb_7 {k : Int} {l : List (List Int)} {i : Nat} (h : i < l.length) : r12Clip_l3365_s7 (rbS k l i) = outG (insR k) (crR k) l i ++ [r8 (pr l i)] := by
  simp only [r12Clip_l3365_s7, rbS, by_r h, r8]
theorem rb_28 {k : Int} {l : List (List Int)} {i : Nat} (h : i < l.length) (hl : l.length ≤ 1000000) : r12Clip_l3365_s28 (rbS k l i) = (bif decide (0 ≤ insR k (pr l i)) then outG (insR k) (crR k) l i ++ [r8 (pr l i)] else outG (insR k) (crR k) l i) ++ [crR k (pr l i) (pr l (i + 1))] := by
  unfold r12Clip_l3365_s28
  rw [rb_6 h, rb_7 h]
  simp only [r12Clip_l3365_s8, r12Clip_l3365_s9, r12Clip_l3365_s10, r12Clip_l3365_s11, r12Clip_l3365_s17, r12Clip_l3365_s20, r12Clip_l3365_s23, r12Clip_l3365_s26, r12Clip_l3365_s2, rbS, by_i h hl, by_t, by_q, by_r h, crR]
theorem rb_39 {k : Int} {l : List (List Int)} {i : Nat} (h : i < l.length) (hl : l.length ≤ 1000000) : r12Clip_l3365_s39 (rbS k l i) = bif bif decide (0 ≤ insR k (pr l i)) then !decide (0 ≤ insR k (pr l (i + 1))) else false then (bif decide (0 ≤ insR k (pr l i)) then outG (insR k) (crR k) l i ++ [r8 (pr l i)] else outG (insR k) (crR k) l i) ++ [crR k (pr l i) (pr l (i + 1))] else bif decide (0 ≤ insR k (pr l i)) then outG (insR k) (crR k) l i ++ [r8 (pr l i)] else outG (insR k) (crR k) l i := by
  unfold r12Clip_l3365_s39
  rw [rb_6 h, rb_7 h, rb_13 h hl, rb_28 h hl]
  rfl
theorem rb_40 {k : Int} {l : List (List Int)} {i : Nat} (h : i < l.length) (hl : l.length ≤ 1000000) : r12Clip_l3365_s40 (rbS k l i) = r12Clip_l3365_s39 (rbS k l i) ++ [crR k (pr l (i + 1)) (pr l i)] := by
  unfold r12Clip_l3365_s40
  simp only [r12Clip_l3365_s8, r12Clip_l3365_s9, r12Clip_l3365_s10, r12Clip_l3365_s11, r12Clip_l3365_s17, r12Clip_l3365_s20, r12Clip_l3365_s23, r12Clip_l3365_s26, r12Clip_l3365_s2, rbS, by_i h hl, by_t, by_q, by_r h, crR]

theorem rb_1 {k : Int} {l : List (List Int)} {i : Nat} : r12Clip_l3365_s1 (rbS k l i) = decide (i < l.length) := by
  simp only [r12Clip_l3365_s1, rbS]
  by_cases h : i < l.length
  · rw [decide_eq_true h]; exact decide_eq_true (by simpa using h)
  · rw [decide_eq_false h]; exact decide_eq_false (by simpa using h)
theorem rb_2 {k : Int} {l : List (List Int)} (hl : l.length ≤ 1000000) {i : Nat} (h : i < l.length) : r12Clip_l3365_s2 (rbS k l i) = Int.ofNat (i + 1) := by simp only [r12Clip_l3365_s2, rbS, by_i h hl]

theorem rb_step {k : Int} {l : List (List Int)} (hl : l.length ≤ 1000000) {i : Nat} (h : i < l.length) : pick1 (r12Clip_l3365_st (rbS k l i)).2 = some (.n, rbS k l (i + 1)) := by
  unfold r12Clip_l3365_st
  rw [rb_1, decide_eq_true h, rb_40 h hl, rb_39 h hl, rb_6 h, rb_13 h hl, rb_2 hl h]
  simp only [pick1, Bool.not_true]
  have e2 : outG (insR k) (crR k) l (i + 1) = outG (insR k) (crR k) l i ++ emG (insR k) (crR k) (pr l i) (pr l (i + 1)) := rfl
  unfold rbS
  rw [e2]
  simp only [emG]
  cases decide (0 ≤ insR k (pr l i)) <;> cases decide (0 ≤ insR k (pr l (i + 1))) <;> simp only [cond_true, cond_false, Bool.not_true, Bool.not_false, List.append_nil, List.nil_append, List.append_assoc, List.cons_append]

theorem rb_end {k : Int} {l : List (List Int)} : pick1 (r12Clip_l3365_st (rbS k l l.length)).2 = some (.e 2, rbS k l l.length) := by
  unfold r12Clip_l3365_st
  rw [rb_1, decide_eq_false (by omega)]
  rfl

theorem nz0 {x : Int} (h : (!x == 0) = true) : x ≠ 0 := by simpa using h

theorem rb_hA {k : Int} {l : List (List Int)} (hg : Gl l) (hl : l.length ≤ 1000000) (l0 : 0 ≤ k) (g : k ≤ 6) {i : Nat} (h : i < l.length) (hc : (bif r12Clip_l3365_s6 (rbS k l i) then !r12Clip_l3365_s13 (rbS k l i) else false) = true) (hf : rFloor_s0 (r12Clip_l3365_s14 (rbS k l i)) = true) : False := by
  have ga := pr_gd hg (i := i) (by omega)
  have gb := pr_gd hg (i := i + 1) (by omega)
  have la := insP_bd ga k
  have lb := insP_bd gb k
  have ea := insR_eq ga l0 g
  have eb := insR_eq gb l0 g
  rw [rb_6 h, rb_13 h hl] at hc
  have e : r12Clip_l3365_s14 (rbS k l i) = IntKind.wrap .i64 (insR k (pr l i) - insR k (pr l (i + 1))) := by
    simp only [r12Clip_l3365_s14, r12cross_s1, r12Clip_l3365_s8, r12Clip_l3365_s9, r12Clip_l3365_s10, r12Clip_l3365_s11, r12Clip_l3365_s2, rbS, by_i h hl, by_t, by_q, by_r h, insR]
  rw [e, ea, eb, w64_in (by omega) (by omega)] at hf
  rw [ea, eb] at hc
  have hb : ∀ {a b : Bool}, (bif a then !b else false) = true → a = true ∧ b = false := by decide
  obtain ⟨h1, h2⟩ := hb hc
  have h1 := of_decide_eq_true h1
  have h2 := of_decide_eq_false h2
  have h3 : insP k (pr l i) - insP k (pr l (i + 1)) < 0 := of_decide_eq_true hf
  omega
theorem rb_hB {k : Int} {l : List (List Int)} (hg : Gl l) (hl : l.length ≤ 1000000) (l0 : 0 ≤ k) (g : k ≤ 6) {i : Nat} (h : i < l.length) (hc : (bif r12Clip_l3365_s13 (rbS k l i) then !r12Clip_l3365_s6 (rbS k l i) else false) = true) (hf : rFloor_s0 (r12Clip_l3365_s29 (rbS k l i)) = true) : False := by
  have ga := pr_gd hg (i := i) (by omega)
  have gb := pr_gd hg (i := i + 1) (by omega)
  have la := insP_bd ga k
  have lb := insP_bd gb k
  have ea := insR_eq ga l0 g
  have eb := insR_eq gb l0 g
  rw [rb_6 h, rb_13 h hl] at hc
  have e : r12Clip_l3365_s29 (rbS k l i) = IntKind.wrap .i64 (insR k (pr l (i + 1)) - insR k (pr l i)) := by
    simp only [r12Clip_l3365_s29, r12cross_s1, r12Clip_l3365_s8, r12Clip_l3365_s9, r12Clip_l3365_s10, r12Clip_l3365_s11, r12Clip_l3365_s2, rbS, by_i h hl, by_t, by_q, by_r h, insR]
  rw [e, ea, eb, w64_in (by omega) (by omega)] at hf
  rw [ea, eb] at hc
  have hb : ∀ {a b : Bool}, (bif a then !b else false) = true → a = true ∧ b = false := by decide
  obtain ⟨h1, h2⟩ := hb hc
  have h1 := of_decide_eq_true h1
  have h2 := of_decide_eq_false h2
  have h3 : insP k (pr l (i + 1)) - insP k (pr l i) < 0 := of_decide_eq_true hf
  omega

theorem alls_imp {b : Bool} (h : b = false) {L : List Prop} (hL : ∀ p ∈ L, ∃ q : Prop, p = (b = true → q)) : Alls L := by
  induction L with
  | nil => trivial
  | cons p r ih =>
    obtain ⟨q, rfl⟩ := hL p List.mem_cons_self
    refine ⟨?_, ih fun p hp => hL p (List.mem_cons_of_mem _ hp)⟩
    rw [h]; exact nofun

theorem rb_obs {k : Int} {l : List (List Int)} (hg : Gl l) (hl : l.length ≤ 1000000) (l0 : 0 ≤ k) (g : k ≤ 6) {i : Nat} (h : i ≤ l.length) : Alls (r12Clip_l3365_st (rbS k l i)).1 := by
  by_cases hi : i < l.length
  · have hA := rb_hA hg hl l0 g hi
    have hB := rb_hB hg hl l0 g hi
    have ho := outG_len (insR k) (crR k) l i
    generalize hll : l = l' at *
    have l : 0 ≤ (rbS k l' i).a0 := l0
    have g : (rbS k l' i).a0 ≤ 6 := g
    refine ⟨?_,
      ?_,
      ?_,
      fun e0 e1 e2 e3 => (r_inside_obs l g e1 e2 e3).1,
      fun e0 e1 e2 e3 => (r_inside_obs l g e1 e2 e3).2,
      fun e0 e1 e2 e3 => (r_inside_obs l g e1 e2 e3).1,
      fun e0 e1 e2 e3 => (r_inside_obs l g e1 e2 e3).2,
      ?_,
      fun e0 e1 e2 e3 e4 => (r_inside_obs l g e2 e3 e4).1,
      fun e0 e1 e2 e3 e4 => (r_inside_obs l g e2 e3 e4).2,
      fun e0 e1 e2 e3 e4 => (r_inside_obs l g e2 e3 e4).1,
      fun e0 e1 e2 e3 e4 => (r_inside_obs l g e2 e3 e4).2,
      fun e0 e1 e2 e3 e4 e5 => (hA e1 e3).elim,
      fun e0 e1 e2 e3 e4 e5 e6 => (hA e1 e3).elim,
      fun e0 e1 e2 e3 e4 e5 e6 => (hA e1 e3).elim,
      fun e0 e1 e2 e3 e4 => nz0 e2,
      fun e0 e1 e2 e3 e4 => nz0 e2,
      fun e0 e1 e2 e3 e4 e5 => (hA e1 e3).elim,
      fun e0 e1 e2 e3 e4 e5 e6 => (hA e1 e3).elim,
      fun e0 e1 e2 e3 e4 e5 e6 => (hA e1 e3).elim,
      fun e0 e1 e2 e3 e4 => nz0 e2,
      fun e0 e1 e2 e3 e4 => nz0 e2,
      fun e0 e1 e2 e3 e4 e5 => (hA e1 e3).elim,
      fun e0 e1 e2 e3 e4 e5 e6 => (hA e1 e3).elim,
      fun e0 e1 e2 e3 e4 e5 e6 => (hA e1 e3).elim,
      fun e0 e1 e2 e3 e4 => nz0 e2,
      fun e0 e1 e2 e3 e4 => nz0 e2,
      fun e0 e1 e2 e3 e4 e5 => (hA e1 e3).elim,
      fun e0 e1 e2 e3 e4 e5 e6 => (hA e1 e3).elim,
      fun e0 e1 e2 e3 e4 e5 e6 => (hA e1 e3).elim,
      fun e0 e1 e2 e3 e4 => nz0 e2,
      fun e0 e1 e2 e3 e4 => nz0 e2,
      fun e0 e1 e2 e3 e4 e5 => (hA e1 e3).elim,
      fun e0 e1 e2 e3 e4 e5 e6 => (hA e1 e3).elim,
      fun e0 e1 e2 e3 e4 e5 e6 => (hA e1 e3).elim,
      fun e0 e1 e2 e3 e4 => nz0 e2,
      fun e0 e1 e2 e3 e4 => nz0 e2,
      fun e0 e1 e2 e3 e4 e5 => (hA e1 e3).elim,
      fun e0 e1 e2 e3 e4 e5 e6 => (hA e1 e3).elim,
      fun e0 e1 e2 e3 e4 e5 e6 => (hA e1 e3).elim,
      fun e0 e1 e2 e3 e4 => nz0 e2,
      fun e0 e1 e2 e3 e4 => nz0 e2,
      fun e0 e1 e2 e3 e4 e5 => (hA e1 e3).elim,
      fun e0 e1 e2 e3 e4 e5 e6 => (hA e1 e3).elim,
      fun e0 e1 e2 e3 e4 e5 e6 => (hA e1 e3).elim,
      fun e0 e1 e2 e3 e4 => nz0 e2,
      fun e0 e1 e2 e3 e4 => nz0 e2,
      fun e0 e1 e2 e3 e4 e5 => (hA e1 e3).elim,
      fun e0 e1 e2 e3 e4 e5 e6 => (hA e1 e3).elim,
      fun e0 e1 e2 e3 e4 e5 e6 => (hA e1 e3).elim,
      fun e0 e1 e2 e3 e4 => nz0 e2,
      fun e0 e1 e2 e3 e4 => nz0 e2,
      ?_,
      fun e0 e1 e2 e3 e4 => (r_inside_obs l g e2 e3 e4).1,
      fun e0 e1 e2 e3 e4 => (r_inside_obs l g e2 e3 e4).2,
      fun e0 e1 e2 e3 e4 => (r_inside_obs l g e2 e3 e4).1,
      fun e0 e1 e2 e3 e4 => (r_inside_obs l g e2 e3 e4).2,
      fun e0 e1 e2 e3 e4 e5 => (hB e1 e3).elim,
      fun e0 e1 e2 e3 e4 e5 e6 => (hB e1 e3).elim,
      fun e0 e1 e2 e3 e4 e5 e6 => (hB e1 e3).elim,
      fun e0 e1 e2 e3 e4 => nz0 e2,
      fun e0 e1 e2 e3 e4 => nz0 e2,
      fun e0 e1 e2 e3 e4 e5 => (hB e1 e3).elim,
      fun e0 e1 e2 e3 e4 e5 e6 => (hB e1 e3).elim,
      fun e0 e1 e2 e3 e4 e5 e6 => (hB e1 e3).elim,
      fun e0 e1 e2 e3 e4 => nz0 e2,
      fun e0 e1 e2 e3 e4 => nz0 e2,
      fun e0 e1 e2 e3 e4 e5 => (hB e1 e3).elim,
      fun e0 e1 e2 e3 e4 e5 e6 => (hB e1 e3).elim,
      fun e0 e1 e2 e3 e4 e5 e6 => (hB e1 e3).elim,
      fun e0 e1 e2 e3 e4 => nz0 e2,
      fun e0 e1 e2 e3 e4 => nz0 e2,
      fun e0 e1 e2 e3 e4 e5 => (hB e1 e3).elim,
      fun e0 e1 e2 e3 e4 e5 e6 => (hB e1 e3).elim,
      fun e0 e1 e2 e3 e4 e5 e6 => (hB e1 e3).elim,
      fun e0 e1 e2 e3 e4 => nz0 e2,
      fun e0 e1 e2 e3 e4 => nz0 e2,
      fun e0 e1 e2 e3 e4 e5 => (hB e1 e3).elim,
      fun e0 e1 e2 e3 e4 e5 e6 => (hB e1 e3).elim,
      fun e0 e1 e2 e3 e4 e5 e6 => (hB e1 e3).elim,
      fun e0 e1 e2 e3 e4 => nz0 e2,
      fun e0 e1 e2 e3 e4 => nz0 e2,
      fun e0 e1 e2 e3 e4 e5 => (hB e1 e3).elim,
      fun e0 e1 e2 e3 e4 e5 e6 => (hB e1 e3).elim,
      fun e0 e1 e2 e3 e4 e5 e6 => (hB e1 e3).elim,
      fun e0 e1 e2 e3 e4 => nz0 e2,
      fun e0 e1 e2 e3 e4 => nz0 e2,
      fun e0 e1 e2 e3 e4 e5 => (hB e1 e3).elim,
      fun e0 e1 e2 e3 e4 e5 e6 => (hB e1 e3).elim,
      fun e0 e1 e2 e3 e4 e5 e6 => (hB e1 e3).elim,
      fun e0 e1 e2 e3 e4 => nz0 e2,
      fun e0 e1 e2 e3 e4 => nz0 e2,
      fun e0 e1 e2 e3 e4 e5 => (hB e1 e3).elim,
      fun e0 e1 e2 e3 e4 e5 e6 => (hB e1 e3).elim,
      fun e0 e1 e2 e3 e4 e5 e6 => (hB e1 e3).elim,
      fun e0 e1 e2 e3 e4 => nz0 e2,
      fun e0 e1 e2 e3 e4 => nz0 e2,
      ?_, trivial⟩

    · intro _; rw [show (rbS k l' i).a1 = (i : Int) from rfl, show Int.ofNat (rbS k l' i).a3.length = (l'.length : Int) from rfl]; omega
    · intro _; rw [show Int.ofNat (rbS k l' i).a3.length = (l'.length : Int) from rfl]; omega
    · intro _
      rw [rb_2 hl hi, show (rbS k l' i).a3 = l' from rfl, by_t, show Int.ofNat ((i + 1) % l'.length) = (((i + 1) % l'.length : Nat) : Int) from rfl, show Int.ofNat l'.length = (l'.length : Int) from rfl]
      have hm : (i + 1) % l'.length < l'.length := Nat.mod_lt _ (by omega)
      omega
    · intro _ _
      rw [rb_7 hi, List.length_append]; simp only [List.length_singleton]; omega
    · intro _ _
      rw [rb_28 hi hl]
      cases decide (0 ≤ insR k (pr l' i)) <;> simp only [cond_true, cond_false, List.length_append, List.length_singleton] <;> omega
    · intro _ _
      rw [rb_40 hi hl, rb_39 hi hl]
      cases decide (0 ≤ insR k (pr l' i)) <;> cases decide (0 ≤ insR k (pr l' (i + 1))) <;> simp only [cond_true, cond_false, Bool.not_true, Bool.not_false, List.length_append, List.length_singleton] <;> omega
  · unfold r12Clip_l3365_st
    rw [rb_1, decide_eq_false hi]
    exact ⟨nofun, nofun, nofun, nofun, nofun, nofun, nofun, nofun, nofun, nofun, nofun, nofun, nofun, nofun, nofun, nofun, nofun, nofun, nofun, nofun, nofun, nofun, nofun, nofun, nofun, nofun, nofun, nofun, nofun, nofun, nofun, nofun, nofun, nofun, nofun, nofun, nofun, nofun, nofun, nofun, nofun, nofun, nofun, nofun, nofun, nofun, nofun, nofun, nofun, nofun, nofun, nofun, nofun, nofun, nofun, nofun, nofun, nofun, nofun, nofun, nofun, nofun, nofun, nofun, nofun, nofun, nofun, nofun, nofun, nofun, nofun, nofun, nofun, nofun, nofun, nofun, nofun, nofun, nofun, nofun, nofun, nofun, nofun, nofun, nofun, nofun, nofun, nofun, nofun, nofun, nofun, nofun, nofun, nofun, nofun, nofun, nofun, nofun, trivial⟩

theorem rb_run (k : Int) {l : List (List Int)} (hl : l.length ≤ 1000000) : lrun r12Clip_l3365_st 18446744073709551616 (r12Clip_l3365_T.mk k 0 (decide (k < 7)) l []) = some (.e 2, .mk k (Int.ofNat l.length) (decide (k < 7)) l (byG (insR k) (crR k) l)) := by
  have := lrun_count (st := r12Clip_l3365_st) (s := rbS k l) (n := l.length) (fun i h => rb_step hl h) rb_end nofun l.length 0 (by omega) 18446744073709551616 (by omega)
  exact this
theorem rb_lok {k : Int} {l : List (List Int)} (hg : Gl l) (hl : l.length ≤ 1000000) (l0 : 0 ≤ k) (g : k ≤ 6) : lok r12Clip_l3365_st 18446744073709551616 (r12Clip_l3365_T.mk k 0 (decide (k < 7)) l []) :=
  lok_count (st := r12Clip_l3365_st) (s := rbS k l) (n := l.length) (fun i h => rb_step hl h) rb_end nofun (fun i h => rb_obs hg hl l0 g h) l.length 0 (by omega) 18446744073709551616 (by omega)

end Go.Proofs.Ytbdmaepooahplaa
