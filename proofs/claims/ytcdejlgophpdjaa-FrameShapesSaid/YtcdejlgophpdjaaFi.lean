/-
  Pictures that are the same; pictures by small numbers.
-/
import Derived.Test.YtcdejlgophpdjaaFh
namespace Go.Proofs.Ytcdejlgophpdjaa
open Go Go.RowKit Go.Proofs.Ytcdejlgophpdjaa.V
set_option linter.unusedVariables false
set_option linter.unusedSectionVars false

def eq6 (l m : List (List Int)) (i : Nat) : Bool := rget l i 0 == rget m i 0 && (rget l i 1 == rget m i 1 && (rget l i 2 == rget m i 2 && rget l i 3 == rget m i 3)) && (rget l i 4 == rget m i 4 && rget l i 5 == rget m i 5)
theorem eq6_iff {l m : List (List Int)} {i : Nat} : eq6 l m i = true ↔ ∀ j, j < 6 → rget l i j = rget m i j := by
  unfold eq6
  simp only [Bool.and_eq_true, beq_iff_eq]
  constructor
  · intro ⟨⟨a, b, c, d⟩, e, f⟩ j hj
    match j, hj with
    | 0, _ => exact a
    | 1, _ => exact b
    | 2, _ => exact c
    | 3, _ => exact d
    | 4, _ => exact e
    | 5, _ => exact f
  · intro h
    exact ⟨⟨h 0 (by omega), h 1 (by omega), h 2 (by omega), h 3 (by omega)⟩, h 4 (by omega), h 5 (by omega)⟩

section
variable {l m : List (List Int)} (hL : l.length ≤ 4096) (hm : m.length = l.length)
def eS (l m : List (List Int)) (i : Nat) : sEqual_l29_T := .mk false (Int.ofNat l.length) (i : Int) l m
theorem e_s0 (i : Nat) : sEqual_l29_s0 (eS l m i) = decide (i < l.length) := by
  unfold sEqual_l29_s0
  exact decide_eq_decide.2 Int.ofNat_lt
theorem e_s1 (i : Nat) : sEqual_l29_s1 (eS l m i) = !eq6 l m i := rfl
include hL in
theorem e_step (i : Nat) (hi : i < l.length) (e : eq6 l m i = true) : pick1 (sEqual_l29_st (eS l m i)).2 = some (.n, eS l m (i + 1)) := by
  unfold sEqual_l29_st
  rw [e_s0, e_s1, e, decide_eq_true hi]
  have : IntKind.wrap .i64 ((eS l m i).a2 + 1) = ((i + 1 : Nat) : Int) := by
    show IntKind.wrap .i64 ((i : Int) + 1) = _
    rw [w64_in (by omega) (by omega)]; omega
  rw [this]; rfl
theorem e_bad (i : Nat) (hi : i < l.length) (e : eq6 l m i = false) : pick1 (sEqual_l29_st (eS l m i)).2 = some (.r, eS l m i) := by
  unfold sEqual_l29_st
  rw [e_s0, e_s1, e, decide_eq_true hi]; rfl
theorem e_end : pick1 (sEqual_l29_st (eS l m l.length)).2 = some (.e 0, eS l m l.length) := by
  unfold sEqual_l29_st
  rw [e_s0, decide_eq_false (Nat.lt_irrefl _)]; rfl
include hm in
theorem e_obs (i : Nat) : Alls (sEqual_l29_st (eS l m i)).1 := by
  unfold sEqual_l29_st
  rw [e_s0]
  refine ⟨fun g => ⟨Int.natCast_nonneg i, Int.ofNat_lt.2 (of_decide_eq_true g)⟩, fun g => ⟨Int.natCast_nonneg i, ?_⟩, trivial⟩
  have := of_decide_eq_true g
  exact Int.ofNat_lt.2 (show i < m.length by omega)
include hL hm in
theorem sEq : (sEqual_0 l m = true ↔ ∀ i, i < l.length → eq6 l m i = true) ∧ lok sEqual_l29_st 18446744073709551616 (.mk false (Int.ofNat l.length) 0 l m) := by
  obtain ⟨k, a, b, c⟩ := first (fun i => eq6 l m i = true) l.length
  have hs : ∀ i, i < k → pick1 (sEqual_l29_st (eS l m i)).2 = some (.n, eS l m (i + 1)) := fun i hi => e_step hL i (by omega) (b i hi)
  have h0 : sEqual_s0 l m = false := by unfold sEqual_s0; rw [hm]; simp
  unfold sEqual_0 sEqual_s1
  rw [h0]
  show ((bif false then false else bif isX X.r (lrun sEqual_l29_st 18446744073709551616 (eS l m 0)) then (V.valOf (lrun sEqual_l29_st 18446744073709551616 (eS l m 0))).a0 else true) = true ↔ _) ∧ lok sEqual_l29_st 18446744073709551616 (eS l m 0)
  by_cases hk : k = l.length
  · subst hk
    rw [lx_run (s := eS l m) hs e_end nofun (by omega)]
    exact ⟨⟨fun _ => b, fun _ => rfl⟩, lx_lok (s := eS l m) hs e_end nofun (fun i _ => e_obs hm i) (by omega)⟩
  · have hn : eq6 l m k = false := by
      have := c.resolve_left hk
      cases hh : eq6 l m k
      · rfl
      · exact absurd hh this
    rw [lx_run (s := eS l m) hs (e_bad k (by omega) hn) nofun (by omega)]
    refine ⟨⟨fun h => (by cases h), fun h => ?_⟩, lx_lok (s := eS l m) hs (e_bad k (by omega) hn) nofun (fun i _ => e_obs hm i) (by omega)⟩
    rw [h k (by omega)] at hn; cases hn
end

/-- A picture that may be one: its pixels. -/
def Gd (w h : Nat) (l : List (List Int)) : Prop := l.length = w * h ∧ ∀ i, i < w * h → dOK l i

theorem rget_lset_ne {l : List (List Int)} {i k j : Nat} (p : List Int) (h : i ≠ k) : rget (l.set k p) i j = rget l i j := by
  have e : (l.set k p).getD i [] = l.getD i [] := by
    simp only [List.getD_eq_getElem?_getD, List.getElem?_set_ne (Ne.symm h)]
  unfold rget
  rw [e]
theorem rget_lset_eq {l : List (List Int)} {k j : Nat} (p : List Int) (h : k < l.length) : rget (l.set k p) k j = p.getD j 0 := by
  unfold rget
  rw [List.getD_eq_getElem?_getD (l := List.set _ _ _), List.getElem?_set_self h]; rfl

theorem Gd_set {w h : Nat} {l : List (List Int)} (g : Gd w h l) (k : Nat) {p0 p1 p2 p3 p4 p5 : Int} (d0 : 0 ≤ p4) (d1 : p4 ≤ 65535) : Gd w h (l.set k [p0, p1, p2, p3, p4, p5]) := by
  refine ⟨by rw [List.length_set]; exact g.1, fun i hi => ?_⟩
  unfold dOK
  by_cases e : i = k
  · subst e
    rw [rget_lset_eq _ (by rw [g.1]; exact hi)]
    exact ⟨d0, d1⟩
  · rw [rget_lset_ne _ e]
    exact g.2 i hi

section
variable {w h : Nat} (ww : 1 ≤ w) (w1 : w ≤ 64) (hh : 1 ≤ h) (h1 : h ≤ 64) {sw sh : Int} {ns : Nat} {s : List (List Int)} (hd : ∀ i, 0 ≤ rget s i 4 ∧ rget s i 4 ≤ 65535) (n0 : ns ≤ 1000)

def zI (w h : Nat) (sw sh : Int) (ns : Nat) (s : List (List Int)) (y x : Nat) (v : fSized_l7475_T) : Prop := ∃ l, Gd w h l ∧ v = .mk (w : Int) (y : Int) (h : Int) (y : Int) true (w : Int) (x : Int) sw sh ns s 0 0 (w : Int) (h : Int) l
def zO (w h : Nat) (sw sh : Int) (ns : Nat) (s : List (List Int)) (y : Nat) (v : fSized_l29_T) : Prop := ∃ l, Gd w h l ∧ v = .mk (w : Int) (h : Int) (y : Int) sw sh ns s 0 0 (w : Int) (h : Int) l

include w1 h1 hd in
theorem z_step (y : Nat) : ∀ x v, x < w → zI w h sw sh ns s y x v → ∃ v', pick1 (fSized_l7475_st v).2 = some (.n, v') ∧ zI w h sw sh ns s y (x + 1) v' := by
  rintro x v hx ⟨l, g, rfl⟩
  have e0 : fSized_l7475_s0 (.mk (w : Int) (y : Int) (h : Int) (y : Int) true (w : Int) (x : Int) sw sh ns s 0 0 (w : Int) (h : Int) l) = true := by
    unfold fSized_l7475_s0
    exact decide_eq_true (Int.ofNat_lt.2 hx)
  have e1 : IntKind.wrap .i64 ((x : Int) + 1) = ((x + 1 : Nat) : Int) := by
    rw [w64_in (by omega) (by omega)]; omega
  unfold fSized_l7475_st
  rw [e0]
  refine ⟨_, rfl, ?_⟩
  refine ⟨_, ?_, by rw [show IntKind.wrap .i64 ((fSized_l7475_T.mk (w : Int) (y : Int) (h : Int) (y : Int) true (w : Int) (x : Int) sw sh ns s 0 0 (w : Int) (h : Int) l).a6 + 1) = ((x + 1 : Nat) : Int) from e1]⟩
  cases fSized_l7475_s1 _
  · exact g
  · show Gd w h (fSet_0 (w : Int) (h : Int) (x : Int) (y : Int) _ _ _ _ _ _ l)
    rw [set_eq w1 h1 g.1]
    cases inn w h (x : Int) (y : Int)
    · exact g
    · refine Gd_set g _ ?_ ?_
      · rw [w64_in (by have := (hd (0 + Int.toNat (fSized_l7475_s2 (.mk (w : Int) (y : Int) (h : Int) (y : Int) true (w : Int) (x : Int) sw sh ns s 0 0 (w : Int) (h : Int) l)))).1; exact Int.le_trans (by decide) this) (by have := (hd (0 + Int.toNat (fSized_l7475_s2 (.mk (w : Int) (y : Int) (h : Int) (y : Int) true (w : Int) (x : Int) sw sh ns s 0 0 (w : Int) (h : Int) l)))).2; exact Int.le_trans this (by decide))]
        exact (hd _).1
      · rw [w64_in (by have := (hd (0 + Int.toNat (fSized_l7475_s2 (.mk (w : Int) (y : Int) (h : Int) (y : Int) true (w : Int) (x : Int) sw sh ns s 0 0 (w : Int) (h : Int) l)))).1; exact Int.le_trans (by decide) this) (by have := (hd (0 + Int.toNat (fSized_l7475_s2 (.mk (w : Int) (y : Int) (h : Int) (y : Int) true (w : Int) (x : Int) sw sh ns s 0 0 (w : Int) (h : Int) l)))).2; exact Int.le_trans this (by decide))]
        exact (hd _).2
theorem z_end (y : Nat) : ∀ v, zI w h sw sh ns s y w v → pick1 (fSized_l7475_st v).2 = some (.e 2, v) := by
  rintro v ⟨l, g, rfl⟩
  have e0 : fSized_l7475_s0 (.mk (w : Int) (y : Int) (h : Int) (y : Int) true (w : Int) (w : Int) sw sh ns s 0 0 (w : Int) (h : Int) l) = false := by
    unfold fSized_l7475_s0
    exact decide_eq_false (Int.lt_irrefl _)
  unfold fSized_l7475_st
  rw [e0]; rfl
include w1 h1 in
theorem z_obs {y : Nat} (hy : y < h) : ∀ x v, x ≤ w → zI w h sw sh ns s y x v → Alls (fSized_l7475_st v).1 := by
  rintro x v hx ⟨l, g, rfl⟩
  have hyw : y * w ≤ 63 * 64 := Nat.mul_le_mul (by omega) (by omega)
  have c1 : (y : Int) * (w : Int) = ((y * w : Nat) : Int) := by simp
  have e2 : fSized_l7475_s2 (.mk (w : Int) (y : Int) (h : Int) (y : Int) true (w : Int) (x : Int) sw sh ns s 0 0 (w : Int) (h : Int) l) = Int.tmod ((y * w + x : Nat) : Int) (ns : Int) := by
    unfold fSized_l7475_s2
    show Int.tmod (IntKind.wrap .i64 (IntKind.wrap .i64 ((y : Int) * (w : Int)) + (x : Int))) (ns : Int) = _
    rw [c1, w64_in (n := ((y * w : Nat) : Int)) (by omega) (by omega), w64_in (by omega) (by omega)]; rfl
  refine ⟨fun _ g1 => ?_, fun _ g1 => ?_, fun _ _ g2 => set_ob w1 h1 g.1 g2, trivial⟩
  · have : (0 : Int) < (ns : Int) := of_decide_eq_true g1
    show (ns : Int) ≠ 0
    omega
  · have : (0 : Int) < (ns : Int) := of_decide_eq_true g1
    rw [e2, Int.tmod_eq_emod_of_nonneg (by omega)]
    exact ⟨Int.emod_nonneg _ (by omega), Int.emod_lt_of_pos _ this⟩
include w1 h1 hd in
theorem z_in {y : Nat} (hy : y < h) {v : fSized_l7475_T} (hv : zI w h sw sh ns s y 0 v) : (∃ v', lrun fSized_l7475_st 18446744073709551616 v = some (.e 2, v') ∧ zI w h sw sh ns s y w v') ∧ lok fSized_l7475_st 18446744073709551616 v :=
  inv_run (I := zI w h sw sh ns s y) (x := .e 2) nofun (z_step w1 h1 hd y) (z_end y) (z_obs w1 h1 hy) w 0 v (by omega) hv _ (by omega)

theorem zo_s0 {y : Nat} {l : List (List Int)} : fSized_l29_s0 (.mk (w : Int) (h : Int) (y : Int) sw sh ns s 0 0 (w : Int) (h : Int) l) = decide (y < h) := by
  unfold fSized_l29_s0
  exact decide_eq_decide.2 Int.ofNat_lt
include w1 h1 hd in
theorem zo_step : ∀ y v, y < h → zO w h sw sh ns s y v → ∃ v', pick1 (fSized_l29_st v).2 = some (.n, v') ∧ zO w h sw sh ns s (y + 1) v' := by
  rintro y v hy ⟨l, g, rfl⟩
  obtain ⟨⟨v', r, l', g', e'⟩, _⟩ := z_in (sw := sw) (sh := sh) (ns := ns) w1 h1 hd hy ⟨l, g, rfl⟩
  have e1 : fSized_l29_s1 (.mk (w : Int) (h : Int) (y : Int) sw sh ns s 0 0 (w : Int) (h : Int) l) = some (.e 2, v') := by
    unfold fSized_l29_s1
    rw [zo_s0, decide_eq_true hy]
    exact r
  unfold fSized_l29_st
  rw [zo_s0, decide_eq_true hy, e1]
  subst e'
  refine ⟨_, rfl, l', g', ?_⟩
  have e2 : IntKind.wrap .i64 ((y : Int) + 1) = ((y + 1 : Nat) : Int) := by
    rw [w64_in (by omega) (by omega)]; omega
  rw [← e2]; rfl
theorem zo_end : ∀ v, zO w h sw sh ns s h v → pick1 (fSized_l29_st v).2 = some (.e 0, v) := by
  rintro v ⟨l, g, rfl⟩
  unfold fSized_l29_st
  rw [zo_s0, decide_eq_false (Nat.lt_irrefl _)]; rfl
include w1 h1 hd in
theorem zo_obs : ∀ y v, y ≤ h → zO w h sw sh ns s y v → Alls (fSized_l29_st v).1 := by
  rintro y v hy ⟨l, g, rfl⟩
  unfold fSized_l29_st
  rw [zo_s0]
  refine ⟨fun k => ?_, trivial⟩
  rw [k]
  exact (z_in w1 h1 hd (of_decide_eq_true k) ⟨l, g, rfl⟩).2
end

theorem cl_in {x : Int} (a : 1 ≤ x) (b : x ≤ 64) : (cl x : Int) = x := by
  unfold cl; split <;> split at * <;> omega

theorem sized {x1 x2 : Int} (a1 : 1 ≤ x1) (b1 : x1 ≤ 64) (a2 : 1 ≤ x2) (b2 : x2 ≤ 64) (sw sh : Int) (ns : Nat) {s : List (List Int)} (hd : ∀ i, 0 ≤ rget s i 4 ∧ rget s i 4 ≤ 65535) :
    (fSized_0 sw sh ns x1 x2 s = (cl x1 : Int) ∧ fSized_1 sw sh ns x1 x2 s = (cl x2 : Int) ∧ Gd (cl x1) (cl x2) (fSized_2 sw sh ns x1 x2 s)) ∧ lok fSized_l29_st 18446744073709551616 (.mk x1 x2 0 sw sh ns s 0 0 (fNew_s2 x1) (fNew_s5 x2) (fNew_0 x1 x2 0 0 0 0 65535 0)) := by
  have e : fSized_l29_T.mk x1 x2 0 sw sh ns s 0 0 (fNew_s2 x1) (fNew_s5 x2) (fNew_0 x1 x2 0 0 0 0 65535 0) = .mk (cl x1 : Int) (cl x2 : Int) ((0 : Nat) : Int) sw sh ns s 0 0 (cl x1 : Int) (cl x2 : Int) (List.replicate (cl x1 * cl x2) [0, 0, 0, 0, 65535, 0]) := by
    rw [n_s2, n_s5, new_eq, cl_in a1 b1, cl_in a2 b2]; rfl
  have g : Gd (cl x1) (cl x2) (List.replicate (cl x1 * cl x2) [0, 0, 0, 0, 65535, 0]) := by
    refine ⟨by rw [List.length_replicate], fun i hi => ?_⟩
    unfold dOK
    rw [rget_rep hi]
    exact ⟨by decide, by decide⟩
  obtain ⟨⟨v', r, l', g', e'⟩, k⟩ := inv_run (I := zO (cl x1) (cl x2) sw sh ns s) (x := .e 0) nofun (zo_step (cl_64 x1) (cl_64 x2) hd) zo_end (zo_obs (cl_64 x1) (cl_64 x2) hd) (cl x2) 0 _ (by omega) ⟨_, g, rfl⟩ 18446744073709551616 (by have := cl_64 x2; omega)
  refine ⟨⟨?_, ?_, ?_⟩, by rw [e]; exact k⟩
  · unfold fSized_0; rw [e, r, e']; rfl
  · unfold fSized_1; rw [e, r, e']; rfl
  · unfold fSized_2; rw [e, r, e']; exact g'
end Go.Proofs.Ytcdejlgophpdjaa
