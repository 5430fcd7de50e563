/-
  Pictures that are the same; pictures by small numbers.
-/
import Derived.Test.YtcdejlgophpdjaaQTileStores4
section
namespace Go.Proofs.Ytcdejlgophpdjaa
open Go Go.RowKit Go.Proofs.Ytcdejlgophpdjaa.V
set_option linter.unusedVariables false
set_option linter.unusedSectionVars false

def eq6 (l m : List (List Int)) (i : Nat) : Bool := rget l i 0 == rget m i 0 && (rget l i 1 == rget m i 1 && (rget l i 2 == rget m i 2 && rget l i 3 == rget m i 3)) && (rget l i 4 == rget m i 4 && rget l i 5 == rget m i 5)
theorem eq6_iff {l m : List (List Int)} {i : Nat} : eq6 l m i = true ↔ ∀ j, j < 6 → rget l i j = rget m i j := by
  unfold eq6
  simp only [Bool.and_eq_true, beq_iff_eq]
  constructor
  · intro ⟨⟨a, b, c, d⟩, e, f⟩ j hj
    match j, hj with
    | 0, _ => exact a
    | 1, _ => exact b
    | 2, _ => exact c
    | 3, _ => exact d
    | 4, _ => exact e
    | 5, _ => exact f
  · intro h
    exact ⟨⟨h 0 (by omega), h 1 (by omega), h 2 (by omega), h 3 (by omega)⟩, h 4 (by omega), h 5 (by omega)⟩

section
variable {l m : List (List Int)} (hL : l.length ≤ 4096) (hm : m.length = l.length)
def eS (l m : List (List Int)) (i : Nat) : sEqual_l29_T := .mk false (Int.ofNat l.length) (i : Int) l m
theorem e_s0 (i : Nat) : sEqual_l29_s0 (eS l m i) = decide (i < l.length) := by
  unfold sEqual_l29_s0
  exact decide_eq_decide.2 Int.ofNat_lt
theorem e_s1 (i : Nat) : sEqual_l29_s1 (eS l m i) = !eq6 l m i := rfl
include hL in
theorem e_step (i : Nat) (hi : i < l.length) (e : eq6 l m i = true) : pick1 (sEqual_l29_st (eS l m i)).2 = some (.n, eS l m (i + 1)) := by
  unfold sEqual_l29_st
  rw [e_s0, e_s1, e, decide_eq_true hi]
  have : IntKind.wrap .i64 ((eS l m i).a2 + 1) = ((i + 1 : Nat) : Int) := by
    show IntKind.wrap .i64 ((i : Int) + 1) = _
    rw [w64_in (by omega) (by omega)]; omega
  rw [this]; rfl
theorem e_bad (i : Nat) (hi : i < l.length) (e : eq6 l m i = false) : pick1 (sEqual_l29_st (eS l m i)).2 = some (.r, eS l m i) := by
  unfold sEqual_l29_st
  rw [e_s0, e_s1, e, decide_eq_true hi]; rfl
theorem e_end : pick1 (sEqual_l29_st (eS l m l.length)).2 = some (.e 0, eS l m l.length) := by
  unfold sEqual_l29_st
  rw [e_s0, decide_eq_false (Nat.lt_irrefl _)]; rfl
include hm in
theorem e_obs (i : Nat) : Alls (sEqual_l29_st (eS l m i)).1 := by
  unfold sEqual_l29_st
  rw [e_s0]
  refine ⟨fun g => ⟨Int.natCast_nonneg i, Int.ofNat_lt.2 (of_decide_eq_true g)⟩, fun g => ⟨Int.natCast_nonneg i, ?_⟩, trivial⟩
  have := of_decide_eq_true g
  exact Int.ofNat_lt.2 (show i < m.length by omega)
include hL hm in
theorem sEq : (sEqual_0 l m = true ↔ ∀ i, i < l.length → eq6 l m i = true) ∧ lok sEqual_l29_st 18446744073709551616 (.mk false (Int.ofNat l.length) 0 l m) := by
  obtain ⟨k, a, b, c⟩ := first (fun i => eq6 l m i = true) l.length
  have hs : ∀ i, i < k → pick1 (sEqual_l29_st (eS l m i)).2 = some (.n, eS l m (i + 1)) := fun i hi => e_step hL i (by omega) (b i hi)
  have h0 : sEqual_s0 l m = false := by unfold sEqual_s0; rw [hm]; simp
  unfold sEqual_0 sEqual_s1
  rw [h0]
  show ((bif false then false else bif isX X.r (lrun sEqual_l29_st 18446744073709551616 (eS l m 0)) then (V.valOf (lrun sEqual_l29_st 18446744073709551616 (eS l m 0))).a0 else true) = true ↔ _) ∧ lok sEqual_l29_st 18446744073709551616 (eS l m 0)
  by_cases hk : k = l.length
  · subst hk
    rw [lx_run (s := eS l m) hs e_end nofun (by omega)]
    exact ⟨⟨fun _ => b, fun _ => rfl⟩, lx_lok (s := eS l m) hs e_end nofun (fun i _ => e_obs hm i) (by omega)⟩
  · have hn : eq6 l m k = false := by
      have := c.resolve_left hk
      cases hh : eq6 l m k
      · rfl
      · exact absurd hh this
    rw [lx_run (s := eS l m) hs (e_bad k (by omega) hn) nofun (by omega)]
    refine ⟨⟨fun h => (by cases h), fun h => ?_⟩, lx_lok (s := eS l m) hs (e_bad k (by omega) hn) nofun (fun i _ => e_obs hm i) (by omega)⟩
    rw [h k (by omega)] at hn; cases hn
end

/-- A picture that may be one: its pixels. -/
def Gd (w h : Nat) (l : List (List Int)) : Prop := l.length = w * h ∧ ∀ i, i < w * h → dOK l i

theorem rget_lset_ne {l : List (List Int)} {i k j : Nat} (p : List Int) (h : i ≠ k) : rget (l.set k p) i j = rget l i j := by
  have e : (l.set k p).getD i [] = l.getD i [] := by
    simp only [List.getD_eq_getElem?_getD, List.getElem?_set_ne (Ne.symm h)]
  unfold rget
  rw [e]
theorem rget_lset_eq {l : List (List Int)} {k j : Nat} (p : List Int) (h : k < l.length) : rget (l.set k p) k j = p.getD j 0 := by
  unfold rget
  rw [List.getD_eq_getElem?_getD (l := List.set _ _ _), List.getElem?_set_self h]; rfl

theorem Gd_set {w h : Nat} {l : List (List Int)} (g : Gd w h l) (k : Nat) {p0 p1 p2 p3 p4 p5 : Int} (d0 : 0 ≤ p4) (d1 : p4 ≤ 65535) : Gd w h (l.set k [p0, p1, p2, p3, p4, p5]) := by
  refine ⟨by rw [List.length_set]; exact g.1, fun i hi => ?_⟩
  unfold dOK
  by_cases e : i = k
  · subst e
    rw [rget_lset_eq _ (by rw [g.1]; exact hi)]
    exact ⟨d0, d1⟩
  · rw [rget_lset_ne _ e]
    exact g.2 i hi

section
variable {w h : Nat} (ww : 1 ≤ w) (w1 : w ≤ 64) (hh : 1 ≤ h) (h1 : h ≤ 64) {sw sh : Int} {ns : Nat} {s : List (List Int)} (hd : ∀ i, 0 ≤ rget s i 4 ∧ rget s i 4 ≤ 65535) (n0 : ns ≤ 1000)

def zI (w h : Nat) (sw sh : Int) (ns : Nat) (s : List (List Int)) (y x : Nat) (v : fSized_l7475_T) : Prop := ∃ l, Gd w h l ∧ v = .mk (w : Int) (y : Int) (h : Int) (y : Int) true (w : Int) (x : Int) sw sh ns s 0 0 (w : Int) (h : Int) l
def zO (w h : Nat) (sw sh : Int) (ns : Nat) (s : List (List Int)) (y : Nat) (v : fSized_l29_T) : Prop := ∃ l, Gd w h l ∧ v = .mk (w : Int) (h : Int) (y : Int) sw sh ns s 0 0 (w : Int) (h : Int) l

include w1 h1 hd in
theorem z_step (y : Nat) : ∀ x v, x < w → zI w h sw sh ns s y x v → ∃ v', pick1 (fSized_l7475_st v).2 = some (.n, v') ∧ zI w h sw sh ns s y (x + 1) v' := by
  rintro x v hx ⟨l, g, rfl⟩
  have e0 : fSized_l7475_s0 (.mk (w : Int) (y : Int) (h : Int) (y : Int) true (w : Int) (x : Int) sw sh ns s 0 0 (w : Int) (h : Int) l) = true := by
    unfold fSized_l7475_s0
    exact decide_eq_true (Int.ofNat_lt.2 hx)
  have e1 : IntKind.wrap .i64 ((x : Int) + 1) = ((x + 1 : Nat) : Int) := by
    rw [w64_in (by omega) (by omega)]; omega
  unfold fSized_l7475_st
  rw [e0]
  refine ⟨_, rfl, ?_⟩
  refine ⟨_, ?_, by rw [show IntKind.wrap .i64 ((fSized_l7475_T.mk (w : Int) (y : Int) (h : Int) (y : Int) true (w : Int) (x : Int) sw sh ns s 0 0 (w : Int) (h : Int) l).a6 + 1) = ((x + 1 : Nat) : Int) from e1]⟩
  cases fSized_l7475_s1 _
  · exact g
  · show Gd w h (fSet_0 (w : Int) (h : Int) (x : Int) (y : Int) _ _ _ _ _ _ l)
    rw [set_eq w1 h1 g.1]
    cases inn w h (x : Int) (y : Int)
    · exact g
    · refine Gd_set g _ ?_ ?_
      · rw [w64_in (by have := (hd (0 + Int.toNat (fSized_l7475_s2 (.mk (w : Int) (y : Int) (h : Int) (y : Int) true (w : Int) (x : Int) sw sh ns s 0 0 (w : Int) (h : Int) l)))).1; exact Int.le_trans (by decide) this) (by have := (hd (0 + Int.toNat (fSized_l7475_s2 (.mk (w : Int) (y : Int) (h : Int) (y : Int) true (w : Int) (x : Int) sw sh ns s 0 0 (w : Int) (h : Int) l)))).2; exact Int.le_trans this (by decide))]
        exact (hd _).1
      · rw [w64_in (by have := (hd (0 + Int.toNat (fSized_l7475_s2 (.mk (w : Int) (y : Int) (h : Int) (y : Int) true (w : Int) (x : Int) sw sh ns s 0 0 (w : Int) (h : Int) l)))).1; exact Int.le_trans (by decide) this) (by have := (hd (0 + Int.toNat (fSized_l7475_s2 (.mk (w : Int) (y : Int) (h : Int) (y : Int) true (w : Int) (x : Int) sw sh ns s 0 0 (w : Int) (h : Int) l)))).2; exact Int.le_trans this (by decide))]
        exact (hd _).2
theorem z_end (y : Nat) : ∀ v, zI w h sw sh ns s y w v → pick1 (fSized_l7475_st v).2 = some (.e 2, v) := by
  rintro v ⟨l, g, rfl⟩
  have e0 : fSized_l7475_s0 (.mk (w : Int) (y : Int) (h : Int) (y : Int) true (w : Int) (w : Int) sw sh ns s 0 0 (w : Int) (h : Int) l) = false := by
    unfold fSized_l7475_s0
    exact decide_eq_false (Int.lt_irrefl _)
  unfold fSized_l7475_st
  rw [e0]; rfl
include w1 h1 in
theorem z_obs {y : Nat} (hy : y < h) : ∀ x v, x ≤ w → zI w h sw sh ns s y x v → Alls (fSized_l7475_st v).1 := by
  rintro x v hx ⟨l, g, rfl⟩
  have hyw : y * w ≤ 63 * 64 := Nat.mul_le_mul (by omega) (by omega)
  have c1 : (y : Int) * (w : Int) = ((y * w : Nat) : Int) := by simp
  have e2 : fSized_l7475_s2 (.mk (w : Int) (y : Int) (h : Int) (y : Int) true (w : Int) (x : Int) sw sh ns s 0 0 (w : Int) (h : Int) l) = Int.tmod ((y * w + x : Nat) : Int) (ns : Int) := by
    unfold fSized_l7475_s2
    show Int.tmod (IntKind.wrap .i64 (IntKind.wrap .i64 ((y : Int) * (w : Int)) + (x : Int))) (ns : Int) = _
    rw [c1, w64_in (n := ((y * w : Nat) : Int)) (by omega) (by omega), w64_in (by omega) (by omega)]; rfl
  refine ⟨fun _ g1 => ?_, fun _ g1 => ?_, fun _ _ g2 => set_ob w1 h1 g.1 g2, trivial⟩
  · have : (0 : Int) < (ns : Int) := of_decide_eq_true g1
    show (ns : Int) ≠ 0
    omega
  · have : (0 : Int) < (ns : Int) := of_decide_eq_true g1
    rw [e2, Int.tmod_eq_emod_of_nonneg (by omega)]
    exact ⟨Int.emod_nonneg _ (by omega), Int.emod_lt_of_pos _ this⟩
include w1 h1 hd in
theorem z_in {y : Nat} (hy : y < h) {v : fSized_l7475_T} (hv : zI w h sw sh ns s y 0 v) : (∃ v', lrun fSized_l7475_st 18446744073709551616 v = some (.e 2, v') ∧ zI w h sw sh ns s y w v') ∧ lok fSized_l7475_st 18446744073709551616 v :=
  inv_run (I := zI w h sw sh ns s y) (x := .e 2) nofun (z_step w1 h1 hd y) (z_end y) (z_obs w1 h1 hy) w 0 v (by omega) hv _ (by omega)

theorem zo_s0 {y : Nat} {l : List (List Int)} : fSized_l29_s0 (.mk (w : Int) (h : Int) (y : Int) sw sh ns s 0 0 (w : Int) (h : Int) l) = decide (y < h) := by
  unfold fSized_l29_s0
  exact decide_eq_decide.2 Int.ofNat_lt
include w1 h1 hd in
theorem zo_step : ∀ y v, y < h → zO w h sw sh ns s y v → ∃ v', pick1 (fSized_l29_st v).2 = some (.n, v') ∧ zO w h sw sh ns s (y + 1) v' := by
  rintro y v hy ⟨l, g, rfl⟩
  obtain ⟨⟨v', r, l', g', e'⟩, _⟩ := z_in (sw := sw) (sh := sh) (ns := ns) w1 h1 hd hy ⟨l, g, rfl⟩
  have e1 : fSized_l29_s1 (.mk (w : Int) (h : Int) (y : Int) sw sh ns s 0 0 (w : Int) (h : Int) l) = some (.e 2, v') := by
    unfold fSized_l29_s1
    rw [zo_s0, decide_eq_true hy]
    exact r
  unfold fSized_l29_st
  rw [zo_s0, decide_eq_true hy, e1]
  subst e'
  refine ⟨_, rfl, l', g', ?_⟩
  have e2 : IntKind.wrap .i64 ((y : Int) + 1) = ((y + 1 : Nat) : Int) := by
    rw [w64_in (by omega) (by omega)]; omega
  rw [← e2]; rfl
theorem zo_end : ∀ v, zO w h sw sh ns s h v → pick1 (fSized_l29_st v).2 = some (.e 0, v) := by
  rintro v ⟨l, g, rfl⟩
  unfold fSized_l29_st
  rw [zo_s0, decide_eq_false (Nat.lt_irrefl _)]; rfl
include w1 h1 hd in
theorem zo_obs : ∀ y v, y ≤ h → zO w h sw sh ns s y v → Alls (fSized_l29_st v).1 := by
  rintro y v hy ⟨l, g, rfl⟩
  unfold fSized_l29_st
  rw [zo_s0]
  refine ⟨fun k => ?_, trivial⟩
  rw [k]
  exact (z_in w1 h1 hd (of_decide_eq_true k) ⟨l, g, rfl⟩).2
end

theorem cl_in {x : Int} (a : 1 ≤ x) (b : x ≤ 64) : (cl x : Int) = x := by
  unfold cl; split <;> split at * <;> omega

theorem sized {x1 x2 : Int} (a1 : 1 ≤ x1) (b1 : x1 ≤ 64) (a2 : 1 ≤ x2) (b2 : x2 ≤ 64) (sw sh : Int) (ns : Nat) {s : List (List Int)} (hd : ∀ i, 0 ≤ rget s i 4 ∧ rget s i 4 ≤ 65535) :
    (fSized_0 sw sh ns x1 x2 s = (cl x1 : Int) ∧ fSized_1 sw sh ns x1 x2 s = (cl x2 : Int) ∧ Gd (cl x1) (cl x2) (fSized_2 sw sh ns x1 x2 s)) ∧ lok fSized_l29_st 18446744073709551616 (.mk x1 x2 0 sw sh ns s 0 0 (fNew_s2 x1) (fNew_s5 x2) (fNew_0 x1 x2 0 0 0 0 65535 0)) := by
  have e : fSized_l29_T.mk x1 x2 0 sw sh ns s 0 0 (fNew_s2 x1) (fNew_s5 x2) (fNew_0 x1 x2 0 0 0 0 65535 0) = .mk (cl x1 : Int) (cl x2 : Int) ((0 : Nat) : Int) sw sh ns s 0 0 (cl x1 : Int) (cl x2 : Int) (List.replicate (cl x1 * cl x2) [0, 0, 0, 0, 65535, 0]) := by
    rw [n_s2, n_s5, new_eq, cl_in a1 b1, cl_in a2 b2]; rfl
  have g : Gd (cl x1) (cl x2) (List.replicate (cl x1 * cl x2) [0, 0, 0, 0, 65535, 0]) := by
    refine ⟨by rw [List.length_replicate], fun i hi => ?_⟩
    unfold dOK
    rw [rget_rep hi]
    exact ⟨by decide, by decide⟩
  obtain ⟨⟨v', r, l', g', e'⟩, k⟩ := inv_run (I := zO (cl x1) (cl x2) sw sh ns s) (x := .e 0) nofun (zo_step (cl_64 x1) (cl_64 x2) hd) zo_end (zo_obs (cl_64 x1) (cl_64 x2) hd) (cl x2) 0 _ (by omega) ⟨_, g, rfl⟩ 18446744073709551616 (by have := cl_64 x2; omega)
  refine ⟨⟨?_, ?_, ?_⟩, by rw [e]; exact k⟩
  · unfold fSized_0; rw [e, r, e']; rfl
  · unfold fSized_1; rw [e, r, e']; rfl
  · unfold fSized_2; rw [e, r, e']; exact g'
end Go.Proofs.Ytcdejlgophpdjaa
end

section
namespace Go.Proofs.Ytcdejlgophpdjaa
open Go Go.RowKit Go.Proofs.Ytcdejlgophpdjaa.V
set_option linter.unusedVariables false

/-! azulejo/azulejolaw21.TileAll -/
noncomputable def lTilAl_l253_code : Go.Code := loopOf (subs (bodyOf Try.prog 14) 1 253)
structure lTilAl_l253_T where
  a0 : Bool
  a1 : Bool
  a2 : Int
  a3 : Int
  a4 : Int
  a5 : Int
  a6 : List (List Int)
  a7 : Int
  a8 : Int
  a9 : List (List Int)
  deriving Inhabited
def lTilAl_l253_hd (v : lTilAl_l253_T) : HS := HS.mk [(nat_lit 2, LV.a (At.bool true (lTilAl_l253_T.a0 v))), (nat_lit 6, LV.a (At.bool true (lTilAl_l253_T.a1 v))), (nat_lit 7, LV.a (At.ptr (nat_lit 0) (nat_lit 0))), (nat_lit 8, LV.a (At.ptr (nat_lit 2) (nat_lit 0))), (nat_lit 36, LV.a (At.int true IntKind.i64 (lTilAl_l253_T.a2 v))), (nat_lit 37, LV.a (At.int true IntKind.i64 (lTilAl_l253_T.a3 v)))] [BC.mk (Hd.mk (nat_lit 0) (nat_lit 3) true none) [some (At.int true IntKind.i64 (lTilAl_l253_T.a4 v)), some (At.int true IntKind.i64 (lTilAl_l253_T.a5 v)), some (At.vec (nat_lit 1) (nat_lit 0) (nat_lit 6))], BC.mk (Hd.mk (nat_lit 0) (nat_lit 0) true (some (Rw.mk (nat_lit 0) [Kd.int IntKind.u8, Kd.int IntKind.u8, Kd.int IntKind.u8, Kd.int IntKind.u8, Kd.int IntKind.i64, Kd.int IntKind.u8] (lTilAl_l253_T.a6 v) none))) [], BC.mk (Hd.mk (nat_lit 0) (nat_lit 3) true none) [some (At.int true IntKind.i64 (lTilAl_l253_T.a7 v)), some (At.int true IntKind.i64 (lTilAl_l253_T.a8 v)), some (At.vec (nat_lit 3) (nat_lit 0) (nat_lit 6))], BC.mk (Hd.mk (nat_lit 0) (nat_lit 0) false (some (Rw.mk (nat_lit 0) [Kd.int IntKind.u8, Kd.int IntKind.u8, Kd.int IntKind.u8, Kd.int IntKind.u8, Kd.int IntKind.i64, Kd.int IntKind.u8] (lTilAl_l253_T.a9 v) none))) []]
def lTilAl_l253_s0 (v : lTilAl_l253_T) : Bool := decide (lTilAl_l253_T.a3 v < lTilAl_l253_T.a2 v)
def lTilAl_l253_s1 (v : lTilAl_l253_T) : Int := bif lTilAl_l253_T.a0 v then IntKind.wrap IntKind.i64 (IntKind.wrap IntKind.i64 (bGTiles_0 (lTilAl_l253_T.a4 v) (lTilAl_l253_T.a5 v) - (1 : Int)) - lTilAl_l253_T.a3 v) else lTilAl_l253_T.a3 v
def lTilAl_l253_st (v : lTilAl_l253_T) : List Prop × List (X × Bool × lTilAl_l253_T) := ([lTilAl_l253_s0 v = true → (!bBox_s0 (lTilAl_l253_T.a4 v) (lTilAl_l253_T.a5 v) (lTilAl_l253_s1 v)) = true → bTiles_0 (lTilAl_l253_T.a4 v) ≠ (0 : Int), lTilAl_l253_s0 v = true → (!bBox_s0 (lTilAl_l253_T.a4 v) (lTilAl_l253_T.a5 v) (lTilAl_l253_s1 v)) = true → bTiles_0 (lTilAl_l253_T.a4 v) ≠ (0 : Int), lTilAl_l253_s0 v = true → (bBox_0 (lTilAl_l253_T.a4 v) (lTilAl_l253_T.a5 v) (lTilAl_l253_s1 v) == (0 : Int) && (bBox_1 (lTilAl_l253_T.a4 v) (lTilAl_l253_T.a5 v) (lTilAl_l253_s1 v) == (0 : Int) && (bBox_2 (lTilAl_l253_T.a4 v) (lTilAl_l253_T.a5 v) (lTilAl_l253_s1 v) == (0 : Int) && bBox_3 (lTilAl_l253_T.a4 v) (lTilAl_l253_T.a5 v) (lTilAl_l253_s1 v) == (0 : Int)))) = false, lTilAl_l253_s0 v = true → (!!tRt_0 (bBox_0 (lTilAl_l253_T.a4 v) (lTilAl_l253_T.a5 v) (lTilAl_l253_s1 v)) (bBox_1 (lTilAl_l253_T.a4 v) (lTilAl_l253_T.a5 v) (lTilAl_l253_s1 v)) (bBox_2 (lTilAl_l253_T.a4 v) (lTilAl_l253_T.a5 v) (lTilAl_l253_s1 v)) (bBox_3 (lTilAl_l253_T.a4 v) (lTilAl_l253_T.a5 v) (lTilAl_l253_s1 v))) = true → lok tEaL_l7_st (18446744073709551616 : Nat) (tEaL_l7_T.mk (bBox_1 (lTilAl_l253_T.a4 v) (lTilAl_l253_T.a5 v) (lTilAl_l253_s1 v)) tLd_s1 (bBox_0 (lTilAl_l253_T.a4 v) (lTilAl_l253_T.a5 v) (lTilAl_l253_s1 v)) (bBox_1 (lTilAl_l253_T.a4 v) (lTilAl_l253_T.a5 v) (lTilAl_l253_s1 v)) (bBox_2 (lTilAl_l253_T.a4 v) (lTilAl_l253_T.a5 v) (lTilAl_l253_s1 v)) (bBox_3 (lTilAl_l253_T.a4 v) (lTilAl_l253_T.a5 v) (lTilAl_l253_s1 v)) (lTilAl_l253_T.a4 v) (lTilAl_l253_T.a5 v) (lTilAl_l253_T.a6 v)), lTilAl_l253_s0 v = true → (!!tRt_0 (tLd_1 (lTilAl_l253_T.a4 v) (lTilAl_l253_T.a5 v) (lTilAl_l253_s1 v) (lTilAl_l253_T.a6 v)) (tLd_2 (lTilAl_l253_T.a4 v) (lTilAl_l253_T.a5 v) (lTilAl_l253_s1 v) (lTilAl_l253_T.a6 v)) (tLd_3 (lTilAl_l253_T.a4 v) (lTilAl_l253_T.a5 v) (lTilAl_l253_s1 v) (lTilAl_l253_T.a6 v)) (tLd_4 (lTilAl_l253_T.a4 v) (lTilAl_l253_T.a5 v) (lTilAl_l253_s1 v) (lTilAl_l253_T.a6 v))) = true → lok tEaS_l7_st (18446744073709551616 : Nat) (tEaS_l7_T.mk (tLd_2 (lTilAl_l253_T.a4 v) (lTilAl_l253_T.a5 v) (lTilAl_l253_s1 v) (lTilAl_l253_T.a6 v)) (tLd_0 (lTilAl_l253_T.a4 v) (lTilAl_l253_T.a5 v) (lTilAl_l253_s1 v) (lTilAl_l253_T.a6 v)) (tLd_1 (lTilAl_l253_T.a4 v) (lTilAl_l253_T.a5 v) (lTilAl_l253_s1 v) (lTilAl_l253_T.a6 v)) (tLd_2 (lTilAl_l253_T.a4 v) (lTilAl_l253_T.a5 v) (lTilAl_l253_s1 v) (lTilAl_l253_T.a6 v)) (tLd_3 (lTilAl_l253_T.a4 v) (lTilAl_l253_T.a5 v) (lTilAl_l253_s1 v) (lTilAl_l253_T.a6 v)) (tLd_4 (lTilAl_l253_T.a4 v) (lTilAl_l253_T.a5 v) (lTilAl_l253_s1 v) (lTilAl_l253_T.a6 v)) (lTilAl_l253_T.a7 v) (lTilAl_l253_T.a8 v) (lTilAl_l253_T.a9 v))], [(X.e (0 : Nat), !lTilAl_l253_s0 v, lTilAl_l253_T.mk (lTilAl_l253_T.a0 v) (lTilAl_l253_T.a1 v) (lTilAl_l253_T.a2 v) (lTilAl_l253_T.a3 v) (lTilAl_l253_T.a4 v) (lTilAl_l253_T.a5 v) (lTilAl_l253_T.a6 v) (lTilAl_l253_T.a7 v) (lTilAl_l253_T.a8 v) (lTilAl_l253_T.a9 v)), (X.n, lTilAl_l253_s0 v, lTilAl_l253_T.mk (lTilAl_l253_T.a0 v) (lTilAl_l253_T.a1 v) (lTilAl_l253_T.a2 v) (IntKind.wrap IntKind.i64 (lTilAl_l253_T.a3 v + (1 : Int))) (lTilAl_l253_T.a4 v) (lTilAl_l253_T.a5 v) (lTilAl_l253_T.a6 v) (lTilAl_l253_T.a7 v) (lTilAl_l253_T.a8 v) (tSt_0 (lTilAl_l253_T.a7 v) (lTilAl_l253_T.a8 v) (tLd_0 (lTilAl_l253_T.a4 v) (lTilAl_l253_T.a5 v) (lTilAl_l253_s1 v) (lTilAl_l253_T.a6 v)) (tLd_1 (lTilAl_l253_T.a4 v) (lTilAl_l253_T.a5 v) (lTilAl_l253_s1 v) (lTilAl_l253_T.a6 v)) (tLd_2 (lTilAl_l253_T.a4 v) (lTilAl_l253_T.a5 v) (lTilAl_l253_s1 v) (lTilAl_l253_T.a6 v)) (tLd_3 (lTilAl_l253_T.a4 v) (lTilAl_l253_T.a5 v) (lTilAl_l253_s1 v) (lTilAl_l253_T.a6 v)) (tLd_4 (lTilAl_l253_T.a4 v) (lTilAl_l253_T.a5 v) (lTilAl_l253_s1 v) (lTilAl_l253_T.a6 v)) (lTilAl_l253_T.a9 v)))])
def lTilAl_l253_rd : HS → Option lTilAl_l253_T
  | HS.mk [(2, LV.a (At.bool true a0)), (6, LV.a (At.bool true a1)), (7, LV.a (At.ptr 0 0)), (8, LV.a (At.ptr 2 0)), (36, LV.a (At.int true IntKind.i64 a2)), (37, LV.a (At.int true IntKind.i64 a3))] [BC.mk (Hd.mk 0 3 true none) [some (At.int true IntKind.i64 a4), some (At.int true IntKind.i64 a5), some (At.vec 1 0 6)], BC.mk (Hd.mk 0 0 true (some (Rw.mk 0 [Kd.int IntKind.u8, Kd.int IntKind.u8, Kd.int IntKind.u8, Kd.int IntKind.u8, Kd.int IntKind.i64, Kd.int IntKind.u8] a6 none))) [], BC.mk (Hd.mk 0 3 true none) [some (At.int true IntKind.i64 a7), some (At.int true IntKind.i64 a8), some (At.vec 3 0 6)], BC.mk (Hd.mk 0 0 false (some (Rw.mk 0 [Kd.int IntKind.u8, Kd.int IntKind.u8, Kd.int IntKind.u8, Kd.int IntKind.u8, Kd.int IntKind.i64, Kd.int IntKind.u8] a9 none))) []] => some (lTilAl_l253_T.mk a0 a1 a2 a3 a4 a5 a6 a7 a8 a9)
  | _ => none
def lTilAl_l253_sum : V.Sum := loopS lTilAl_l253_hd lTilAl_l253_rd lTilAl_l253_st 18446744073709551616 [X.e (0 : Nat)] [0, 1, 2, 3, 4, 6, 7, 8, 9, 10, 11, 13, 23, 36, 37, 38, 40, 54] [2, 6, 7, 8, 36, 37] [3] [] [] 0
theorem lTilAl_l253_E : ∀ v, bodyF Try.prog tabTa6 (ntOf Try.prog 14) [0, 1, 2, 3, 4, 6, 7, 8, 9, 10, 11, 13, 23, 36, 37, 38, 40, 54] [2, 6, 7, 8, 36, 37] [] 2000 [3] [] lTilAl_l253_code 1012 (lTilAl_l253_hd v) = some ((lTilAl_l253_st v).1, (lTilAl_l253_st v).2.map fun q => (q.1, q.2.1, lTilAl_l253_hd q.2.2)) := fun v => by kernel_rfl
set_option maxHeartbeats 2000000 in
theorem lTilAl_l253_R : ∀ h v, lTilAl_l253_rd h = some v → h = lTilAl_l253_hd v := by
  intro h v e
  unfold lTilAl_l253_rd at e
  split at e
  · simp only [Option.some.injEq] at e; subst e; rfl
  · cases e
set_option maxRecDepth 100000 in
theorem lTilAl_l253_sok : SumOK Try.prog (ntOf Try.prog 14) [0, 1, 2, 3, 4, 6, 7, 8, 9, 10, 11, 13, 23, 36, 37, 38, 40, 54] (.block (blockOf (subs (bodyOf Try.prog 14) 1 253)) (.loop lTilAl_l253_code)) lTilAl_l253_sum := loopS_ok tabTa6_ok follows lTilAl_l253_E lTilAl_l253_R (fun v => by kernel_rfl) (LOK_of _ _ (LOK_nil'))
def lTilAl_s0 (n0_2 : Nat) (n1_2 : Nat) : Bool := bif decide ((100 : Int) < Int.ofNat n0_2) then true else decide ((100 : Int) < Int.ofNat n1_2)
def lTilAl_s1 (x0_0 : Int) (x0_1 : Int) (n0_2 : Nat) (x1_0 : Int) (x1_1 : Int) (n1_2 : Nat) (y0_2 : List (List Int)) (y1_2 : List (List Int)) : Int := fSized_0 x1_0 x1_1 n1_2 (fSmF_0 x0_0 x0_1 n0_2 y0_2) (fSmF_1 x0_0 x0_1 n0_2 y0_2) y1_2
def lTilAl_s2 (x0_0 : Int) (x0_1 : Int) (n0_2 : Nat) (x1_0 : Int) (x1_1 : Int) (n1_2 : Nat) (y0_2 : List (List Int)) (y1_2 : List (List Int)) : Int := fSized_1 x1_0 x1_1 n1_2 (fSmF_0 x0_0 x0_1 n0_2 y0_2) (fSmF_1 x0_0 x0_1 n0_2 y0_2) y1_2
def lTilAl_s3 (x0_0 : Int) (x0_1 : Int) (n0_2 : Nat) (x1_0 : Int) (x1_1 : Int) (n1_2 : Nat) (x2 : Bool) (y0_2 : List (List Int)) (y1_2 : List (List Int)) : Option (X × lTilAl_l253_T) := lrun lTilAl_l253_st (18446744073709551616 : Nat) (lTilAl_l253_T.mk x2 false (bGTiles_0 (fSmF_0 x0_0 x0_1 n0_2 y0_2) (fSmF_1 x0_0 x0_1 n0_2 y0_2)) (0 : Int) (fSmF_0 x0_0 x0_1 n0_2 y0_2) (fSmF_1 x0_0 x0_1 n0_2 y0_2) (fSmF_2 x0_0 x0_1 n0_2 y0_2) (lTilAl_s1 x0_0 x0_1 n0_2 x1_0 x1_1 n1_2 y0_2 y1_2) (lTilAl_s2 x0_0 x0_1 n0_2 x1_0 x1_1 n1_2 y0_2 y1_2) (fSized_2 x1_0 x1_1 n1_2 (fSmF_0 x0_0 x0_1 n0_2 y0_2) (fSmF_1 x0_0 x0_1 n0_2 y0_2) y1_2))
def lTilAl_s4 (x0_0 : Int) (x0_1 : Int) (n0_2 : Nat) (x1_0 : Int) (x1_1 : Int) (n1_2 : Nat) (x2 : Bool) (y0_2 : List (List Int)) (y1_2 : List (List Int)) : List (List Int) := lTilAl_l253_T.a9 (V.valOf (lTilAl_s3 x0_0 x0_1 n0_2 x1_0 x1_1 n1_2 x2 y0_2 y1_2))
def lTilAl_0 (x0_0 : Int) (x0_1 : Int) (n0_2 : Nat) (x1_0 : Int) (x1_1 : Int) (n1_2 : Nat) (x2 : Bool) (y0_2 : List (List Int)) (y1_2 : List (List Int)) : Bool := bif !tAw_0 then false else bif lTilAl_s0 n0_2 n1_2 then true else fSame_0 (fSmF_0 x0_0 x0_1 n0_2 y0_2) (fSmF_1 x0_0 x0_1 n0_2 y0_2) (lTilAl_s1 x0_0 x0_1 n0_2 x1_0 x1_1 n1_2 y0_2 y1_2) (lTilAl_s2 x0_0 x0_1 n0_2 x1_0 x1_1 n1_2 y0_2 y1_2) (fSmF_2 x0_0 x0_1 n0_2 y0_2) (lTilAl_s4 x0_0 x0_1 n0_2 x1_0 x1_1 n1_2 x2 y0_2 y1_2)
def lTilAl_s5 : List (List Int) := sRep_s0 (0 : Int) (0 : Int) (0 : Int) (0 : Int) (65535 : Int) (0 : Int)
def lTilAl_s6 (x0_0 : Int) (x0_1 : Int) (n0_2 : Nat) (y0_2 : List (List Int)) : Int := sRep_s1 (fNew_s6 (fSmF_0 x0_0 x0_1 n0_2 y0_2) (fSmF_1 x0_0 x0_1 n0_2 y0_2))
def lTilAl_s7 (x0_0 : Int) (x0_1 : Int) (n0_2 : Nat) (y0_2 : List (List Int)) : List (List Int) := sRep_s2 (fNew_s6 (fSmF_0 x0_0 x0_1 n0_2 y0_2) (fSmF_1 x0_0 x0_1 n0_2 y0_2))
def lTilAl_o (x0_0 : Int) (x0_1 : Int) (n0_2 : Nat) (x1_0 : Int) (x1_1 : Int) (n1_2 : Nat) (x2 : Bool) (y0_2 : List (List Int)) (y1_2 : List (List Int)) : List Prop := [decide (fNew_s6 (3 : Int) (2 : Int) < (0 : Int)) = false, (bif decide ((0 : Int) < tAw_s1) then true else decide ((9223372036854775807 : Int) < tAw_s2)) = false, (0 : Int) ≤ IntKind.wrap IntKind.i64 tAw_s2 ∧ IntKind.wrap IntKind.i64 tAw_s2 = IntKind.wrap IntKind.i64 tAw_s2 ∧ IntKind.wrap IntKind.i64 tAw_s2 * Int.ofNat (24 : Nat) ≤ (70368744177664 : Int), lok sRep_l254_st (18446744073709551616 : Nat) (sRep_l254_T.mk (Int.ofNat (sRep_s3 (fNew_s6 (3 : Int) (2 : Int)) (0 : Int) (0 : Int) (0 : Int) (0 : Int) (5 : Int) (0 : Int))) (List.take (0 : Nat) tAw_s3 ++ List.take (6 : Nat) (sRep_s0 (0 : Int) (0 : Int) (0 : Int) (0 : Int) (5 : Int) (0 : Int)) ++ List.drop (1 : Nat) tAw_s3)), (!bBox_s0 (fNew_s2 (3 : Int)) (fNew_s5 (2 : Int)) (0 : Int)) = true → bTiles_0 (fNew_s2 (3 : Int)) ≠ (0 : Int), (!bBox_s0 (fNew_s2 (3 : Int)) (fNew_s5 (2 : Int)) (0 : Int)) = true → bTiles_0 (fNew_s2 (3 : Int)) ≠ (0 : Int), (tAw_s4 == (0 : Int) && (tAw_s5 == (0 : Int) && (tAw_s6 == (0 : Int) && tAw_s7 == (0 : Int)))) = false, (!!tRt_0 tAw_s4 tAw_s5 tAw_s6 tAw_s7) = true → lok tEaL_l7_st (18446744073709551616 : Nat) (tEaL_l7_T.mk tAw_s5 tLd_s1 tAw_s4 tAw_s5 tAw_s6 tAw_s7 (fNew_s2 (3 : Int)) (fNew_s5 (2 : Int)) tAw_s0), (!bBox_s0 (fNew_s2 (3 : Int)) (fNew_s5 (2 : Int)) (1 : Int)) = true → bTiles_0 (fNew_s2 (3 : Int)) ≠ (0 : Int), (!bBox_s0 (fNew_s2 (3 : Int)) (fNew_s5 (2 : Int)) (1 : Int)) = true → bTiles_0 (fNew_s2 (3 : Int)) ≠ (0 : Int), (bBox_0 (fNew_s2 (3 : Int)) (fNew_s5 (2 : Int)) (1 : Int) == (0 : Int) && (bBox_1 (fNew_s2 (3 : Int)) (fNew_s5 (2 : Int)) (1 : Int) == (0 : Int) && (bBox_2 (fNew_s2 (3 : Int)) (fNew_s5 (2 : Int)) (1 : Int) == (0 : Int) && bBox_3 (fNew_s2 (3 : Int)) (fNew_s5 (2 : Int)) (1 : Int) == (0 : Int)))) = true, (!!tAw_0) = true → (!lTilAl_s0 n0_2 n1_2) = true → decide (fNew_s6 (fSmF_s0 x0_0) (fSmF_s1 x0_1) < (0 : Int)) = false, (!!tAw_0) = true → (!lTilAl_s0 n0_2 n1_2) = true → (bif decide ((0 : Int) < fSized_s0 (fSmF_s0 x0_0) (fSmF_s1 x0_1)) then true else decide ((9223372036854775807 : Int) < sRep_s1 (fNew_s6 (fSmF_s0 x0_0) (fSmF_s1 x0_1)))) = false, (!!tAw_0) = true → (!lTilAl_s0 n0_2 n1_2) = true → (0 : Int) ≤ IntKind.wrap IntKind.i64 (sRep_s1 (fNew_s6 (fSmF_s0 x0_0) (fSmF_s1 x0_1))) ∧ IntKind.wrap IntKind.i64 (sRep_s1 (fNew_s6 (fSmF_s0 x0_0) (fSmF_s1 x0_1))) = IntKind.wrap IntKind.i64 (sRep_s1 (fNew_s6 (fSmF_s0 x0_0) (fSmF_s1 x0_1))) ∧ IntKind.wrap IntKind.i64 (sRep_s1 (fNew_s6 (fSmF_s0 x0_0) (fSmF_s1 x0_1))) * Int.ofNat (24 : Nat) ≤ (70368744177664 : Int), (!!tAw_0) = true → (!lTilAl_s0 n0_2 n1_2) = true → lok sRep_l254_st (18446744073709551616 : Nat) (sRep_l254_T.mk (Int.ofNat (fSized_s1 (fSmF_s0 x0_0) (fSmF_s1 x0_1))) (List.take (0 : Nat) (sRep_s2 (fNew_s6 (fSmF_s0 x0_0) (fSmF_s1 x0_1))) ++ List.take (List.length (sRep_s2 (fNew_s6 (fSmF_s0 x0_0) (fSmF_s1 x0_1)))) lTilAl_s5 ++ List.drop ((0 : Nat) + fSized_s1 (fSmF_s0 x0_0) (fSmF_s1 x0_1)) (sRep_s2 (fNew_s6 (fSmF_s0 x0_0) (fSmF_s1 x0_1))))), (!!tAw_0) = true → (!lTilAl_s0 n0_2 n1_2) = true → lok fSized_l29_st (18446744073709551616 : Nat) (fSized_l29_T.mk (fSmF_s0 x0_0) (fSmF_s1 x0_1) (0 : Int) x0_0 x0_1 n0_2 y0_2 (0 : Int) (0 : Int) (fNew_s2 (fSmF_s0 x0_0)) (fNew_s5 (fSmF_s1 x0_1)) (fNew_0 (fSmF_s0 x0_0) (fSmF_s1 x0_1) (0 : Int) (0 : Int) (0 : Int) (0 : Int) (65535 : Int) (0 : Int))), (!!tAw_0) = true → (!lTilAl_s0 n0_2 n1_2) = true → decide (fNew_s6 (fSmF_0 x0_0 x0_1 n0_2 y0_2) (fSmF_1 x0_0 x0_1 n0_2 y0_2) < (0 : Int)) = false, (!!tAw_0) = true → (!lTilAl_s0 n0_2 n1_2) = true → (bif decide ((0 : Int) < fSized_s0 (fSmF_0 x0_0 x0_1 n0_2 y0_2) (fSmF_1 x0_0 x0_1 n0_2 y0_2)) then true else decide ((9223372036854775807 : Int) < lTilAl_s6 x0_0 x0_1 n0_2 y0_2)) = false, (!!tAw_0) = true → (!lTilAl_s0 n0_2 n1_2) = true → (0 : Int) ≤ IntKind.wrap IntKind.i64 (lTilAl_s6 x0_0 x0_1 n0_2 y0_2) ∧ IntKind.wrap IntKind.i64 (lTilAl_s6 x0_0 x0_1 n0_2 y0_2) = IntKind.wrap IntKind.i64 (lTilAl_s6 x0_0 x0_1 n0_2 y0_2) ∧ IntKind.wrap IntKind.i64 (lTilAl_s6 x0_0 x0_1 n0_2 y0_2) * Int.ofNat (24 : Nat) ≤ (70368744177664 : Int), (!!tAw_0) = true → (!lTilAl_s0 n0_2 n1_2) = true → lok sRep_l254_st (18446744073709551616 : Nat) (sRep_l254_T.mk (Int.ofNat (fSized_s1 (fSmF_0 x0_0 x0_1 n0_2 y0_2) (fSmF_1 x0_0 x0_1 n0_2 y0_2))) (List.take (0 : Nat) (lTilAl_s7 x0_0 x0_1 n0_2 y0_2) ++ List.take (List.length (lTilAl_s7 x0_0 x0_1 n0_2 y0_2)) lTilAl_s5 ++ List.drop ((0 : Nat) + fSized_s1 (fSmF_0 x0_0 x0_1 n0_2 y0_2) (fSmF_1 x0_0 x0_1 n0_2 y0_2)) (lTilAl_s7 x0_0 x0_1 n0_2 y0_2))), (!!tAw_0) = true → (!lTilAl_s0 n0_2 n1_2) = true → lok fSized_l29_st (18446744073709551616 : Nat) (fSized_l29_T.mk (fSmF_0 x0_0 x0_1 n0_2 y0_2) (fSmF_1 x0_0 x0_1 n0_2 y0_2) (0 : Int) x1_0 x1_1 n1_2 y1_2 (0 : Int) (0 : Int) (fNew_s2 (fSmF_0 x0_0 x0_1 n0_2 y0_2)) (fNew_s5 (fSmF_1 x0_0 x0_1 n0_2 y0_2)) (fNew_0 (fSmF_0 x0_0 x0_1 n0_2 y0_2) (fSmF_1 x0_0 x0_1 n0_2 y0_2) (0 : Int) (0 : Int) (0 : Int) (0 : Int) (65535 : Int) (0 : Int))), (!!tAw_0) = true → (!lTilAl_s0 n0_2 n1_2) = true → lok lTilAl_l253_st (18446744073709551616 : Nat) (lTilAl_l253_T.mk x2 false (bGTiles_0 (fSmF_0 x0_0 x0_1 n0_2 y0_2) (fSmF_1 x0_0 x0_1 n0_2 y0_2)) (0 : Int) (fSmF_0 x0_0 x0_1 n0_2 y0_2) (fSmF_1 x0_0 x0_1 n0_2 y0_2) (fSmF_2 x0_0 x0_1 n0_2 y0_2) (lTilAl_s1 x0_0 x0_1 n0_2 x1_0 x1_1 n1_2 y0_2 y1_2) (lTilAl_s2 x0_0 x0_1 n0_2 x1_0 x1_1 n1_2 y0_2 y1_2) (fSized_2 x1_0 x1_1 n1_2 (fSmF_0 x0_0 x0_1 n0_2 y0_2) (fSmF_1 x0_0 x0_1 n0_2 y0_2) y1_2)), (!!tAw_0) = true → (!lTilAl_s0 n0_2 n1_2) = true → isX (X.e (0 : Nat)) (lTilAl_s3 x0_0 x0_1 n0_2 x1_0 x1_1 n1_2 x2 y0_2 y1_2) = true → fSame_s0 (fSmF_0 x0_0 x0_1 n0_2 y0_2) (fSmF_1 x0_0 x0_1 n0_2 y0_2) (lTilAl_s1 x0_0 x0_1 n0_2 x1_0 x1_1 n1_2 y0_2 y1_2) (lTilAl_s2 x0_0 x0_1 n0_2 x1_0 x1_1 n1_2 y0_2 y1_2) = true → (!sEqual_s0 (fSmF_2 x0_0 x0_1 n0_2 y0_2) (lTilAl_s4 x0_0 x0_1 n0_2 x1_0 x1_1 n1_2 x2 y0_2 y1_2)) = true → lok sEqual_l29_st (18446744073709551616 : Nat) (sEqual_l29_T.mk false (Int.ofNat (List.length (fSmF_2 x0_0 x0_1 n0_2 y0_2))) (0 : Int) (fSmF_2 x0_0 x0_1 n0_2 y0_2) (lTilAl_s4 x0_0 x0_1 n0_2 x1_0 x1_1 n1_2 x2 y0_2 y1_2))]
theorem lTilAl_p (x0_0 : Int) (x0_1 : Int) (n0_2 : Nat) (x1_0 : Int) (x1_1 : Int) (n1_2 : Nat) (x2 : Bool) (y0_2 : List (List Int)) (y1_2 : List (List Int)) : evG Try.prog tabTa6 2000 14 [0, 1, 2, 3, 4, 6, 7, 8, 9, 10, 11, 13, 23, 36, 37, 38, 40, 54] [(253, lTilAl_l253_sum)] [] [.g [.int true .u8 x0_0, .int true .u8 x0_1, .slc true 0 0 0 6 0 n0_2], .g [.int true .u8 x1_0, .int true .u8 x1_1, .slc true 1 0 0 6 0 n1_2], .a (.bool true x2)] [⟨⟨0, 0, true, some ⟨0, [.int .u8, .int .u8, .int .u8, .int .u8, .int .u16, .int .u8], y0_2, none⟩⟩, []⟩, ⟨⟨0, 0, true, some ⟨0, [.int .u8, .int .u8, .int .u8, .int .u8, .int .u16, .int .u8], y1_2, none⟩⟩, []⟩] = some (lTilAl_o x0_0 x0_1 n0_2 x1_0 x1_1 n1_2 x2 y0_2 y1_2, LV.a (At.bool true (lTilAl_0 x0_0 x0_1 n0_2 x1_0 x1_1 n1_2 x2 y0_2 y1_2)), [none, none]) := by kernel_rfl
def lTilAl_c : Con
  | [.g [.int true .u8 x0_0, .int true .u8 x0_1, .slc true 0 0 0 6 0 n0_2], .g [.int true .u8 x1_0, .int true .u8 x1_1, .slc true 1 0 0 6 0 n1_2], .a (.bool true x2)], [⟨⟨0, 0, true, some ⟨0, [.int .u8, .int .u8, .int .u8, .int .u8, .int .u16, .int .u8], y0_2, none⟩⟩, []⟩, ⟨⟨0, 0, true, some ⟨0, [.int .u8, .int .u8, .int .u8, .int .u8, .int .u16, .int .u8], y1_2, none⟩⟩, []⟩] => some (lTilAl_o x0_0 x0_1 n0_2 x1_0 x1_1 n1_2 x2 y0_2 y1_2, LV.a (At.bool true (lTilAl_0 x0_0 x0_1 n0_2 x1_0 x1_1 n1_2 x2 y0_2 y1_2)), [none, none])
  | _, _ => none
theorem lTilAl_ok : ConOK Try.prog 14 (normC lTilAl_c) := normC_ok (by
  intro args bs obs lv out h ho φ vs w may ha hM
  unfold lTilAl_c at h
  split at h
  · simp only [Option.some.injEq, Prod.mk.injEq] at h
    obtain ⟨rfl, rfl, rfl⟩ := h
    rename_i x0_0 x0_1 n0_2 x1_0 x1_1 n1_2 x2 y0_2 y1_2
    exact evG_okL' tabTa6_ok follows (LOK_cons (show subs (bodyOf Try.prog 14) 1 253 = [.block (blockOf (subs (bodyOf Try.prog 14) 1 253)) (.loop lTilAl_l253_code)] from by kernel_rfl) lTilAl_l253_sok (LOK_nil')) _ _ _ _ _ (lTilAl_p x0_0 x0_1 n0_2 x1_0 x1_1 n1_2 x2 y0_2 y1_2) ho φ vs w may ha hM
  · cases h)
theorem lTilAl_en : Enters Try.prog 14 := fun args => by kernel_rfl
-- 24994 109 20 ms

/-! azulejo/azulejolaw21.TileStores -/
def lTilStA_s0 (n0_2 : Nat) : Bool := decide ((100 : Int) < Int.ofNat n0_2)
def lTilStA_s1 (x0_0 : Int) (x0_1 : Int) (n0_2 : Nat) (x1 : Int) (y0_2 : List (List Int)) : Int := Int.tmod (IntKind.wrap IntKind.i64 x1) (bGTiles_0 (fSmF_0 x0_0 x0_1 n0_2 y0_2) (fSmF_1 x0_0 x0_1 n0_2 y0_2))
def lTilStA_s2 (x0_0 : Int) (x0_1 : Int) (n0_2 : Nat) (x1 : Int) (y0_2 : List (List Int)) : Int := tLd_1 (fSmF_0 x0_0 x0_1 n0_2 y0_2) (fSmF_1 x0_0 x0_1 n0_2 y0_2) (lTilStA_s1 x0_0 x0_1 n0_2 x1 y0_2) (fSmF_2 x0_0 x0_1 n0_2 y0_2)
def lTilStA_s3 (x0_0 : Int) (x0_1 : Int) (n0_2 : Nat) (x1 : Int) (y0_2 : List (List Int)) : Int := tLd_2 (fSmF_0 x0_0 x0_1 n0_2 y0_2) (fSmF_1 x0_0 x0_1 n0_2 y0_2) (lTilStA_s1 x0_0 x0_1 n0_2 x1 y0_2) (fSmF_2 x0_0 x0_1 n0_2 y0_2)
def lTilStA_s4 (x0_0 : Int) (x0_1 : Int) (n0_2 : Nat) (x1 : Int) (y0_2 : List (List Int)) : Int := tLd_3 (fSmF_0 x0_0 x0_1 n0_2 y0_2) (fSmF_1 x0_0 x0_1 n0_2 y0_2) (lTilStA_s1 x0_0 x0_1 n0_2 x1 y0_2) (fSmF_2 x0_0 x0_1 n0_2 y0_2)
def lTilStA_s5 (x0_0 : Int) (x0_1 : Int) (n0_2 : Nat) (x1 : Int) (y0_2 : List (List Int)) : Int := tLd_4 (fSmF_0 x0_0 x0_1 n0_2 y0_2) (fSmF_1 x0_0 x0_1 n0_2 y0_2) (lTilStA_s1 x0_0 x0_1 n0_2 x1 y0_2) (fSmF_2 x0_0 x0_1 n0_2 y0_2)
def lTilStA_s6 (x0_0 : Int) (x0_1 : Int) (n0_2 : Nat) (x1 : Int) (x2 : Int) (x3 : Int) (y0_2 : List (List Int)) : Bool := tHas_0 (IntKind.wrap IntKind.i64 (Int.tmod x2 (24 : Int))) (IntKind.wrap IntKind.i64 (Int.tmod x3 (24 : Int))) (lTilStA_s2 x0_0 x0_1 n0_2 x1 y0_2) (lTilStA_s3 x0_0 x0_1 n0_2 x1 y0_2) (lTilStA_s4 x0_0 x0_1 n0_2 x1 y0_2) (lTilStA_s5 x0_0 x0_1 n0_2 x1 y0_2)
def lTilStA_s7 (x0_0 : Int) (x0_1 : Int) (n0_2 : Nat) (x1 : Int) (x2 : Int) (x3 : Int) (y0_2 : List (List Int)) : Bool := !true == lTilStA_s6 x0_0 x0_1 n0_2 x1 x2 x3 y0_2
def lTilStA_s8 (x0_0 : Int) (x0_1 : Int) (n0_2 : Nat) (x2 : Int) (x3 : Int) (x4_0 : Int) (x4_1 : Int) (x4_2 : Int) (x4_3 : Int) (x4_4 : Int) (x4_5 : Int) (y0_2 : List (List Int)) : List (List Int) := fSet_0 (fSmF_0 x0_0 x0_1 n0_2 y0_2) (fSmF_1 x0_0 x0_1 n0_2 y0_2) (IntKind.wrap IntKind.i64 (Int.tmod x2 (24 : Int))) (IntKind.wrap IntKind.i64 (Int.tmod x3 (24 : Int))) x4_0 x4_1 x4_2 x4_3 (IntKind.wrap IntKind.i64 x4_4) x4_5 (sClone_s0 (fSmF_2 x0_0 x0_1 n0_2 y0_2))
def lTilStA_s9 (x0_0 : Int) (x0_1 : Int) (n0_2 : Nat) (x1 : Int) (x2 : Int) (x3 : Int) (x4_0 : Int) (x4_1 : Int) (x4_2 : Int) (x4_3 : Int) (x4_4 : Int) (x4_5 : Int) (y0_2 : List (List Int)) : List (List Int) := List.set (tLd_0 (fSmF_0 x0_0 x0_1 n0_2 y0_2) (fSmF_1 x0_0 x0_1 n0_2 y0_2) (lTilStA_s1 x0_0 x0_1 n0_2 x1 y0_2) (fSmF_2 x0_0 x0_1 n0_2 y0_2)) (tAtS_0 (IntKind.wrap IntKind.i64 (Int.tmod x2 (24 : Int))) (IntKind.wrap IntKind.i64 (Int.tmod x3 (24 : Int)))) [x4_0, x4_1, x4_2, x4_3, IntKind.wrap IntKind.i64 x4_4, x4_5]
def lTilStA_s10 (x0_0 : Int) (x0_1 : Int) (n0_2 : Nat) (x1 : Int) (x2 : Int) (x3 : Int) (x4_0 : Int) (x4_1 : Int) (x4_2 : Int) (x4_3 : Int) (x4_4 : Int) (x4_5 : Int) (y0_2 : List (List Int)) : List (List Int) := tSt_0 (fSmF_0 x0_0 x0_1 n0_2 y0_2) (fSmF_1 x0_0 x0_1 n0_2 y0_2) (lTilStA_s9 x0_0 x0_1 n0_2 x1 x2 x3 x4_0 x4_1 x4_2 x4_3 x4_4 x4_5 y0_2) (lTilStA_s2 x0_0 x0_1 n0_2 x1 y0_2) (lTilStA_s3 x0_0 x0_1 n0_2 x1 y0_2) (lTilStA_s4 x0_0 x0_1 n0_2 x1 y0_2) (lTilStA_s5 x0_0 x0_1 n0_2 x1 y0_2) (sClone_s0 (fSmF_2 x0_0 x0_1 n0_2 y0_2))
def lTilStA_0 (x0_0 : Int) (x0_1 : Int) (n0_2 : Nat) (x1 : Int) (x2 : Int) (x3 : Int) (x4_0 : Int) (x4_1 : Int) (x4_2 : Int) (x4_3 : Int) (x4_4 : Int) (x4_5 : Int) (y0_2 : List (List Int)) : Bool := bif !tAw_0 then false else bif lTilStA_s0 n0_2 then true else bif lTilStA_s7 x0_0 x0_1 n0_2 x1 x2 x3 y0_2 then false else fSame_0 (fSmF_0 x0_0 x0_1 n0_2 y0_2) (fSmF_1 x0_0 x0_1 n0_2 y0_2) (fSmF_0 x0_0 x0_1 n0_2 y0_2) (fSmF_1 x0_0 x0_1 n0_2 y0_2) (lTilStA_s8 x0_0 x0_1 n0_2 x2 x3 x4_0 x4_1 x4_2 x4_3 x4_4 x4_5 y0_2) (lTilStA_s10 x0_0 x0_1 n0_2 x1 x2 x3 x4_0 x4_1 x4_2 x4_3 x4_4 x4_5 y0_2)
def lTilStA_s11 (x0_0 : Int) (x0_1 : Int) (n0_2 : Nat) (x1 : Int) (y0_2 : List (List Int)) : Int := bBox_0 (fSmF_0 x0_0 x0_1 n0_2 y0_2) (fSmF_1 x0_0 x0_1 n0_2 y0_2) (lTilStA_s1 x0_0 x0_1 n0_2 x1 y0_2)
def lTilStA_s12 (x0_0 : Int) (x0_1 : Int) (n0_2 : Nat) (x1 : Int) (y0_2 : List (List Int)) : Int := bBox_1 (fSmF_0 x0_0 x0_1 n0_2 y0_2) (fSmF_1 x0_0 x0_1 n0_2 y0_2) (lTilStA_s1 x0_0 x0_1 n0_2 x1 y0_2)
def lTilStA_s13 (x0_0 : Int) (x0_1 : Int) (n0_2 : Nat) (x1 : Int) (y0_2 : List (List Int)) : Int := bBox_2 (fSmF_0 x0_0 x0_1 n0_2 y0_2) (fSmF_1 x0_0 x0_1 n0_2 y0_2) (lTilStA_s1 x0_0 x0_1 n0_2 x1 y0_2)
def lTilStA_s14 (x0_0 : Int) (x0_1 : Int) (n0_2 : Nat) (x1 : Int) (y0_2 : List (List Int)) : Int := bBox_3 (fSmF_0 x0_0 x0_1 n0_2 y0_2) (fSmF_1 x0_0 x0_1 n0_2 y0_2) (lTilStA_s1 x0_0 x0_1 n0_2 x1 y0_2)
def lTilStA_s15 (x2 : Int) (x3 : Int) : Int := tPlace_0 (IntKind.wrap IntKind.i64 (Int.tmod x2 (24 : Int))) (IntKind.wrap IntKind.i64 (Int.tmod x3 (24 : Int)))
def lTilStA_s16 (x0_0 : Int) (x0_1 : Int) (n0_2 : Nat) (x2 : Int) (x3 : Int) (y0_2 : List (List Int)) : Int := fSet_s0 (fSmF_0 x0_0 x0_1 n0_2 y0_2) (IntKind.wrap IntKind.i64 (Int.tmod x2 (24 : Int))) (IntKind.wrap IntKind.i64 (Int.tmod x3 (24 : Int)))
def lTilStA_o (x0_0 : Int) (x0_1 : Int) (n0_2 : Nat) (x1 : Int) (x2 : Int) (x3 : Int) (x4_0 : Int) (x4_1 : Int) (x4_2 : Int) (x4_3 : Int) (x4_4 : Int) (x4_5 : Int) (y0_2 : List (List Int)) : List Prop := [decide (fNew_s6 (3 : Int) (2 : Int) < (0 : Int)) = false, (bif decide ((0 : Int) < tAw_s1) then true else decide ((9223372036854775807 : Int) < tAw_s2)) = false, (0 : Int) ≤ IntKind.wrap IntKind.i64 tAw_s2 ∧ IntKind.wrap IntKind.i64 tAw_s2 = IntKind.wrap IntKind.i64 tAw_s2 ∧ IntKind.wrap IntKind.i64 tAw_s2 * Int.ofNat (24 : Nat) ≤ (70368744177664 : Int), lok sRep_l254_st (18446744073709551616 : Nat) (sRep_l254_T.mk (Int.ofNat (sRep_s3 (fNew_s6 (3 : Int) (2 : Int)) (0 : Int) (0 : Int) (0 : Int) (0 : Int) (5 : Int) (0 : Int))) (List.take (0 : Nat) tAw_s3 ++ List.take (6 : Nat) (sRep_s0 (0 : Int) (0 : Int) (0 : Int) (0 : Int) (5 : Int) (0 : Int)) ++ List.drop (1 : Nat) tAw_s3)), (!bBox_s0 (fNew_s2 (3 : Int)) (fNew_s5 (2 : Int)) (0 : Int)) = true → bTiles_0 (fNew_s2 (3 : Int)) ≠ (0 : Int), (!bBox_s0 (fNew_s2 (3 : Int)) (fNew_s5 (2 : Int)) (0 : Int)) = true → bTiles_0 (fNew_s2 (3 : Int)) ≠ (0 : Int), (tAw_s4 == (0 : Int) && (tAw_s5 == (0 : Int) && (tAw_s6 == (0 : Int) && tAw_s7 == (0 : Int)))) = false, (!!tRt_0 tAw_s4 tAw_s5 tAw_s6 tAw_s7) = true → lok tEaL_l7_st (18446744073709551616 : Nat) (tEaL_l7_T.mk tAw_s5 tLd_s1 tAw_s4 tAw_s5 tAw_s6 tAw_s7 (fNew_s2 (3 : Int)) (fNew_s5 (2 : Int)) tAw_s0), (!bBox_s0 (fNew_s2 (3 : Int)) (fNew_s5 (2 : Int)) (1 : Int)) = true → bTiles_0 (fNew_s2 (3 : Int)) ≠ (0 : Int), (!bBox_s0 (fNew_s2 (3 : Int)) (fNew_s5 (2 : Int)) (1 : Int)) = true → bTiles_0 (fNew_s2 (3 : Int)) ≠ (0 : Int), (bBox_0 (fNew_s2 (3 : Int)) (fNew_s5 (2 : Int)) (1 : Int) == (0 : Int) && (bBox_1 (fNew_s2 (3 : Int)) (fNew_s5 (2 : Int)) (1 : Int) == (0 : Int) && (bBox_2 (fNew_s2 (3 : Int)) (fNew_s5 (2 : Int)) (1 : Int) == (0 : Int) && bBox_3 (fNew_s2 (3 : Int)) (fNew_s5 (2 : Int)) (1 : Int) == (0 : Int)))) = true, (!!tAw_0) = true → (!lTilStA_s0 n0_2) = true → decide (fNew_s6 (fSmF_s0 x0_0) (fSmF_s1 x0_1) < (0 : Int)) = false, (!!tAw_0) = true → (!lTilStA_s0 n0_2) = true → (bif decide ((0 : Int) < fSized_s0 (fSmF_s0 x0_0) (fSmF_s1 x0_1)) then true else decide ((9223372036854775807 : Int) < sRep_s1 (fNew_s6 (fSmF_s0 x0_0) (fSmF_s1 x0_1)))) = false, (!!tAw_0) = true → (!lTilStA_s0 n0_2) = true → (0 : Int) ≤ IntKind.wrap IntKind.i64 (sRep_s1 (fNew_s6 (fSmF_s0 x0_0) (fSmF_s1 x0_1))) ∧ IntKind.wrap IntKind.i64 (sRep_s1 (fNew_s6 (fSmF_s0 x0_0) (fSmF_s1 x0_1))) = IntKind.wrap IntKind.i64 (sRep_s1 (fNew_s6 (fSmF_s0 x0_0) (fSmF_s1 x0_1))) ∧ IntKind.wrap IntKind.i64 (sRep_s1 (fNew_s6 (fSmF_s0 x0_0) (fSmF_s1 x0_1))) * Int.ofNat (24 : Nat) ≤ (70368744177664 : Int), (!!tAw_0) = true → (!lTilStA_s0 n0_2) = true → lok sRep_l254_st (18446744073709551616 : Nat) (sRep_l254_T.mk (Int.ofNat (fSized_s1 (fSmF_s0 x0_0) (fSmF_s1 x0_1))) (List.take (0 : Nat) (sRep_s2 (fNew_s6 (fSmF_s0 x0_0) (fSmF_s1 x0_1))) ++ List.take (List.length (sRep_s2 (fNew_s6 (fSmF_s0 x0_0) (fSmF_s1 x0_1)))) (sRep_s0 (0 : Int) (0 : Int) (0 : Int) (0 : Int) (65535 : Int) (0 : Int)) ++ List.drop ((0 : Nat) + fSized_s1 (fSmF_s0 x0_0) (fSmF_s1 x0_1)) (sRep_s2 (fNew_s6 (fSmF_s0 x0_0) (fSmF_s1 x0_1))))), (!!tAw_0) = true → (!lTilStA_s0 n0_2) = true → lok fSized_l29_st (18446744073709551616 : Nat) (fSized_l29_T.mk (fSmF_s0 x0_0) (fSmF_s1 x0_1) (0 : Int) x0_0 x0_1 n0_2 y0_2 (0 : Int) (0 : Int) (fNew_s2 (fSmF_s0 x0_0)) (fNew_s5 (fSmF_s1 x0_1)) (fNew_0 (fSmF_s0 x0_0) (fSmF_s1 x0_1) (0 : Int) (0 : Int) (0 : Int) (0 : Int) (65535 : Int) (0 : Int))), (!!tAw_0) = true → (!lTilStA_s0 n0_2) = true → bGTiles_0 (fSmF_0 x0_0 x0_1 n0_2 y0_2) (fSmF_1 x0_0 x0_1 n0_2 y0_2) ≠ (0 : Int), (!!tAw_0) = true → (!lTilStA_s0 n0_2) = true → (!bBox_s0 (fSmF_0 x0_0 x0_1 n0_2 y0_2) (fSmF_1 x0_0 x0_1 n0_2 y0_2) (lTilStA_s1 x0_0 x0_1 n0_2 x1 y0_2)) = true → bTiles_0 (fSmF_0 x0_0 x0_1 n0_2 y0_2) ≠ (0 : Int), (!!tAw_0) = true → (!lTilStA_s0 n0_2) = true → (!bBox_s0 (fSmF_0 x0_0 x0_1 n0_2 y0_2) (fSmF_1 x0_0 x0_1 n0_2 y0_2) (lTilStA_s1 x0_0 x0_1 n0_2 x1 y0_2)) = true → bTiles_0 (fSmF_0 x0_0 x0_1 n0_2 y0_2) ≠ (0 : Int), (!!tAw_0) = true → (!lTilStA_s0 n0_2) = true → (lTilStA_s11 x0_0 x0_1 n0_2 x1 y0_2 == (0 : Int) && (lTilStA_s12 x0_0 x0_1 n0_2 x1 y0_2 == (0 : Int) && (lTilStA_s13 x0_0 x0_1 n0_2 x1 y0_2 == (0 : Int) && lTilStA_s14 x0_0 x0_1 n0_2 x1 y0_2 == (0 : Int)))) = false, (!!tAw_0) = true → (!lTilStA_s0 n0_2) = true → (!!tRt_0 (lTilStA_s11 x0_0 x0_1 n0_2 x1 y0_2) (lTilStA_s12 x0_0 x0_1 n0_2 x1 y0_2) (lTilStA_s13 x0_0 x0_1 n0_2 x1 y0_2) (lTilStA_s14 x0_0 x0_1 n0_2 x1 y0_2)) = true → lok tEaL_l7_st (18446744073709551616 : Nat) (tEaL_l7_T.mk (lTilStA_s12 x0_0 x0_1 n0_2 x1 y0_2) tLd_s1 (lTilStA_s11 x0_0 x0_1 n0_2 x1 y0_2) (lTilStA_s12 x0_0 x0_1 n0_2 x1 y0_2) (lTilStA_s13 x0_0 x0_1 n0_2 x1 y0_2) (lTilStA_s14 x0_0 x0_1 n0_2 x1 y0_2) (fSmF_0 x0_0 x0_1 n0_2 y0_2) (fSmF_1 x0_0 x0_1 n0_2 y0_2) (fSmF_2 x0_0 x0_1 n0_2 y0_2)), (!!tAw_0) = true → (!lTilStA_s0 n0_2) = true → (!lTilStA_s6 x0_0 x0_1 n0_2 x1 x2 x3 y0_2) = false, (!!tAw_0) = true → (!lTilStA_s0 n0_2) = true → (0 : Int) ≤ lTilStA_s15 x2 x3 ∧ lTilStA_s15 x2 x3 < Int.ofNat (64 : Nat), (!!tAw_0) = true → (!lTilStA_s0 n0_2) = true → (!lTilStA_s7 x0_0 x0_1 n0_2 x1 x2 x3 y0_2) = true → List.length (fSmF_2 x0_0 x0_1 n0_2 y0_2) ≠ (0 : Nat), (!!tAw_0) = true → (!lTilStA_s0 n0_2) = true → (!lTilStA_s7 x0_0 x0_1 n0_2 x1 x2 x3 y0_2) = true → List.length (sClone_s0 (fSmF_2 x0_0 x0_1 n0_2 y0_2)) * (24 : Nat) ≤ (70368744177664 : Nat), (!!tAw_0) = true → (!lTilStA_s0 n0_2) = true → (!lTilStA_s7 x0_0 x0_1 n0_2 x1 x2 x3 y0_2) = true → fSet_s1 (fSmF_0 x0_0 x0_1 n0_2 y0_2) (fSmF_1 x0_0 x0_1 n0_2 y0_2) (IntKind.wrap IntKind.i64 (Int.tmod x2 (24 : Int))) (IntKind.wrap IntKind.i64 (Int.tmod x3 (24 : Int))) (sClone_s0 (fSmF_2 x0_0 x0_1 n0_2 y0_2)) = true → (0 : Int) ≤ lTilStA_s16 x0_0 x0_1 n0_2 x2 x3 y0_2 ∧ lTilStA_s16 x0_0 x0_1 n0_2 x2 x3 y0_2 < Int.ofNat (List.length (sClone_s0 (fSmF_2 x0_0 x0_1 n0_2 y0_2))), (!!tAw_0) = true → (!lTilStA_s0 n0_2) = true → (!lTilStA_s7 x0_0 x0_1 n0_2 x1 x2 x3 y0_2) = true → List.length (fSmF_2 x0_0 x0_1 n0_2 y0_2) ≠ (0 : Nat), (!!tAw_0) = true → (!lTilStA_s0 n0_2) = true → (!lTilStA_s7 x0_0 x0_1 n0_2 x1 x2 x3 y0_2) = true → List.length (sClone_s0 (fSmF_2 x0_0 x0_1 n0_2 y0_2)) * (24 : Nat) ≤ (70368744177664 : Nat), (!!tAw_0) = true → (!lTilStA_s0 n0_2) = true → (!lTilStA_s7 x0_0 x0_1 n0_2 x1 x2 x3 y0_2) = true → (!!tRt_0 (lTilStA_s2 x0_0 x0_1 n0_2 x1 y0_2) (lTilStA_s3 x0_0 x0_1 n0_2 x1 y0_2) (lTilStA_s4 x0_0 x0_1 n0_2 x1 y0_2) (lTilStA_s5 x0_0 x0_1 n0_2 x1 y0_2)) = true → lok tEaS_l7_st (18446744073709551616 : Nat) (tEaS_l7_T.mk (lTilStA_s3 x0_0 x0_1 n0_2 x1 y0_2) (lTilStA_s9 x0_0 x0_1 n0_2 x1 x2 x3 x4_0 x4_1 x4_2 x4_3 x4_4 x4_5 y0_2) (lTilStA_s2 x0_0 x0_1 n0_2 x1 y0_2) (lTilStA_s3 x0_0 x0_1 n0_2 x1 y0_2) (lTilStA_s4 x0_0 x0_1 n0_2 x1 y0_2) (lTilStA_s5 x0_0 x0_1 n0_2 x1 y0_2) (fSmF_0 x0_0 x0_1 n0_2 y0_2) (fSmF_1 x0_0 x0_1 n0_2 y0_2) (sClone_s0 (fSmF_2 x0_0 x0_1 n0_2 y0_2))), (!!tAw_0) = true → (!lTilStA_s0 n0_2) = true → (!lTilStA_s7 x0_0 x0_1 n0_2 x1 x2 x3 y0_2) = true → fSame_s0 (fSmF_0 x0_0 x0_1 n0_2 y0_2) (fSmF_1 x0_0 x0_1 n0_2 y0_2) (fSmF_0 x0_0 x0_1 n0_2 y0_2) (fSmF_1 x0_0 x0_1 n0_2 y0_2) = true → (!sEqual_s0 (lTilStA_s8 x0_0 x0_1 n0_2 x2 x3 x4_0 x4_1 x4_2 x4_3 x4_4 x4_5 y0_2) (lTilStA_s10 x0_0 x0_1 n0_2 x1 x2 x3 x4_0 x4_1 x4_2 x4_3 x4_4 x4_5 y0_2)) = true → lok sEqual_l29_st (18446744073709551616 : Nat) (sEqual_l29_T.mk false (Int.ofNat (List.length (lTilStA_s8 x0_0 x0_1 n0_2 x2 x3 x4_0 x4_1 x4_2 x4_3 x4_4 x4_5 y0_2))) (0 : Int) (lTilStA_s8 x0_0 x0_1 n0_2 x2 x3 x4_0 x4_1 x4_2 x4_3 x4_4 x4_5 y0_2) (lTilStA_s10 x0_0 x0_1 n0_2 x1 x2 x3 x4_0 x4_1 x4_2 x4_3 x4_4 x4_5 y0_2))]
theorem lTilStA_p (x0_0 : Int) (x0_1 : Int) (n0_2 : Nat) (x1 : Int) (x2 : Int) (x3 : Int) (x4_0 : Int) (x4_1 : Int) (x4_2 : Int) (x4_3 : Int) (x4_4 : Int) (x4_5 : Int) (y0_2 : List (List Int)) : evG Try.prog tabTa6 2000 16 [0, 1, 2, 3, 4, 5, 9, 10, 11, 12, 13, 14, 15, 16, 17, 18, 20, 24, 39, 56, 60] [] [] [.g [.int true .u8 x0_0, .int true .u8 x0_1, .slc true 0 0 0 6 0 n0_2], .a (.int true .u8 x1), .a (.int true .u8 x2), .a (.int true .u8 x3), .g [.int true .u8 x4_0, .int true .u8 x4_1, .int true .u8 x4_2, .int true .u8 x4_3, .int true .u16 x4_4, .int true .u8 x4_5]] [⟨⟨0, 0, true, some ⟨0, [.int .u8, .int .u8, .int .u8, .int .u8, .int .u16, .int .u8], y0_2, none⟩⟩, []⟩] = some (lTilStA_o x0_0 x0_1 n0_2 x1 x2 x3 x4_0 x4_1 x4_2 x4_3 x4_4 x4_5 y0_2, LV.a (At.bool true (lTilStA_0 x0_0 x0_1 n0_2 x1 x2 x3 x4_0 x4_1 x4_2 x4_3 x4_4 x4_5 y0_2)), [none]) := by kernel_rfl
def lTilStA_c : Con
  | [.g [.int true .u8 x0_0, .int true .u8 x0_1, .slc true 0 0 0 6 0 n0_2], .a (.int true .u8 x1), .a (.int true .u8 x2), .a (.int true .u8 x3), .g [.int true .u8 x4_0, .int true .u8 x4_1, .int true .u8 x4_2, .int true .u8 x4_3, .int true .u16 x4_4, .int true .u8 x4_5]], [⟨⟨0, 0, true, some ⟨0, [.int .u8, .int .u8, .int .u8, .int .u8, .int .u16, .int .u8], y0_2, none⟩⟩, []⟩] => some (lTilStA_o x0_0 x0_1 n0_2 x1 x2 x3 x4_0 x4_1 x4_2 x4_3 x4_4 x4_5 y0_2, LV.a (At.bool true (lTilStA_0 x0_0 x0_1 n0_2 x1 x2 x3 x4_0 x4_1 x4_2 x4_3 x4_4 x4_5 y0_2)), [none])
  | _, _ => none
theorem lTilStA_ok : ConOK Try.prog 16 (normC lTilStA_c) := normC_ok (by
  intro args bs obs lv out h ho φ vs w may ha hM
  unfold lTilStA_c at h
  split at h
  · simp only [Option.some.injEq, Prod.mk.injEq] at h
    obtain ⟨rfl, rfl, rfl⟩ := h
    rename_i x0_0 x0_1 n0_2 x1 x2 x3 x4_0 x4_1 x4_2 x4_3 x4_4 x4_5 y0_2
    exact evG_ok tabTa6_ok follows _ _ _ _ _ (lTilStA_p x0_0 x0_1 n0_2 x1 x2 x3 x4_0 x4_1 x4_2 x4_3 x4_4 x4_5 y0_2) ho φ vs w may ha hM
  · cases h)
theorem lTilStA_en : Enters Try.prog 16 := fun args => by kernel_rfl
-- 13554 4272 30 ms

def tabTa7 : Tab := (14, normC lTilAl_c) :: (16, normC lTilStA_c) :: tabTa6
theorem tabTa7_ok : TOK Try.prog tabTa7 := TOK.cons lTilAl_en lTilAl_ok (TOK.cons lTilStA_en lTilStA_ok (tabTa6_ok))

end Go.Proofs.Ytcdejlgophpdjaa
end

section
namespace Go.Proofs.Ytcdejlgophpdjaa
open Go Go.RowKit Go.Proofs.Ytcdejlgophpdjaa.V

def tabTa8 : Tab := (78, normC tAtZ_c) :: tabTa6
theorem tabTa8_ok : TOK Try.prog tabTa8 := TOK.cons tAtZ_en tAtZ_ok tabTa6_ok

end Go.Proofs.Ytcdejlgophpdjaa
end

section
namespace Go.Proofs.Ytcdejlgophpdjaa
open Go Go.RowKit Go.Proofs.Ytcdejlgophpdjaa.V
set_option linter.unusedVariables false

/-! azulejo/azulejolaw21.TileStores -/
def lTilStB_s0 (n0_2 : Nat) : Bool := decide ((100 : Int) < Int.ofNat n0_2)
def lTilStB_s1 (x0_0 : Int) (x0_1 : Int) (n0_2 : Nat) (x1 : Int) (y0_2 : List (List Int)) : Int := Int.tmod (IntKind.wrap IntKind.i64 x1) (bGTiles_0 (fSmF_0 x0_0 x0_1 n0_2 y0_2) (fSmF_1 x0_0 x0_1 n0_2 y0_2))
def lTilStB_s2 (x0_0 : Int) (x0_1 : Int) (n0_2 : Nat) (x1 : Int) (y0_2 : List (List Int)) : Int := tLd_1 (fSmF_0 x0_0 x0_1 n0_2 y0_2) (fSmF_1 x0_0 x0_1 n0_2 y0_2) (lTilStB_s1 x0_0 x0_1 n0_2 x1 y0_2) (fSmF_2 x0_0 x0_1 n0_2 y0_2)
def lTilStB_s3 (x0_0 : Int) (x0_1 : Int) (n0_2 : Nat) (x1 : Int) (y0_2 : List (List Int)) : Int := tLd_2 (fSmF_0 x0_0 x0_1 n0_2 y0_2) (fSmF_1 x0_0 x0_1 n0_2 y0_2) (lTilStB_s1 x0_0 x0_1 n0_2 x1 y0_2) (fSmF_2 x0_0 x0_1 n0_2 y0_2)
def lTilStB_s4 (x0_0 : Int) (x0_1 : Int) (n0_2 : Nat) (x1 : Int) (y0_2 : List (List Int)) : Int := tLd_3 (fSmF_0 x0_0 x0_1 n0_2 y0_2) (fSmF_1 x0_0 x0_1 n0_2 y0_2) (lTilStB_s1 x0_0 x0_1 n0_2 x1 y0_2) (fSmF_2 x0_0 x0_1 n0_2 y0_2)
def lTilStB_s5 (x0_0 : Int) (x0_1 : Int) (n0_2 : Nat) (x1 : Int) (y0_2 : List (List Int)) : Int := tLd_4 (fSmF_0 x0_0 x0_1 n0_2 y0_2) (fSmF_1 x0_0 x0_1 n0_2 y0_2) (lTilStB_s1 x0_0 x0_1 n0_2 x1 y0_2) (fSmF_2 x0_0 x0_1 n0_2 y0_2)
def lTilStB_s6 (x0_0 : Int) (x0_1 : Int) (n0_2 : Nat) (x1 : Int) (x2 : Int) (x3 : Int) (y0_2 : List (List Int)) : Bool := tHas_0 (IntKind.wrap IntKind.i64 (Int.tmod x2 (24 : Int))) (IntKind.wrap IntKind.i64 (Int.tmod x3 (24 : Int))) (lTilStB_s2 x0_0 x0_1 n0_2 x1 y0_2) (lTilStB_s3 x0_0 x0_1 n0_2 x1 y0_2) (lTilStB_s4 x0_0 x0_1 n0_2 x1 y0_2) (lTilStB_s5 x0_0 x0_1 n0_2 x1 y0_2)
def lTilStB_s7 (x0_0 : Int) (x0_1 : Int) (n0_2 : Nat) (x1 : Int) (x2 : Int) (x3 : Int) (y0_2 : List (List Int)) : Bool := !(!true) == lTilStB_s6 x0_0 x0_1 n0_2 x1 x2 x3 y0_2
def lTilStB_s8 (x0_0 : Int) (x0_1 : Int) (n0_2 : Nat) (x1 : Int) (y0_2 : List (List Int)) : List (List Int) := tLd_0 (fSmF_0 x0_0 x0_1 n0_2 y0_2) (fSmF_1 x0_0 x0_1 n0_2 y0_2) (lTilStB_s1 x0_0 x0_1 n0_2 x1 y0_2) (fSmF_2 x0_0 x0_1 n0_2 y0_2)
def lTilStB_s9 (x0_0 : Int) (x0_1 : Int) (n0_2 : Nat) (x1 : Int) (y0_2 : List (List Int)) : List (List Int) := tSt_0 (fSmF_0 x0_0 x0_1 n0_2 y0_2) (fSmF_1 x0_0 x0_1 n0_2 y0_2) (lTilStB_s8 x0_0 x0_1 n0_2 x1 y0_2) (lTilStB_s2 x0_0 x0_1 n0_2 x1 y0_2) (lTilStB_s3 x0_0 x0_1 n0_2 x1 y0_2) (lTilStB_s4 x0_0 x0_1 n0_2 x1 y0_2) (lTilStB_s5 x0_0 x0_1 n0_2 x1 y0_2) (sClone_s0 (fSmF_2 x0_0 x0_1 n0_2 y0_2))
def lTilStB_0 (x0_0 : Int) (x0_1 : Int) (n0_2 : Nat) (x1 : Int) (x2 : Int) (x3 : Int) (y0_2 : List (List Int)) : Bool := bif !tAw_0 then false else bif lTilStB_s0 n0_2 then true else bif lTilStB_s7 x0_0 x0_1 n0_2 x1 x2 x3 y0_2 then false else fSame_0 (fSmF_0 x0_0 x0_1 n0_2 y0_2) (fSmF_1 x0_0 x0_1 n0_2 y0_2) (fSmF_0 x0_0 x0_1 n0_2 y0_2) (fSmF_1 x0_0 x0_1 n0_2 y0_2) (sClone_s0 (fSmF_2 x0_0 x0_1 n0_2 y0_2)) (lTilStB_s9 x0_0 x0_1 n0_2 x1 y0_2)
def lTilStB_s10 (x0_0 : Int) (x0_1 : Int) (n0_2 : Nat) (x1 : Int) (y0_2 : List (List Int)) : Int := bBox_0 (fSmF_0 x0_0 x0_1 n0_2 y0_2) (fSmF_1 x0_0 x0_1 n0_2 y0_2) (lTilStB_s1 x0_0 x0_1 n0_2 x1 y0_2)
def lTilStB_s11 (x0_0 : Int) (x0_1 : Int) (n0_2 : Nat) (x1 : Int) (y0_2 : List (List Int)) : Int := bBox_1 (fSmF_0 x0_0 x0_1 n0_2 y0_2) (fSmF_1 x0_0 x0_1 n0_2 y0_2) (lTilStB_s1 x0_0 x0_1 n0_2 x1 y0_2)
def lTilStB_s12 (x0_0 : Int) (x0_1 : Int) (n0_2 : Nat) (x1 : Int) (y0_2 : List (List Int)) : Int := bBox_2 (fSmF_0 x0_0 x0_1 n0_2 y0_2) (fSmF_1 x0_0 x0_1 n0_2 y0_2) (lTilStB_s1 x0_0 x0_1 n0_2 x1 y0_2)
def lTilStB_s13 (x0_0 : Int) (x0_1 : Int) (n0_2 : Nat) (x1 : Int) (y0_2 : List (List Int)) : Int := bBox_3 (fSmF_0 x0_0 x0_1 n0_2 y0_2) (fSmF_1 x0_0 x0_1 n0_2 y0_2) (lTilStB_s1 x0_0 x0_1 n0_2 x1 y0_2)
def lTilStB_o (x0_0 : Int) (x0_1 : Int) (n0_2 : Nat) (x1 : Int) (x2 : Int) (x3 : Int) (x4_0 : Int) (x4_1 : Int) (x4_2 : Int) (x4_3 : Int) (x4_4 : Int) (x4_5 : Int) (y0_2 : List (List Int)) : List Prop := [decide (fNew_s6 (3 : Int) (2 : Int) < (0 : Int)) = false, (bif decide ((0 : Int) < tAw_s1) then true else decide ((9223372036854775807 : Int) < tAw_s2)) = false, (0 : Int) ≤ IntKind.wrap IntKind.i64 tAw_s2 ∧ IntKind.wrap IntKind.i64 tAw_s2 = IntKind.wrap IntKind.i64 tAw_s2 ∧ IntKind.wrap IntKind.i64 tAw_s2 * Int.ofNat (24 : Nat) ≤ (70368744177664 : Int), lok sRep_l254_st (18446744073709551616 : Nat) (sRep_l254_T.mk (Int.ofNat (sRep_s3 (fNew_s6 (3 : Int) (2 : Int)) (0 : Int) (0 : Int) (0 : Int) (0 : Int) (5 : Int) (0 : Int))) (List.take (0 : Nat) tAw_s3 ++ List.take (6 : Nat) (sRep_s0 (0 : Int) (0 : Int) (0 : Int) (0 : Int) (5 : Int) (0 : Int)) ++ List.drop (1 : Nat) tAw_s3)), (!bBox_s0 (fNew_s2 (3 : Int)) (fNew_s5 (2 : Int)) (0 : Int)) = true → bTiles_0 (fNew_s2 (3 : Int)) ≠ (0 : Int), (!bBox_s0 (fNew_s2 (3 : Int)) (fNew_s5 (2 : Int)) (0 : Int)) = true → bTiles_0 (fNew_s2 (3 : Int)) ≠ (0 : Int), (tAw_s4 == (0 : Int) && (tAw_s5 == (0 : Int) && (tAw_s6 == (0 : Int) && tAw_s7 == (0 : Int)))) = false, (!!tRt_0 tAw_s4 tAw_s5 tAw_s6 tAw_s7) = true → lok tEaL_l7_st (18446744073709551616 : Nat) (tEaL_l7_T.mk tAw_s5 tLd_s1 tAw_s4 tAw_s5 tAw_s6 tAw_s7 (fNew_s2 (3 : Int)) (fNew_s5 (2 : Int)) tAw_s0), (!bBox_s0 (fNew_s2 (3 : Int)) (fNew_s5 (2 : Int)) (1 : Int)) = true → bTiles_0 (fNew_s2 (3 : Int)) ≠ (0 : Int), (!bBox_s0 (fNew_s2 (3 : Int)) (fNew_s5 (2 : Int)) (1 : Int)) = true → bTiles_0 (fNew_s2 (3 : Int)) ≠ (0 : Int), (bBox_0 (fNew_s2 (3 : Int)) (fNew_s5 (2 : Int)) (1 : Int) == (0 : Int) && (bBox_1 (fNew_s2 (3 : Int)) (fNew_s5 (2 : Int)) (1 : Int) == (0 : Int) && (bBox_2 (fNew_s2 (3 : Int)) (fNew_s5 (2 : Int)) (1 : Int) == (0 : Int) && bBox_3 (fNew_s2 (3 : Int)) (fNew_s5 (2 : Int)) (1 : Int) == (0 : Int)))) = true, (!!tAw_0) = true → (!lTilStB_s0 n0_2) = true → decide (fNew_s6 (fSmF_s0 x0_0) (fSmF_s1 x0_1) < (0 : Int)) = false, (!!tAw_0) = true → (!lTilStB_s0 n0_2) = true → (bif decide ((0 : Int) < fSized_s0 (fSmF_s0 x0_0) (fSmF_s1 x0_1)) then true else decide ((9223372036854775807 : Int) < sRep_s1 (fNew_s6 (fSmF_s0 x0_0) (fSmF_s1 x0_1)))) = false, (!!tAw_0) = true → (!lTilStB_s0 n0_2) = true → (0 : Int) ≤ IntKind.wrap IntKind.i64 (sRep_s1 (fNew_s6 (fSmF_s0 x0_0) (fSmF_s1 x0_1))) ∧ IntKind.wrap IntKind.i64 (sRep_s1 (fNew_s6 (fSmF_s0 x0_0) (fSmF_s1 x0_1))) = IntKind.wrap IntKind.i64 (sRep_s1 (fNew_s6 (fSmF_s0 x0_0) (fSmF_s1 x0_1))) ∧ IntKind.wrap IntKind.i64 (sRep_s1 (fNew_s6 (fSmF_s0 x0_0) (fSmF_s1 x0_1))) * Int.ofNat (24 : Nat) ≤ (70368744177664 : Int), (!!tAw_0) = true → (!lTilStB_s0 n0_2) = true → lok sRep_l254_st (18446744073709551616 : Nat) (sRep_l254_T.mk (Int.ofNat (fSized_s1 (fSmF_s0 x0_0) (fSmF_s1 x0_1))) (List.take (0 : Nat) (sRep_s2 (fNew_s6 (fSmF_s0 x0_0) (fSmF_s1 x0_1))) ++ List.take (List.length (sRep_s2 (fNew_s6 (fSmF_s0 x0_0) (fSmF_s1 x0_1)))) (sRep_s0 (0 : Int) (0 : Int) (0 : Int) (0 : Int) (65535 : Int) (0 : Int)) ++ List.drop ((0 : Nat) + fSized_s1 (fSmF_s0 x0_0) (fSmF_s1 x0_1)) (sRep_s2 (fNew_s6 (fSmF_s0 x0_0) (fSmF_s1 x0_1))))), (!!tAw_0) = true → (!lTilStB_s0 n0_2) = true → lok fSized_l29_st (18446744073709551616 : Nat) (fSized_l29_T.mk (fSmF_s0 x0_0) (fSmF_s1 x0_1) (0 : Int) x0_0 x0_1 n0_2 y0_2 (0 : Int) (0 : Int) (fNew_s2 (fSmF_s0 x0_0)) (fNew_s5 (fSmF_s1 x0_1)) (fNew_0 (fSmF_s0 x0_0) (fSmF_s1 x0_1) (0 : Int) (0 : Int) (0 : Int) (0 : Int) (65535 : Int) (0 : Int))), (!!tAw_0) = true → (!lTilStB_s0 n0_2) = true → bGTiles_0 (fSmF_0 x0_0 x0_1 n0_2 y0_2) (fSmF_1 x0_0 x0_1 n0_2 y0_2) ≠ (0 : Int), (!!tAw_0) = true → (!lTilStB_s0 n0_2) = true → (!bBox_s0 (fSmF_0 x0_0 x0_1 n0_2 y0_2) (fSmF_1 x0_0 x0_1 n0_2 y0_2) (lTilStB_s1 x0_0 x0_1 n0_2 x1 y0_2)) = true → bTiles_0 (fSmF_0 x0_0 x0_1 n0_2 y0_2) ≠ (0 : Int), (!!tAw_0) = true → (!lTilStB_s0 n0_2) = true → (!bBox_s0 (fSmF_0 x0_0 x0_1 n0_2 y0_2) (fSmF_1 x0_0 x0_1 n0_2 y0_2) (lTilStB_s1 x0_0 x0_1 n0_2 x1 y0_2)) = true → bTiles_0 (fSmF_0 x0_0 x0_1 n0_2 y0_2) ≠ (0 : Int), (!!tAw_0) = true → (!lTilStB_s0 n0_2) = true → (lTilStB_s10 x0_0 x0_1 n0_2 x1 y0_2 == (0 : Int) && (lTilStB_s11 x0_0 x0_1 n0_2 x1 y0_2 == (0 : Int) && (lTilStB_s12 x0_0 x0_1 n0_2 x1 y0_2 == (0 : Int) && lTilStB_s13 x0_0 x0_1 n0_2 x1 y0_2 == (0 : Int)))) = false, (!!tAw_0) = true → (!lTilStB_s0 n0_2) = true → (!!tRt_0 (lTilStB_s10 x0_0 x0_1 n0_2 x1 y0_2) (lTilStB_s11 x0_0 x0_1 n0_2 x1 y0_2) (lTilStB_s12 x0_0 x0_1 n0_2 x1 y0_2) (lTilStB_s13 x0_0 x0_1 n0_2 x1 y0_2)) = true → lok tEaL_l7_st (18446744073709551616 : Nat) (tEaL_l7_T.mk (lTilStB_s11 x0_0 x0_1 n0_2 x1 y0_2) tLd_s1 (lTilStB_s10 x0_0 x0_1 n0_2 x1 y0_2) (lTilStB_s11 x0_0 x0_1 n0_2 x1 y0_2) (lTilStB_s12 x0_0 x0_1 n0_2 x1 y0_2) (lTilStB_s13 x0_0 x0_1 n0_2 x1 y0_2) (fSmF_0 x0_0 x0_1 n0_2 y0_2) (fSmF_1 x0_0 x0_1 n0_2 y0_2) (fSmF_2 x0_0 x0_1 n0_2 y0_2)), (!!tAw_0) = true → (!lTilStB_s0 n0_2) = true → (!lTilStB_s6 x0_0 x0_1 n0_2 x1 x2 x3 y0_2) = true, (!!tAw_0) = true → (!lTilStB_s0 n0_2) = true → (!lTilStB_s7 x0_0 x0_1 n0_2 x1 x2 x3 y0_2) = true → List.length (fSmF_2 x0_0 x0_1 n0_2 y0_2) ≠ (0 : Nat), (!!tAw_0) = true → (!lTilStB_s0 n0_2) = true → (!lTilStB_s7 x0_0 x0_1 n0_2 x1 x2 x3 y0_2) = true → List.length (sClone_s0 (fSmF_2 x0_0 x0_1 n0_2 y0_2)) * (24 : Nat) ≤ (70368744177664 : Nat), (!!tAw_0) = true → (!lTilStB_s0 n0_2) = true → (!lTilStB_s7 x0_0 x0_1 n0_2 x1 x2 x3 y0_2) = true → List.length (fSmF_2 x0_0 x0_1 n0_2 y0_2) ≠ (0 : Nat), (!!tAw_0) = true → (!lTilStB_s0 n0_2) = true → (!lTilStB_s7 x0_0 x0_1 n0_2 x1 x2 x3 y0_2) = true → List.length (sClone_s0 (fSmF_2 x0_0 x0_1 n0_2 y0_2)) * (24 : Nat) ≤ (70368744177664 : Nat), (!!tAw_0) = true → (!lTilStB_s0 n0_2) = true → (!lTilStB_s7 x0_0 x0_1 n0_2 x1 x2 x3 y0_2) = true → (!!tRt_0 (lTilStB_s2 x0_0 x0_1 n0_2 x1 y0_2) (lTilStB_s3 x0_0 x0_1 n0_2 x1 y0_2) (lTilStB_s4 x0_0 x0_1 n0_2 x1 y0_2) (lTilStB_s5 x0_0 x0_1 n0_2 x1 y0_2)) = true → lok tEaS_l7_st (18446744073709551616 : Nat) (tEaS_l7_T.mk (lTilStB_s3 x0_0 x0_1 n0_2 x1 y0_2) (lTilStB_s8 x0_0 x0_1 n0_2 x1 y0_2) (lTilStB_s2 x0_0 x0_1 n0_2 x1 y0_2) (lTilStB_s3 x0_0 x0_1 n0_2 x1 y0_2) (lTilStB_s4 x0_0 x0_1 n0_2 x1 y0_2) (lTilStB_s5 x0_0 x0_1 n0_2 x1 y0_2) (fSmF_0 x0_0 x0_1 n0_2 y0_2) (fSmF_1 x0_0 x0_1 n0_2 y0_2) (sClone_s0 (fSmF_2 x0_0 x0_1 n0_2 y0_2))), (!!tAw_0) = true → (!lTilStB_s0 n0_2) = true → (!lTilStB_s7 x0_0 x0_1 n0_2 x1 x2 x3 y0_2) = true → fSame_s0 (fSmF_0 x0_0 x0_1 n0_2 y0_2) (fSmF_1 x0_0 x0_1 n0_2 y0_2) (fSmF_0 x0_0 x0_1 n0_2 y0_2) (fSmF_1 x0_0 x0_1 n0_2 y0_2) = true → (!sEqual_s0 (sClone_s0 (fSmF_2 x0_0 x0_1 n0_2 y0_2)) (lTilStB_s9 x0_0 x0_1 n0_2 x1 y0_2)) = true → lok sEqual_l29_st (18446744073709551616 : Nat) (sEqual_l29_T.mk false (Int.ofNat (List.length (sClone_s0 (fSmF_2 x0_0 x0_1 n0_2 y0_2)))) (0 : Int) (sClone_s0 (fSmF_2 x0_0 x0_1 n0_2 y0_2)) (lTilStB_s9 x0_0 x0_1 n0_2 x1 y0_2))]
theorem lTilStB_p (x0_0 : Int) (x0_1 : Int) (n0_2 : Nat) (x1 : Int) (x2 : Int) (x3 : Int) (x4_0 : Int) (x4_1 : Int) (x4_2 : Int) (x4_3 : Int) (x4_4 : Int) (x4_5 : Int) (y0_2 : List (List Int)) : evG Try.prog tabTa8 2000 16 [0, 1, 2, 3, 4, 5, 9, 10, 11, 12, 13, 14, 15, 16, 17, 18, 20, 24, 39, 56, 60] [] [] [.g [.int true .u8 x0_0, .int true .u8 x0_1, .slc true 0 0 0 6 0 n0_2], .a (.int true .u8 x1), .a (.int true .u8 x2), .a (.int true .u8 x3), .g [.int true .u8 x4_0, .int true .u8 x4_1, .int true .u8 x4_2, .int true .u8 x4_3, .int true .u16 x4_4, .int true .u8 x4_5]] [⟨⟨0, 0, true, some ⟨0, [.int .u8, .int .u8, .int .u8, .int .u8, .int .u16, .int .u8], y0_2, none⟩⟩, []⟩] = some (lTilStB_o x0_0 x0_1 n0_2 x1 x2 x3 x4_0 x4_1 x4_2 x4_3 x4_4 x4_5 y0_2, LV.a (At.bool true (lTilStB_0 x0_0 x0_1 n0_2 x1 x2 x3 y0_2)), [none]) := by kernel_rfl
def lTilStB_c : Con
  | [.g [.int true .u8 x0_0, .int true .u8 x0_1, .slc true 0 0 0 6 0 n0_2], .a (.int true .u8 x1), .a (.int true .u8 x2), .a (.int true .u8 x3), .g [.int true .u8 x4_0, .int true .u8 x4_1, .int true .u8 x4_2, .int true .u8 x4_3, .int true .u16 x4_4, .int true .u8 x4_5]], [⟨⟨0, 0, true, some ⟨0, [.int .u8, .int .u8, .int .u8, .int .u8, .int .u16, .int .u8], y0_2, none⟩⟩, []⟩] => some (lTilStB_o x0_0 x0_1 n0_2 x1 x2 x3 x4_0 x4_1 x4_2 x4_3 x4_4 x4_5 y0_2, LV.a (At.bool true (lTilStB_0 x0_0 x0_1 n0_2 x1 x2 x3 y0_2)), [none])
  | _, _ => none
theorem lTilStB_ok : ConOK Try.prog 16 (normC lTilStB_c) := normC_ok (by
  intro args bs obs lv out h ho φ vs w may ha hM
  unfold lTilStB_c at h
  split at h
  · simp only [Option.some.injEq, Prod.mk.injEq] at h
    obtain ⟨rfl, rfl, rfl⟩ := h
    rename_i x0_0 x0_1 n0_2 x1 x2 x3 x4_0 x4_1 x4_2 x4_3 x4_4 x4_5 y0_2
    exact evG_ok tabTa8_ok follows _ _ _ _ _ (lTilStB_p x0_0 x0_1 n0_2 x1 x2 x3 x4_0 x4_1 x4_2 x4_3 x4_4 x4_5 y0_2) ho φ vs w may ha hM
  · cases h)
theorem lTilStB_en : Enters Try.prog 16 := fun args => by kernel_rfl
-- 13313 124 22 ms

def tabTa9 : Tab := (16, normC lTilStB_c) :: tabTa8
theorem tabTa9_ok : TOK Try.prog tabTa9 := TOK.cons lTilStB_en lTilStB_ok (tabTa8_ok)

end Go.Proofs.Ytcdejlgophpdjaa
end

