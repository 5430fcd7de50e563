/-
  Pictures, in plain numbers: their pixels; which are the same; pictures by small numbers.
-/
import Derived.Test.YtcdejlgophpdjaaFg2
import Derived.Test.YtcdejlgophpdjaaFf
namespace Go.Proofs.Ytcdejlgophpdjaa
open Go Go.RowKit Go.Proofs.Ytcdejlgophpdjaa.V
set_option linter.unusedVariables false
set_option linter.unusedSectionVars false

theorem inv_run {α : Type} {st : α → List Prop × List (X × Bool × α)} {I : Nat → α → Prop} {n : Nat} {x : X} (hx : x ≠ .n) (hs : ∀ i v, i < n → I i v → ∃ v', pick1 (st v).2 = some (.n, v') ∧ I (i + 1) v') (he : ∀ v, I n v → pick1 (st v).2 = some (x, v)) (ho : ∀ i v, i ≤ n → I i v → Alls (st v).1) :
    ∀ (d i : Nat) (v : α), i + d = n → I i v → ∀ f, d < f → (∃ v', lrun st f v = some (x, v') ∧ I n v') ∧ lok st f v
  | d, i, v, hi, h, 0, hf => by omega
  | 0, i, v, hi, h, f + 1, _ => by
    have : i = n := by omega
    subst this
    unfold lrun lok
    rw [he v h]
    refine ⟨⟨v, ?_, h⟩, ho i v (by omega) h, ?_⟩ <;> cases x <;> first | rfl | trivial | exact absurd rfl hx
  | d + 1, i, v, hi, h, f + 1, _ => by
    obtain ⟨v', h1, h2⟩ := hs i v (by omega) h
    obtain ⟨⟨u, a, b⟩, c⟩ := inv_run hx hs he ho d (i + 1) v' (by omega) h2 f (by omega)
    unfold lrun lok
    rw [h1]
    exact ⟨⟨u, a, b⟩, ho i v (by omega) h, c⟩

def inn (w h : Nat) (x y : Int) : Bool := decide (0 ≤ x ∧ x < (w : Int) ∧ 0 ≤ y ∧ y < (h : Int))
def ixp (w : Nat) (x y : Int) : Nat := (fAt_s0 (w : Int) x y).toNat

section
variable {w h : Nat} (w1 : w ≤ 64) (h1 : h ≤ 64)
include w1 h1
theorem in_ix {x y : Int} (hi : inn w h x y = true) : fAt_s0 (w : Int) x y = (ixp w x y : Int) ∧ ixp w x y < w * h := by
  obtain ⟨a, b, c, d⟩ := of_decide_eq_true hi
  have e := at_in (l := List.replicate (w * h) []) w1 h1 (by simp) (x := x.toNat) (y := y.toNat) (by omega) (by omega)
  rw [Int.toNat_of_nonneg a, Int.toNat_of_nonneg c, List.length_replicate] at e
  unfold ixp
  rw [e.1]
  exact ⟨rfl, e.2⟩
theorem at_s1 {l : List (List Int)} (hl : l.length = w * h) (x y : Int) : fAt_s1 (w : Int) (h : Int) x y l = !inn w h x y := by
  unfold fAt_s1
  by_cases hi : inn w h x y = true
  · obtain ⟨a, b⟩ := in_ix w1 h1 hi
    obtain ⟨c, d, e, f⟩ := of_decide_eq_true hi
    rw [hi, decide_eq_false (by omega), decide_eq_false (by omega), decide_eq_false (by omega), decide_eq_false (by omega), a, hl]
    have : ¬ Int.ofNat (w * h) ≤ (ixp w x y : Int) := by
      have z : Int.ofNat (w * h) = ((w * h : Nat) : Int) := rfl
      rw [z]; omega
    rw [decide_eq_false this]; rfl
  · have hn : ¬ (0 ≤ x ∧ x < (w : Int) ∧ 0 ≤ y ∧ y < (h : Int)) := fun k => hi (decide_eq_true k)
    rw [show inn w h x y = false by cases hh : inn w h x y; rfl; exact absurd hh hi]
    by_cases a : x < 0
    · rw [decide_eq_true a]; rfl
    · by_cases b : (w : Int) ≤ x
      · rw [decide_eq_false a, decide_eq_true b]; rfl
      · by_cases c : y < 0
        · rw [decide_eq_false a, decide_eq_false b, decide_eq_true c]; rfl
        · rw [decide_eq_false a, decide_eq_false b, decide_eq_false c, decide_eq_true (show (h : Int) ≤ y by omega)]; rfl
theorem set_s1 {l : List (List Int)} (hl : l.length = w * h) (x y : Int) : fSet_s1 (w : Int) (h : Int) x y l = inn w h x y := by
  unfold fSet_s1
  by_cases hi : inn w h x y = true
  · obtain ⟨a, b⟩ := in_ix w1 h1 hi
    obtain ⟨c, d, e, f⟩ := of_decide_eq_true hi
    have a' : fSet_s0 (w : Int) x y = (ixp w x y : Int) := a
    have : (ixp w x y : Int) < Int.ofNat (w * h) := Int.ofNat_lt.2 b
    rw [hi, decide_eq_true c, decide_eq_true d, decide_eq_true e, decide_eq_true f, a', hl, decide_eq_true this]; rfl
  · have hn : ¬ (0 ≤ x ∧ x < (w : Int) ∧ 0 ≤ y ∧ y < (h : Int)) := fun k => hi (decide_eq_true k)
    rw [show inn w h x y = false by cases hh : inn w h x y; rfl; exact absurd hh hi]
    by_cases a : 0 ≤ x
    · by_cases b : x < (w : Int)
      · by_cases c : 0 ≤ y
        · rw [decide_eq_true a, decide_eq_true b, decide_eq_true c, decide_eq_false (show ¬ y < (h : Int) by omega)]; rfl
        · rw [decide_eq_true a, decide_eq_true b, decide_eq_false c]; rfl
      · rw [decide_eq_true a, decide_eq_false b]; rfl
    · rw [decide_eq_false a]; rfl
theorem at_ob {l : List (List Int)} (hl : l.length = w * h) {x y : Int} (g : (!fAt_s1 (w : Int) (h : Int) x y l) = true) : 0 ≤ fAt_s0 (w : Int) x y ∧ fAt_s0 (w : Int) x y < Int.ofNat l.length := by
  rw [at_s1 w1 h1 hl, Bool.not_not] at g
  obtain ⟨a, b⟩ := in_ix w1 h1 g
  rw [a, hl]
  exact ⟨by omega, Int.ofNat_lt.2 b⟩
theorem set_ob {l : List (List Int)} (hl : l.length = w * h) {x y : Int} (g : fSet_s1 (w : Int) (h : Int) x y l = true) : 0 ≤ fSet_s0 (w : Int) x y ∧ fSet_s0 (w : Int) x y < Int.ofNat l.length := by
  rw [set_s1 w1 h1 hl] at g
  obtain ⟨a, b⟩ := in_ix w1 h1 g
  have a' : fSet_s0 (w : Int) x y = (ixp w x y : Int) := a
  rw [a', hl]
  exact ⟨by omega, Int.ofNat_lt.2 b⟩
theorem set_eq {l : List (List Int)} (hl : l.length = w * h) (x y p0 p1 p2 p3 p4 p5 : Int) : fSet_0 (w : Int) (h : Int) x y p0 p1 p2 p3 p4 p5 l = bif inn w h x y then l.set (ixp w x y) [p0, p1, p2, p3, p4, p5] else l := by
  unfold fSet_0
  rw [set_s1 w1 h1 hl]; rfl
theorem set_len {l : List (List Int)} (hl : l.length = w * h) (x y p0 p1 p2 p3 p4 p5 : Int) : (fSet_0 (w : Int) (h : Int) x y p0 p1 p2 p3 p4 p5 l).length = w * h := by
  rw [set_eq w1 h1 hl]
  cases inn w h x y
  · exact hl
  · show (List.set _ _ _).length = _
    rw [List.length_set]; exact hl

/-- A pixel's j-th number. -/
def px (w h : Nat) (l : List (List Int)) (x y : Int) (j : Nat) : Int := bif inn w h x y then rget l (ixp w x y) j else 0
section
variable {l : List (List Int)} (hl : l.length = w * h) (x y : Int)
include hl
theorem px_0 : fAt_0 (w : Int) (h : Int) x y l = px w h l x y 0 := by
  unfold fAt_0 px; rw [at_s1 w1 h1 hl]; cases inn w h x y <;> rfl
theorem px_1 : fAt_1 (w : Int) (h : Int) x y l = px w h l x y 1 := by
  unfold fAt_1 px; rw [at_s1 w1 h1 hl]; cases inn w h x y <;> rfl
theorem px_2 : fAt_2 (w : Int) (h : Int) x y l = px w h l x y 2 := by
  unfold fAt_2 px; rw [at_s1 w1 h1 hl]; cases inn w h x y <;> rfl
theorem px_3 : fAt_3 (w : Int) (h : Int) x y l = px w h l x y 3 := by
  unfold fAt_3 px; rw [at_s1 w1 h1 hl]; cases inn w h x y <;> rfl
theorem px_4 : fAt_4 (w : Int) (h : Int) x y l = px w h l x y 4 := by
  unfold fAt_4 px; rw [at_s1 w1 h1 hl]; cases inn w h x y <;> rfl
theorem px_5 : fAt_5 (w : Int) (h : Int) x y l = px w h l x y 5 := by
  unfold fAt_5 px; rw [at_s1 w1 h1 hl]; cases inn w h x y <;> rfl
end
end

/-- Two pixels. -/
def Eq6 (w h : Nat) (l m : List (List Int)) (x y : Int) : Bool := fAt_0 (w : Int) (h : Int) x y l == fAt_0 (w : Int) (h : Int) x y m && (fAt_1 (w : Int) (h : Int) x y l == fAt_1 (w : Int) (h : Int) x y m && (fAt_2 (w : Int) (h : Int) x y l == fAt_2 (w : Int) (h : Int) x y m && fAt_3 (w : Int) (h : Int) x y l == fAt_3 (w : Int) (h : Int) x y m)) && (fAt_4 (w : Int) (h : Int) x y l == fAt_4 (w : Int) (h : Int) x y m && fAt_5 (w : Int) (h : Int) x y l == fAt_5 (w : Int) (h : Int) x y m)

/-! In a box. -/
section
variable {w h : Nat} (w1 : w ≤ 64) (h1 : h ≤ 64) {l m : List (List Int)} (hl : l.length = w * h) (hm : m.length = w * h) {x0 y0 x1 y1 : Nat} (xx : x0 ≤ x1) (yy : y0 ≤ y1) (x64 : x1 ≤ 64) (y64 : y1 ≤ 64)

def iS (w h : Nat) (l m : List (List Int)) (x0 y0 x1 y1 y x : Nat) : fSameIn_l841_T := .mk false (y : Int) (x : Int) true (w : Int) (h : Int) l (w : Int) (h : Int) m (x0 : Int) (y0 : Int) (x1 : Int) (y1 : Int)
def oS (w h : Nat) (l m : List (List Int)) (x0 y0 x1 y1 y : Nat) : fSameIn_l13_T := .mk false (y : Int) (w : Int) (h : Int) l (w : Int) (h : Int) m (x0 : Int) (y0 : Int) (x1 : Int) (y1 : Int)

include x64 in
theorem i_s1 (y x : Nat) : fSameIn_l841_s1 (iS w h l m x0 y0 x1 y1 y x) = decide (x < x1) := by
  unfold fSameIn_l841_s1 fSameIn_l841_s0
  show decide ((x : Int) < if 64 < (x1 : Int) then 64 else (x1 : Int)) = _
  rw [if_neg (by omega)]
  exact decide_eq_decide.2 Int.ofNat_lt
theorem i_s2 (y x : Nat) : fSameIn_l841_s2 (iS w h l m x0 y0 x1 y1 y x) = !Eq6 w h l m x y := rfl
include x64 in
theorem i_step (y x : Nat) (hx : x < x1) (e : Eq6 w h l m x y = true) : pick1 (fSameIn_l841_st (iS w h l m x0 y0 x1 y1 y x)).2 = some (.n, iS w h l m x0 y0 x1 y1 y (x + 1)) := by
  unfold fSameIn_l841_st
  rw [i_s1 x64, i_s2, e, decide_eq_true hx]
  have : IntKind.wrap .i64 ((iS w h l m x0 y0 x1 y1 y x).a2 + 1) = ((x + 1 : Nat) : Int) := by
    show IntKind.wrap .i64 ((x : Int) + 1) = _
    rw [w64_in (by omega) (by omega)]; omega
  rw [this]; rfl
include x64 in
theorem i_bad (y x : Nat) (hx : x < x1) (e : Eq6 w h l m x y = false) : pick1 (fSameIn_l841_st (iS w h l m x0 y0 x1 y1 y x)).2 = some (.r, iS w h l m x0 y0 x1 y1 y x) := by
  unfold fSameIn_l841_st
  rw [i_s1 x64, i_s2, e, decide_eq_true hx]; rfl
include x64 in
theorem i_end (y : Nat) : pick1 (fSameIn_l841_st (iS w h l m x0 y0 x1 y1 y x1)).2 = some (.e 2, iS w h l m x0 y0 x1 y1 y x1) := by
  unfold fSameIn_l841_st
  rw [i_s1 x64, i_s2, decide_eq_false (Nat.lt_irrefl _)]; rfl
include w1 h1 hl hm in
theorem i_obs (y x : Nat) : Alls (fSameIn_l841_st (iS w h l m x0 y0 x1 y1 y x)).1 :=
  ⟨fun _ g => at_ob w1 h1 hl g, fun _ g => at_ob w1 h1 hm g, trivial⟩

/-- Are all of a row the same? -/
def rowOK (w h : Nat) (l m : List (List Int)) (x0 x1 y : Nat) : Prop := ∀ x : Nat, x0 ≤ x → x < x1 → Eq6 w h l m x y = true

include w1 h1 hl hm xx x64 in
theorem i_run (y : Nat) : ((rowOK w h l m x0 x1 y ∧ lrun fSameIn_l841_st 18446744073709551616 (iS w h l m x0 y0 x1 y1 y x0) = some (.e 2, iS w h l m x0 y0 x1 y1 y x1)) ∨ (¬ rowOK w h l m x0 x1 y ∧ ∃ x, lrun fSameIn_l841_st 18446744073709551616 (iS w h l m x0 y0 x1 y1 y x0) = some (.r, iS w h l m x0 y0 x1 y1 y x))) ∧ lok fSameIn_l841_st 18446744073709551616 (iS w h l m x0 y0 x1 y1 y x0) := by
  obtain ⟨k, a, b, c⟩ := first (fun i => Eq6 w h l m ((x0 + i : Nat) : Int) y = true) (x1 - x0)
  have hs : ∀ i, i < k → pick1 (fSameIn_l841_st (iS w h l m x0 y0 x1 y1 y (x0 + i))).2 = some (.n, iS w h l m x0 y0 x1 y1 y (x0 + (i + 1))) := fun i hi => i_step x64 y (x0 + i) (by omega) (b i hi)
  by_cases hk : k = x1 - x0
  · have he : pick1 (fSameIn_l841_st (iS w h l m x0 y0 x1 y1 y (x0 + k))).2 = some (.e 2, iS w h l m x0 y0 x1 y1 y x1) := by
      rw [show x0 + k = x1 by omega]; exact i_end x64 y
    refine ⟨.inl ⟨fun x h2 h3 => ?_, lx_run (s := fun i => iS w h l m x0 y0 x1 y1 y (x0 + i)) hs he nofun (by omega)⟩, lx_lok (s := fun i => iS w h l m x0 y0 x1 y1 y (x0 + i)) hs he nofun (fun i _ => i_obs w1 h1 hl hm y _) (by omega)⟩
    have := b (x - x0) (by omega)
    rwa [show x0 + (x - x0) = x by omega] at this
  · have hf : Eq6 w h l m ((x0 + k : Nat) : Int) y = false := by
      have := c.resolve_left hk
      cases hh : Eq6 w h l m ((x0 + k : Nat) : Int) y
      · rfl
      · exact absurd hh this
    have he := i_bad (w := w) (h := h) (l := l) (m := m) (x0 := x0) (y0 := y0) (y1 := y1) x64 y (x0 + k) (by omega) hf
    refine ⟨.inr ⟨fun hr => ?_, x0 + k, lx_run (s := fun i => iS w h l m x0 y0 x1 y1 y (x0 + i)) hs he nofun (by omega)⟩, lx_lok (s := fun i => iS w h l m x0 y0 x1 y1 y (x0 + i)) hs he nofun (fun i _ => i_obs w1 h1 hl hm y _) (by omega)⟩
    rw [hr (x0 + k) (by omega) (by omega)] at hf; cases hf

include y64 in
theorem o_s1 (y : Nat) : fSameIn_l13_s1 (oS w h l m x0 y0 x1 y1 y) = decide (y < y1) := by
  unfold fSameIn_l13_s1 fSameIn_l13_s0
  show decide ((y : Int) < if 64 < (y1 : Int) then 64 else (y1 : Int)) = _
  rw [if_neg (by omega)]
  exact decide_eq_decide.2 Int.ofNat_lt
theorem o_in : (if (x0 : Int) < 0 then (0 : Int) else (x0 : Int)) = (x0 : Int) := if_neg (by omega)
include y64 in
theorem o_s2 (y : Nat) (hy : y < y1) : fSameIn_l13_s2 (oS w h l m x0 y0 x1 y1 y) = lrun fSameIn_l841_st 18446744073709551616 (iS w h l m x0 y0 x1 y1 y x0) := by
  unfold fSameIn_l13_s2
  rw [o_s1 y64, decide_eq_true hy]
  show lrun _ _ (fSameIn_l841_T.mk false (y : Int) (if (x0 : Int) < 0 then (0 : Int) else (x0 : Int)) true w h l w h m x0 y0 x1 y1) = _
  rw [o_in]; rfl
include y64 in
theorem o_step (y : Nat) (hy : y < y1) (e : lrun fSameIn_l841_st 18446744073709551616 (iS w h l m x0 y0 x1 y1 y x0) = some (.e 2, iS w h l m x0 y0 x1 y1 y x1)) : pick1 (fSameIn_l13_st (oS w h l m x0 y0 x1 y1 y)).2 = some (.n, oS w h l m x0 y0 x1 y1 (y + 1)) := by
  unfold fSameIn_l13_st
  rw [o_s2 y64 y hy, e, o_s1 y64, decide_eq_true hy]
  have : IntKind.wrap .i64 ((V.valOf (some (X.e 2, iS w h l m x0 y0 x1 y1 y x1))).a1 + 1) = ((y + 1 : Nat) : Int) := by
    show IntKind.wrap .i64 ((y : Int) + 1) = _
    rw [w64_in (by omega) (by omega)]; omega
  rw [this]; rfl
include y64 in
theorem o_bad (y : Nat) (hy : y < y1) {x : Nat} (e : lrun fSameIn_l841_st 18446744073709551616 (iS w h l m x0 y0 x1 y1 y x0) = some (.r, iS w h l m x0 y0 x1 y1 y x)) : pick1 (fSameIn_l13_st (oS w h l m x0 y0 x1 y1 y)).2 = some (.r, oS w h l m x0 y0 x1 y1 y) := by
  unfold fSameIn_l13_st
  rw [o_s2 y64 y hy, e, o_s1 y64, decide_eq_true hy]; rfl
include y64 in
theorem o_end : pick1 (fSameIn_l13_st (oS w h l m x0 y0 x1 y1 y1)).2 = some (.e 0, oS w h l m x0 y0 x1 y1 y1) := by
  unfold fSameIn_l13_st
  rw [o_s1 y64, decide_eq_false (Nat.lt_irrefl _)]; rfl
include w1 h1 hl hm xx x64 y64 in
theorem o_obs (y : Nat) : Alls (fSameIn_l13_st (oS w h l m x0 y0 x1 y1 y)).1 := by
  refine ⟨fun g => ?_, trivial⟩
  rw [g]
  show lok _ _ (fSameIn_l841_T.mk false (y : Int) (if (x0 : Int) < 0 then (0 : Int) else (x0 : Int)) true w h l w h m x0 y0 x1 y1)
  rw [o_in]
  exact (i_run w1 h1 hl hm xx x64 y).2

include w1 h1 hl hm xx yy x64 y64 in
theorem sameIn : (fSameIn_0 (w : Int) (h : Int) (w : Int) (h : Int) (x0 : Int) (y0 : Int) (x1 : Int) (y1 : Int) l m = true ↔ ∀ y : Nat, y0 ≤ y → y < y1 → rowOK w h l m x0 x1 y) ∧ lok fSameIn_l13_st 18446744073709551616 (fSameIn_l13_T.mk false (if (y0 : Int) < 0 then 0 else (y0 : Int)) (w : Int) (h : Int) l (w : Int) (h : Int) m (x0 : Int) (y0 : Int) (x1 : Int) (y1 : Int)) := by
  obtain ⟨k, a, b, c⟩ := first (fun i => rowOK w h l m x0 x1 (y0 + i)) (y1 - y0)
  have st0 : fSameIn_l13_T.mk false (if (y0 : Int) < 0 then 0 else (y0 : Int)) (w : Int) (h : Int) l (w : Int) (h : Int) m (x0 : Int) (y0 : Int) (x1 : Int) (y1 : Int) = oS w h l m x0 y0 x1 y1 (y0 + 0) := by
    rw [if_neg (by omega)]; rfl
  have hs : ∀ i, i < k → pick1 (fSameIn_l13_st (oS w h l m x0 y0 x1 y1 (y0 + i))).2 = some (.n, oS w h l m x0 y0 x1 y1 (y0 + (i + 1))) := fun i hi => by
    rcases (i_run (y0 := y0) (y1 := y1) w1 h1 hl hm xx x64 (y0 + i)).1 with ⟨_, e⟩ | ⟨e, _⟩
    · exact o_step y64 (y0 + i) (by omega) e
    · exact absurd (b i hi) e
  unfold fSameIn_0 fSameIn_s0
  rw [st0]
  by_cases hk : k = y1 - y0
  · have he : pick1 (fSameIn_l13_st (oS w h l m x0 y0 x1 y1 (y0 + k))).2 = some (.e 0, oS w h l m x0 y0 x1 y1 y1) := by
      rw [show y0 + k = y1 by omega]; exact o_end y64
    rw [lx_run (s := fun i => oS w h l m x0 y0 x1 y1 (y0 + i)) hs he nofun (by omega)]
    refine ⟨⟨fun _ y h2 h3 => ?_, fun _ => rfl⟩, lx_lok (s := fun i => oS w h l m x0 y0 x1 y1 (y0 + i)) hs he nofun (fun i _ => o_obs w1 h1 hl hm xx x64 y64 _) (by omega)⟩
    have := b (y - y0) (by omega)
    rwa [show y0 + (y - y0) = y by omega] at this
  · have hn := c.resolve_left hk
    rcases (i_run (y0 := y0) (y1 := y1) w1 h1 hl hm xx x64 (y0 + k)).1 with ⟨e, _⟩ | ⟨_, x, e⟩
    · exact absurd e hn
    have he := o_bad y64 (y0 + k) (by omega) e
    rw [lx_run (s := fun i => oS w h l m x0 y0 x1 y1 (y0 + i)) hs he nofun (by omega)]
    refine ⟨⟨fun h => ?_, fun h => absurd (h (y0 + k) (by omega) (by omega)) hn⟩, lx_lok (s := fun i => oS w h l m x0 y0 x1 y1 (y0 + i)) hs he nofun (fun i _ => o_obs w1 h1 hl hm xx x64 y64 _) (by omega)⟩
    cases h
end
end Go.Proofs.Ytcdejlgophpdjaa
