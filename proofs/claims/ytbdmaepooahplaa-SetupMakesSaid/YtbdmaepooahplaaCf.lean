/-
  What can be seen of a triangle, in plain numbers: planes, and where they cross.
-/
import Derived.Test.YtbdmaepooahplaaCa8
import Derived.Test.YtbdmaepooahplaaNa
namespace Go.Proofs.Ytbdmaepooahplaa
open Go Go.RowKit Go.Proofs.Ytbdmaepooahplaa.V
set_option linter.unusedVariables false
set_option linter.unusedSectionVars false

def wi (x : Int) : Int := if 4194304 < x then 4194304 else if x < -4194304 then -4194304 else x
theorem wi_bd (x : Int) : -4194304 ≤ wi x ∧ wi x ≤ 4194304 := by unfold wi; split <;> (try split) <;> omega
theorem wi_id {x : Int} (h : -4194304 ≤ x ∧ x ≤ 4194304) : wi x = x := by unfold wi; split <;> (try split) <;> omega
theorem fwi (x : Int) : fWithin_0 x 4194304 = wi x := by
  have e : fWithin_s1 4194304 = -4194304 := by unfold fWithin_s1; rw [w64_in (by omega) (by omega)]; omega
  unfold fWithin_0 fWithin_s0 wi
  rw [e]
  split <;> split <;> (try split) <;> (try split) <;> omega

/-- How far on the right side of a plane. -/
def ins (p0 p1 p2 p3 k : Int) : Int :=
  if k = 0 then p3 - 256 else if k = 1 then p2 else if k = 2 then p3 - p2 else if k = 3 then 8 * p3 + p0 else if k = 4 then 8 * p3 - p0 else if k = 5 then 8 * p3 + p1 else if k = 6 then 8 * p3 - p1 else 0

def Wn (x : Int) : Prop := -4194304 ≤ x ∧ x ≤ 4194304

theorem ins_bd {p0 p1 p2 p3 k : Int} (h0 : Wn p0) (h1 : Wn p1) (h2 : Wn p2) (h3 : Wn p3) : -40000000 ≤ ins p0 p1 p2 p3 k ∧ ins p0 p1 p2 p3 k ≤ 40000000 := by
  unfold Wn at *
  unfold ins
  repeat' split
  all_goals omega

theorem inside_eq (a b c d k : Int) : cInside_0 a b c d k = ins (wi a) (wi b) (wi c) (wi d) k := by
  have h0 := wi_bd a
  have h1 := wi_bd b
  have h2 := wi_bd c
  have h3 := wi_bd d
  have e1 : IntKind.wrap .i64 (wi d - 256) = wi d - 256 := w64_in (by omega) (by omega)
  have e2 : IntKind.wrap .i64 (wi d - wi c) = wi d - wi c := w64_in (by omega) (by omega)
  have e3 : IntKind.wrap .i64 (8 * wi d) = 8 * wi d := w64_in (by omega) (by omega)
  have e4 : IntKind.wrap .i64 (8 * wi d + wi a) = 8 * wi d + wi a := w64_in (by omega) (by omega)
  have e5 : IntKind.wrap .i64 (8 * wi d - wi a) = 8 * wi d - wi a := w64_in (by omega) (by omega)
  have e6 : IntKind.wrap .i64 (8 * wi d + wi b) = 8 * wi d + wi b := w64_in (by omega) (by omega)
  have e7 : IntKind.wrap .i64 (8 * wi d - wi b) = 8 * wi d - wi b := w64_in (by omega) (by omega)
  unfold cInside_0 cInside_s0 ins
  rw [fwi, fwi, fwi, fwi, e1, e2, e3, e4, e5, e6, e7]
  by_cases k0 : k = 0
  · subst k0; simp
  by_cases k1 : k = 1
  · subst k1; simp
  by_cases k2 : k = 2
  · subst k2; simp
  by_cases k3 : k = 3
  · subst k3; simp
  by_cases k4 : k = 4
  · subst k4; simp
  by_cases k5 : k = 5
  · subst k5; simp
  by_cases k6 : k = 6
  · subst k6; simp
  have b0 : (k == 0) = false := beq_false_of_ne k0
  have b1 : (k == 1) = false := beq_false_of_ne k1
  have b2 : (k == 2) = false := beq_false_of_ne k2
  have b3 : (k == 3) = false := beq_false_of_ne k3
  have b4 : (k == 4) = false := beq_false_of_ne k4
  have b5 : (k == 5) = false := beq_false_of_ne k5
  have b6 : (k == 6) = false := beq_false_of_ne k6
  simp [b0, b1, b2, b3, b4, b5, b6, k0, k1, k2, k3, k4, k5, k6]

theorem r_inside {a b c d k : Int} (h0 : Wn a) (h1 : Wn b) (h2 : Wn c) (h3 : Wn d) (l : 0 ≤ k) (g : k ≤ 6) : r12In_0 a b c d k = ins a b c d k := by
  unfold Wn at *
  have e1 : IntKind.wrap .i64 (d - 256) = d - 256 := w64_in (by omega) (by omega)
  have e2 : IntKind.wrap .i64 (d - c) = d - c := w64_in (by omega) (by omega)
  have e3 : IntKind.wrap .i64 (8 * d) = 8 * d := w64_in (by omega) (by omega)
  have e4 : IntKind.wrap .i64 (8 * d + a) = 8 * d + a := w64_in (by omega) (by omega)
  have e5 : IntKind.wrap .i64 (8 * d + -a) = 8 * d - a := by rw [w64_in (by omega) (by omega)]; omega
  have e6 : IntKind.wrap .i64 (8 * d + b) = 8 * d + b := w64_in (by omega) (by omega)
  have e7 : IntKind.wrap .i64 (8 * d + -b) = 8 * d - b := by rw [w64_in (by omega) (by omega)]; omega
  have n0 : IntKind.wrap .i64 (0 - a) = -a := by rw [w64_in (by omega) (by omega)]; omega
  have n1 : IntKind.wrap .i64 (0 - b) = -b := by rw [w64_in (by omega) (by omega)]; omega
  have s3 : r12In_s1 a b c d 3 = a := rfl
  have s4 : r12In_s1 a b c d 4 = a := rfl
  have s5 : r12In_s1 a b c d 5 = b := rfl
  have s6 : r12In_s1 a b c d 6 = b := rfl
  have t3 : (Int.tmod 3 2 == 0) = false := by decide
  have t4 : (Int.tmod 4 2 == 0) = true := by decide
  have t5 : (Int.tmod 5 2 == 0) = false := by decide
  have t6 : (Int.tmod 6 2 == 0) = true := by decide
  have hc : k = 0 ∨ k = 1 ∨ k = 2 ∨ k = 3 ∨ k = 4 ∨ k = 5 ∨ k = 6 := by omega
  unfold r12In_0 ins
  rcases hc with rfl | rfl | rfl | rfl | rfl | rfl | rfl
  · rw [e1]; simp
  · simp
  · rw [e2]; simp
  · rw [s3, t3, e3]; simp [e4]
  · rw [s4, t4, e3, n0]; simp [e5]
  · rw [s5, t5, e3]; simp [e6]
  · rw [s6, t6, e3, n1]; simp [e7]

theorem r_inside_obs {k : Int} (l : 0 ≤ k) (g : k ≤ 6) (h0 : (!k == 0) = true) (h1 : (!k == 1) = true) (h2 : (!k == 2) = true) : (0 ≤ r12In_s0 k ∧ r12In_s0 k < 4) ∧ Int.toNat (r12In_s0 k) < 4 := by
  have k0 : k ≠ 0 := by simpa using h0
  have k1 : k ≠ 1 := by simpa using h1
  have k2 : k ≠ 2 := by simpa using h2
  have : r12In_s0 k = (k - 3) / 2 := by
    unfold r12In_s0
    rw [w64_in (n := k - 3) (by omega) (by omega), Int.tdiv_eq_ediv_of_nonneg (by omega)]
    exact w64_in (by omega) (by omega)
  rw [this]
  omega

/-! Where a plane is crossed. -/
theorem fl_ge {a b : Int} (h : 0 < b) : (a / b) * b ≤ a := Int.ediv_mul_le a (by omega)
theorem fl_lt {a b : Int} (h : 0 < b) : a < (a / b) * b + b := by
  have := Int.emod_add_mul_ediv a b
  have h2 := Int.emod_lt_of_pos a h
  rw [Int.mul_comm b] at this
  omega

/-- Between two numbers, by a share. -/
def btw (x y a b : Int) : Int := x + ((y - x) * a) / (a - b)

theorem btw_in {x y a b lo hi : Int} (ha : 0 ≤ a) (hb : b < 0) (x0 : lo ≤ x) (x1 : x ≤ hi) (y0 : lo ≤ y) (y1 : y ≤ hi) : lo ≤ btw x y a b ∧ btw x y a b ≤ hi := by
  have hs : 0 < a - b := by omega
  unfold btw
  constructor
  · suffices h : lo - x ≤ ((y - x) * a) / (a - b) by omega
    rw [Int.le_ediv_iff_mul_le hs]
    by_cases hyx : x ≤ y
    · have h1 : 0 ≤ (y - x) * a := Int.mul_nonneg (by omega) ha
      have h2 : (lo - x) * (a - b) ≤ 0 := Int.mul_nonpos_of_nonpos_of_nonneg (by omega) (by omega)
      omega
    · have h1 : (lo - x) * (a - b) ≤ (y - x) * (a - b) := Int.mul_le_mul_of_nonneg_right (by omega) (by omega)
      have h2 : (y - x) * (a - b) ≤ (y - x) * a := by
        have : (y - x) * (a - b) = (y - x) * a + (x - y) * b := by grind
        have h3 : (x - y) * b ≤ 0 := Int.mul_nonpos_of_nonneg_of_nonpos (by omega) (by omega)
        omega
      omega
  · suffices h : ((y - x) * a) / (a - b) < hi - x + 1 by omega
    apply Int.ediv_lt_of_lt_mul hs
    by_cases hyx : x ≤ y
    · have h1 : (y - x) * (a - b) ≤ (hi - x) * (a - b) := Int.mul_le_mul_of_nonneg_right (by omega) (by omega)
      have h2 : (y - x) * a ≤ (y - x) * (a - b) := by
        have : (y - x) * (a - b) = (y - x) * a + (x - y) * b := by grind
        have h3 : 0 ≤ (x - y) * b := by
          have := Int.mul_nonneg (show 0 ≤ y - x by omega) (show 0 ≤ -b by omega)
          have e : (y - x) * -b = (x - y) * b := by grind
          omega
        omega
      have h3 : (hi - x + 1) * (a - b) = (hi - x) * (a - b) + (a - b) := by grind
      omega
    · have h1 : (y - x) * a ≤ 0 := Int.mul_nonpos_of_nonpos_of_nonneg (by omega) ha
      have h2 : 0 < (hi - x + 1) * (a - b) := Int.mul_pos (by omega) hs
      omega

theorem big_mul {u a : Int} (h0 : -8388608 ≤ u ∧ u ≤ 8388608) (h1 : -40000000 ≤ a ∧ a ≤ 40000000) : -335544320000000 ≤ u * a ∧ u * a ≤ 335544320000000 := by
  have h : u.natAbs * a.natAbs ≤ 8388608 * 40000000 := Nat.mul_le_mul (by omega) (by omega)
  rw [← Int.natAbs_mul] at h
  omega

/-- A quotient, down, by what is above 0. -/
theorem floor_eq {n b : Int} (h : 0 < b) (n0 : -9223372036854775000 ≤ n) (n1 : n ≤ 9223372036854775000) : fFloor_0 n b = n / b := by
  unfold fFloor_0
  have h1 : (b == 0) = false := beq_false_of_ne (by omega)
  have h3 : decide (b < 0) = false := decide_eq_false (by omega)
  have hab : n.natAbs / b.natAbs ≤ n.natAbs := Nat.div_le_self _ _
  have hq : (Int.tdiv n b).natAbs ≤ n.natAbs := by rw [Int.natAbs_tdiv]; exact hab
  have w1 : IntKind.wrap .i64 (Int.tdiv n b) = Int.tdiv n b := w64_in (by omega) (by omega)
  have w2 : IntKind.wrap .i64 (Int.tdiv n b - 1) = Int.tdiv n b - 1 := w64_in (by omega) (by omega)
  rw [h1, h3, w1, w2]
  have hm := Int.tmod_add_mul_tdiv n b
  by_cases hn : 0 ≤ n
  · have h2 : decide (n < 0) = false := decide_eq_false (by omega)
    rw [h2, Int.tdiv_eq_ediv_of_nonneg hn]
    cases Int.tmod n b != 0 <;> rfl
  · have h2 : decide (n < 0) = true := decide_eq_true (by omega)
    rw [h2]
    have e := Int.emod_add_mul_ediv n b
    have e0 := Int.emod_nonneg n (show b ≠ 0 by omega)
    have e1 := Int.emod_lt_of_pos n h
    have tn : Int.tmod n b = -(Int.tmod (-n) b) := by rw [Int.neg_tmod, Int.neg_neg]
    have tp := Int.tmod_nonneg b (show 0 ≤ -n by omega)
    have tl := Int.tmod_lt_of_pos (-n) h
    have t0 : Int.tmod n b ≤ 0 := by omega
    have t1 : -b < Int.tmod n b := by omega
    by_cases hz : Int.tmod n b = 0
    · have : (Int.tmod n b != 0) = false := by simp [hz]
      rw [this]
      simp only [cond_false]
      have k : n = b * Int.tdiv n b := by omega
      rw [hz] at hm
      conv => rhs; rw [k]
      rw [Int.mul_ediv_cancel_left _ (by omega)]
    · have : (Int.tmod n b != 0) = true := by simp [hz]
      rw [this]
      simp only [cond_true]
      have k : b * (Int.tdiv n b) = n - Int.tmod n b := by omega
      have k2 : n / b = Int.tdiv n b - 1 := by
        have hb : n = (Int.tmod n b + b) + b * (Int.tdiv n b - 1) := by
          have : b * (Int.tdiv n b - 1) = b * Int.tdiv n b - b := by grind
          omega
        rw [hb, Int.add_mul_ediv_left _ _ (show b ≠ 0 by omega), Int.ediv_eq_zero_of_lt (by omega) (by omega)]
        rw [← hb]; omega
      rw [k2]; rfl

end Go.Proofs.Ytbdmaepooahplaa

namespace Go.Proofs.Ytbdmaepooahplaa
open Go Go.RowKit Go.Proofs.Ytbdmaepooahplaa.V
set_option linter.unusedVariables false
set_option linter.unusedSectionVars false

/-! Loops that count. -/
theorem lrun_count {α : Type} {st : α → List Prop × List (X × Bool × α)} {s : Nat → α} {n : Nat} {x : X} {v : α} (hs : ∀ i, i < n → pick1 (st (s i)).2 = some (.n, s (i + 1))) (he : pick1 (st (s n)).2 = some (x, v)) (hx : x ≠ .n) :
    ∀ (d i : Nat), i + d = n → ∀ (f : Nat), d < f → lrun st f (s i) = some (x, v)
  | 0, i, h, f + 1, _ => by
    have : i = n := by omega
    subst this
    unfold lrun
    rw [he]
    cases x <;> first | rfl | exact absurd rfl hx
  | d + 1, i, h, f + 1, hf => by
    unfold lrun
    rw [hs i (by omega)]
    exact lrun_count hs he hx d (i + 1) (by omega) f (by omega)

theorem lok_count {α : Type} {st : α → List Prop × List (X × Bool × α)} {s : Nat → α} {n : Nat} {x : X} {v : α} (hs : ∀ i, i < n → pick1 (st (s i)).2 = some (.n, s (i + 1))) (he : pick1 (st (s n)).2 = some (x, v)) (hx : x ≠ .n) (ho : ∀ i, i ≤ n → Alls (st (s i)).1) :
    ∀ (d i : Nat), i + d = n → ∀ (f : Nat), d < f → lok st f (s i)
  | 0, i, h, f + 1, _ => by
    have : i = n := by omega
    subst this
    unfold lok
    rw [he]
    exact ⟨ho i (by omega), by cases x <;> first | trivial | exact absurd rfl hx⟩
  | d + 1, i, h, f + 1, hf => by
    unfold lok
    rw [hs i (by omega)]
    exact ⟨ho i (by omega), lok_count hs he hx ho d (i + 1) (by omega) f (by omega)⟩

/-! One plane. -/
def r8 (r : List Int) : List Int := [r.getD 0 0, r.getD 1 0, r.getD 2 0, r.getD 3 0, r.getD 4 0, r.getD 5 0, r.getD 6 0, r.getD 7 0]
def insC (k : Int) (r : List Int) : Int := cInside_0 (r.getD 0 0) (r.getD 1 0) (r.getD 2 0) (r.getD 3 0) k
def crC (k : Int) (a b : List Int) : List Int := [
  cCross_0 (a.getD 0 0) (a.getD 1 0) (a.getD 2 0) (a.getD 3 0) (b.getD 0 0) (b.getD 1 0) (b.getD 2 0) (b.getD 3 0) k,
  cCross_1 (a.getD 0 0) (a.getD 1 0) (a.getD 2 0) (a.getD 3 0) (b.getD 0 0) (b.getD 1 0) (b.getD 2 0) (b.getD 3 0) k,
  cCross_2 (a.getD 0 0) (a.getD 1 0) (a.getD 2 0) (a.getD 3 0) (b.getD 0 0) (b.getD 1 0) (b.getD 2 0) (b.getD 3 0) k,
  cCross_3 (a.getD 0 0) (a.getD 1 0) (a.getD 2 0) (a.getD 3 0) (b.getD 0 0) (b.getD 1 0) (b.getD 2 0) (b.getD 3 0) k,
  cCross_4 (a.getD 0 0) (a.getD 1 0) (a.getD 2 0) (a.getD 3 0) (a.getD 4 0) (b.getD 0 0) (b.getD 1 0) (b.getD 2 0) (b.getD 3 0) (b.getD 4 0) k,
  cCross_5 (a.getD 0 0) (a.getD 1 0) (a.getD 2 0) (a.getD 3 0) (a.getD 5 0) (b.getD 0 0) (b.getD 1 0) (b.getD 2 0) (b.getD 3 0) (b.getD 5 0) k,
  cCross_6 (a.getD 0 0) (a.getD 1 0) (a.getD 2 0) (a.getD 3 0) (a.getD 6 0) (b.getD 0 0) (b.getD 1 0) (b.getD 2 0) (b.getD 3 0) (b.getD 6 0) k,
  cCross_7 (a.getD 0 0) (a.getD 1 0) (a.getD 2 0) (a.getD 3 0) (a.getD 7 0) (b.getD 0 0) (b.getD 1 0) (b.getD 2 0) (b.getD 3 0) (b.getD 7 0) k]
/-- What a vertex and the one after it give. -/
def emG (ins : List Int → Int) (cr : List Int → List Int → List Int) (a b : List Int) : List (List Int) :=
  (bif decide (0 ≤ ins a) then [r8 a] else []) ++ (bif bif decide (0 ≤ ins a) then !decide (0 ≤ ins b) else false then [cr a b] else bif bif decide (0 ≤ ins b) then !decide (0 ≤ ins a) else false then [cr b a] else [])
def pr (l : List (List Int)) (i : Nat) : List Int := l.getD (i % l.length) []
def outG (ins : List Int → Int) (cr : List Int → List Int → List Int) (l : List (List Int)) : Nat → List (List Int)
  | 0 => []
  | i + 1 => outG ins cr l i ++ emG ins cr (pr l i) (pr l (i + 1))
def byG (ins : List Int → Int) (cr : List Int → List Int → List Int) (l : List (List Int)) : List (List Int) := outG ins cr l l.length

theorem emG_len (ins : List Int → Int) (cr : List Int → List Int → List Int) (a b : List Int) : (emG ins cr a b).length ≤ 2 := by
  unfold emG
  cases decide (0 ≤ ins a) <;> cases decide (0 ≤ ins b) <;> simp
theorem outG_len (ins : List Int → Int) (cr : List Int → List Int → List Int) (l : List (List Int)) : ∀ i, (outG ins cr l i).length ≤ 2 * i
  | 0 => by simp [outG]
  | i + 1 => by
    have h1 := outG_len ins cr l i
    have h2 := emG_len ins cr (pr l i) (pr l (i + 1))
    unfold outG
    rw [List.length_append]
    omega

def byS (k : Int) (l : List (List Int)) (i : Nat) : cBy_l29_T := .mk k (Int.ofNat l.length) (Int.ofNat i) l (outG (insC k) (crC k) l i)

theorem by_r {l : List (List Int)} {i : Nat} (h : i < l.length) (j : Nat) : rget l (Int.toNat (Int.ofNat i)) j = (pr l i).getD j 0 := by
  unfold rget pr
  rw [Nat.mod_eq_of_lt h]; rfl
theorem by_i {l : List (List Int)} {i : Nat} (h : i < l.length) (hl : l.length ≤ 1000000) : IntKind.wrap .i64 (Int.ofNat i + 1) = Int.ofNat (i + 1) := by
  have e : Int.ofNat i = (i : Int) := rfl
  rw [w64_in (by omega) (by omega)]; rfl
theorem by_t {l : List (List Int)} {i : Nat} : Int.tmod (Int.ofNat i) (Int.ofNat l.length) = Int.ofNat (i % l.length) := rfl
theorem by_q {l : List (List Int)} {i : Nat} (j : Nat) : rget l (Int.toNat (Int.ofNat (i % l.length))) j = (pr l i).getD j 0 := rfl

theorem by_6 {k : Int} {l : List (List Int)} {i : Nat} (h : i < l.length) : cBy_l29_s6 (byS k l i) = decide (0 ≤ insC k (pr l i)) := by
  simp only [cBy_l29_s6, byS, by_r h, insC]; rfl
theorem by_13 {k : Int} {l : List (List Int)} {i : Nat} (h : i < l.length) (hl : l.length ≤ 1000000) : cBy_l29_s13 (byS k l i) = decide (0 ≤ insC k (pr l (i + 1))) := by
  simp only [cBy_l29_s13, cBy_l29_s8, cBy_l29_s9, cBy_l29_s10, cBy_l29_s11, cBy_l29_s1, byS, by_i h hl, by_t, by_q, insC]; rfl
theorem by_7 {k : Int} {l : List (List Int)} {i : Nat} (h : i < l.length) : cBy_l29_s7 (byS k l i) = outG (insC k) (crC k) l i ++ [r8 (pr l i)] := by
  simp only [cBy_l29_s7, byS, by_r h, r8]
theorem by_18 {k : Int} {l : List (List Int)} {i : Nat} (h : i < l.length) (hl : l.length ≤ 1000000) : cBy_l29_s18 (byS k l i) = (bif decide (0 ≤ insC k (pr l i)) then outG (insC k) (crC k) l i ++ [r8 (pr l i)] else outG (insC k) (crC k) l i) ++ [crC k (pr l i) (pr l (i + 1))] := by
  unfold cBy_l29_s18
  rw [by_6 h, by_7 h]
  simp only [cBy_l29_s8, cBy_l29_s9, cBy_l29_s10, cBy_l29_s11, cBy_l29_s14, cBy_l29_s15, cBy_l29_s16, cBy_l29_s17, cBy_l29_s1, byS, by_i h hl, by_t, by_q, by_r h, crC]
theorem by_19 {k : Int} {l : List (List Int)} {i : Nat} (h : i < l.length) (hl : l.length ≤ 1000000) : cBy_l29_s19 (byS k l i) = (bif decide (0 ≤ insC k (pr l i)) then outG (insC k) (crC k) l i ++ [r8 (pr l i)] else outG (insC k) (crC k) l i) ++ [crC k (pr l (i + 1)) (pr l i)] := by
  unfold cBy_l29_s19
  rw [by_6 h, by_7 h]
  simp only [cBy_l29_s8, cBy_l29_s9, cBy_l29_s10, cBy_l29_s11, cBy_l29_s14, cBy_l29_s15, cBy_l29_s16, cBy_l29_s17, cBy_l29_s1, byS, by_i h hl, by_t, by_q, by_r h, crC]

theorem by_0 {k : Int} {l : List (List Int)} {i : Nat} : cBy_l29_s0 (byS k l i) = decide (i < l.length) := by
  simp only [cBy_l29_s0, byS]
  by_cases h : i < l.length
  · rw [decide_eq_true h]; exact decide_eq_true (by simpa using h)
  · rw [decide_eq_false h]; exact decide_eq_false (by simpa using h)

theorem by_step {k : Int} {l : List (List Int)} (hl : l.length ≤ 1000000) {i : Nat} (h : i < l.length) : pick1 (cBy_l29_st (byS k l i)).2 = some (.n, byS k l (i + 1)) := by
  unfold cBy_l29_st
  rw [by_0, decide_eq_true h, by_6 h, by_13 h hl, by_18 h hl, by_19 h hl, by_7 h]
  simp only [pick1, Bool.not_true]
  have e1 : cBy_l29_s1 (byS k l i) = Int.ofNat (i + 1) := by simp only [cBy_l29_s1, byS, by_i h hl]
  rw [e1]
  have e2 : outG (insC k) (crC k) l (i + 1) = outG (insC k) (crC k) l i ++ emG (insC k) (crC k) (pr l i) (pr l (i + 1)) := rfl
  unfold byS
  rw [e2]
  simp only [emG]
  cases decide (0 ≤ insC k (pr l i)) <;> cases decide (0 ≤ insC k (pr l (i + 1))) <;> simp only [cond_true, cond_false, Bool.not_true, Bool.not_false, List.append_nil, List.nil_append, List.append_assoc, List.cons_append]

theorem by_end {k : Int} {l : List (List Int)} : pick1 (cBy_l29_st (byS k l l.length)).2 = some (.e 0, byS k l l.length) := by
  unfold cBy_l29_st
  rw [by_0, decide_eq_false (by omega)]
  rfl

theorem by_obs {k : Int} {l : List (List Int)} (hl : l.length ≤ 1000000) {i : Nat} (h : i ≤ l.length) : Alls (cBy_l29_st (byS k l i)).1 := by
  unfold cBy_l29_st
  rw [by_0]
  by_cases g : i < l.length
  · rw [decide_eq_true g, by_6 g, by_13 g hl, by_18 g hl, by_19 g hl, by_7 g]
    have e1 : cBy_l29_s1 (byS k l i) = Int.ofNat (i + 1) := by simp only [cBy_l29_s1, byS, by_i g hl]
    have e3 : (byS k l i).a3 = l := rfl
    have e2 : (byS k l i).a2 = Int.ofNat i := rfl
    have hm : (i + 1) % l.length < l.length := Nat.mod_lt _ (by omega)
    have ho := outG_len (insC k) (crC k) l i
    rw [e1, e3, e2, by_t]
    have n1 : Int.ofNat i = (i : Int) := rfl
    have n2 : Int.ofNat l.length = (l.length : Int) := rfl
    have n3 : Int.ofNat ((i + 1) % l.length) = (((i + 1) % l.length : Nat) : Int) := rfl
    rw [n1, n2, n3]
    refine ⟨fun _ => ⟨by omega, by omega⟩, fun _ => by omega, fun _ => ⟨by omega, by omega⟩, fun _ _ => ?_, fun _ _ => ?_, fun _ _ _ => ?_, trivial⟩
    · rw [List.length_append]; simp only [List.length_singleton]; omega
    · cases decide (0 ≤ insC k (pr l i)) <;> simp only [cond_true, cond_false, List.length_append, List.length_singleton] <;> omega
    · cases decide (0 ≤ insC k (pr l i)) <;> simp only [cond_true, cond_false, List.length_append, List.length_singleton] <;> omega
  · rw [decide_eq_false g]
    exact ⟨nofun, nofun, nofun, nofun, nofun, nofun, trivial⟩

theorem by_eq (k : Int) {l : List (List Int)} (hl : l.length ≤ 1000000) : cBy_0 k l = byG (insC k) (crC k) l := by
  unfold cBy_0
  have := lrun_count (st := cBy_l29_st) (s := byS k l) (n := l.length) (fun i h => by_step hl h) by_end nofun l.length 0 (by omega) 18446744073709551616 (by omega)
  have e : byS k l 0 = cBy_l29_T.mk k (Int.ofNat l.length) 0 l [] := rfl
  rw [e] at this
  rw [this]; rfl
theorem by_lok (k : Int) {l : List (List Int)} (hl : l.length ≤ 1000000) : lok cBy_l29_st 18446744073709551616 (cBy_l29_T.mk k (Int.ofNat l.length) 0 l []) :=
  lok_count (st := cBy_l29_st) (s := byS k l) (n := l.length) (fun i h => by_step hl h) by_end nofun (fun i h => by_obs hl h) l.length 0 (by omega) 18446744073709551616 (by omega)
theorem byG_len (ins : List Int → Int) (cr : List Int → List Int → List Int) (l : List (List Int)) : (byG ins cr l).length ≤ 2 * l.length := outG_len ins cr l l.length

end Go.Proofs.Ytbdmaepooahplaa

namespace Go.Proofs.Ytbdmaepooahplaa
open Go Go.RowKit Go.Proofs.Ytbdmaepooahplaa.V
set_option linter.unusedVariables false
set_option linter.unusedSectionVars false

def fixR (r : List Int) : List Int := [fWithin_0 (r.getD 0 0) 4194304, fWithin_0 (r.getD 1 0) 4194304, fWithin_0 (r.getD 2 0) 4194304, if fWithin_0 (r.getD 3 0) 4194304 < 256 then 256 else fWithin_0 (r.getD 3 0) 4194304, vmColour_0 (r.getD 4 0), vmColour_1 (r.getD 5 0), vmColour_2 (r.getD 6 0), vmColour_3 (r.getD 7 0)]
def fixN (f : List Int → List Int) (l : List (List Int)) : Nat → List (List Int)
  | 0 => l
  | i + 1 => (fixN f l i).set i (f ((fixN f l i).getD i []))
theorem fixN_len (f : List Int → List Int) (l : List (List Int)) : ∀ i, (fixN f l i).length = l.length
  | 0 => rfl
  | i + 1 => by unfold fixN; rw [List.length_set, fixN_len f l i]
theorem fixN_eq (f : List Int → List Int) (l : List (List Int)) : ∀ i, i ≤ l.length → fixN f l i = (l.take i).map f ++ l.drop i
  | 0, _ => by simp [fixN]
  | i + 1, h => by
    unfold fixN
    rw [fixN_eq f l i (by omega)]
    have hi : i < l.length := by omega
    have e1 : ((l.take i).map f).length = i := by simp; omega
    have e2 : l.drop i = l[i] :: l.drop (i + 1) := List.drop_eq_getElem_cons hi
    have e3 : ((l.take i).map f ++ l.drop i).getD i [] = l[i] := by
      rw [List.getD_eq_getElem?_getD, List.getElem?_append_right (by omega), e1, Nat.sub_self, e2]; rfl
    rw [e3, List.set_append_right _ _ (by omega), e1, Nat.sub_self, e2, List.set_cons_zero, List.take_succ_eq_append_getElem hi, List.map_append, List.map_singleton, List.append_assoc]
    rfl
theorem fixN_all (f : List Int → List Int) (l : List (List Int)) : fixN f l l.length = l.map f := by
  rw [fixN_eq f l _ (Nat.le_refl _), List.take_length, List.drop_length, List.append_nil]

def fxS (l : List (List Int)) (i : Nat) : cClip_l125_T := .mk (Int.ofNat l.length) (Int.ofNat i) (fixN fixR l i)
theorem fx_0 {l : List (List Int)} {i : Nat} : cClip_l125_s0 (fxS l i) = decide (i < l.length) := by
  simp only [cClip_l125_s0, fxS]
  by_cases h : i < l.length
  · rw [decide_eq_true h]; exact decide_eq_true (by simpa using h)
  · rw [decide_eq_false h]; exact decide_eq_false (by simpa using h)
theorem fx_step {l : List (List Int)} (hl : l.length ≤ 1000000) {i : Nat} (h : i < l.length) : pick1 (cClip_l125_st (fxS l i)).2 = some (.n, fxS l (i + 1)) := by
  unfold cClip_l125_st
  rw [fx_0, decide_eq_true h]
  simp only [pick1, Bool.not_true]
  have e1 : IntKind.wrap .i64 (cClip_l125_T.a1 (fxS l i) + 1) = Int.ofNat (i + 1) := by
    have e : Int.ofNat i = (i : Int) := rfl
    show IntKind.wrap .i64 (Int.ofNat i + 1) = _
    rw [w64_in (by omega) (by omega)]; rfl
  rw [e1]
  rfl
theorem fx_end {l : List (List Int)} : pick1 (cClip_l125_st (fxS l l.length)).2 = some (.e 2, fxS l l.length) := by
  unfold cClip_l125_st
  rw [fx_0, decide_eq_false (by omega)]
  rfl
theorem fx_obs {l : List (List Int)} {i : Nat} (h : i ≤ l.length) : Alls (cClip_l125_st (fxS l i)).1 := by
  unfold cClip_l125_st
  rw [fx_0]
  by_cases g : i < l.length
  · rw [decide_eq_true g]
    have n2 : Int.ofNat (fixN fixR l i).length = (l.length : Int) := by rw [fixN_len]; rfl
    have n3 : Int.ofNat i = (i : Int) := rfl
    have e2 : (fxS l i).a1 = Int.ofNat i := rfl
    have e3 : (fxS l i).a2 = fixN fixR l i := rfl
    rw [e2, e3, n2, n3]
    exact ⟨fun _ => ⟨by omega, by omega⟩, fun _ => ⟨by omega, by omega⟩, trivial⟩
  · rw [decide_eq_false g]
    exact ⟨nofun, nofun, trivial⟩
theorem fx_eq {l : List (List Int)} (hl : l.length ≤ 1000000) : cClip_l125_T.a2 (V.valOf (lrun cClip_l125_st 18446744073709551616 (cClip_l125_T.mk (Int.ofNat l.length) 0 l))) = l.map fixR := by
  have := lrun_count (st := cClip_l125_st) (s := fxS l) (n := l.length) (fun i h => fx_step hl h) fx_end nofun l.length 0 (by omega) 18446744073709551616 (by omega)
  have e : fxS l 0 = cClip_l125_T.mk (Int.ofNat l.length) 0 l := rfl
  rw [e] at this
  rw [this]
  show fixN fixR l l.length = _
  exact fixN_all _ _
theorem fx_lok {l : List (List Int)} (hl : l.length ≤ 1000000) : lok cClip_l125_st 18446744073709551616 (cClip_l125_T.mk (Int.ofNat l.length) 0 l) :=
  lok_count (st := cClip_l125_st) (s := fxS l) (n := l.length) (fun i h => fx_step hl h) fx_end nofun (fun i h => fx_obs h) l.length 0 (by omega) 18446744073709551616 (by omega)

theorem by_len (k : Int) {l : List (List Int)} {n : Nat} (h : l.length ≤ n) (hn : n ≤ 1000000) : (cBy_0 k l).length ≤ 2 * n := by
  rw [by_eq k (by omega)]
  have := byG_len (insC k) (crC k) l
  omega

def by7 (l : List (List Int)) : List (List Int) := byG (insC 6) (crC 6) (byG (insC 5) (crC 5) (byG (insC 4) (crC 4) (byG (insC 3) (crC 3) (byG (insC 2) (crC 2) (byG (insC 1) (crC 1) (byG (insC 0) (crC 0) l))))))
def clipG (l : List (List Int)) : List (List Int) := bif bif decide ((by7 l).length < 3) then true else decide (16 < (by7 l).length) then [] else (by7 l).map fixR

section
variable (x0_0 x0_1 x0_2 x0_3 x0_4 x0_5 x0_6 x0_7 x1_0 x1_1 x1_2 x1_3 x1_4 x1_5 x1_6 x1_7 x2_0 x2_1 x2_2 x2_3 x2_4 x2_5 x2_6 x2_7 : Int)
theorem c6_len : (cClip_s6 x0_0 x0_1 x0_2 x0_3 x0_4 x0_5 x0_6 x0_7 x1_0 x1_1 x1_2 x1_3 x1_4 x1_5 x1_6 x1_7 x2_0 x2_1 x2_2 x2_3 x2_4 x2_5 x2_6 x2_7).length ≤ 3 := Nat.le_refl 3
theorem c7_len : (cClip_s7 x0_0 x0_1 x0_2 x0_3 x0_4 x0_5 x0_6 x0_7 x1_0 x1_1 x1_2 x1_3 x1_4 x1_5 x1_6 x1_7 x2_0 x2_1 x2_2 x2_3 x2_4 x2_5 x2_6 x2_7).length ≤ 6 := by_len _ (c6_len ..) (by omega)
theorem c8_len : (cClip_s8 x0_0 x0_1 x0_2 x0_3 x0_4 x0_5 x0_6 x0_7 x1_0 x1_1 x1_2 x1_3 x1_4 x1_5 x1_6 x1_7 x2_0 x2_1 x2_2 x2_3 x2_4 x2_5 x2_6 x2_7).length ≤ 12 := by_len _ (c7_len ..) (by omega)
theorem c9_len : (cClip_s9 x0_0 x0_1 x0_2 x0_3 x0_4 x0_5 x0_6 x0_7 x1_0 x1_1 x1_2 x1_3 x1_4 x1_5 x1_6 x1_7 x2_0 x2_1 x2_2 x2_3 x2_4 x2_5 x2_6 x2_7).length ≤ 24 := by_len _ (c8_len ..) (by omega)
theorem c10_len : (cClip_s10 x0_0 x0_1 x0_2 x0_3 x0_4 x0_5 x0_6 x0_7 x1_0 x1_1 x1_2 x1_3 x1_4 x1_5 x1_6 x1_7 x2_0 x2_1 x2_2 x2_3 x2_4 x2_5 x2_6 x2_7).length ≤ 48 := by_len _ (c9_len ..) (by omega)
theorem c11_len : (cClip_s11 x0_0 x0_1 x0_2 x0_3 x0_4 x0_5 x0_6 x0_7 x1_0 x1_1 x1_2 x1_3 x1_4 x1_5 x1_6 x1_7 x2_0 x2_1 x2_2 x2_3 x2_4 x2_5 x2_6 x2_7).length ≤ 96 := by_len _ (c10_len ..) (by omega)
theorem c12_len : (cClip_s12 x0_0 x0_1 x0_2 x0_3 x0_4 x0_5 x0_6 x0_7 x1_0 x1_1 x1_2 x1_3 x1_4 x1_5 x1_6 x1_7 x2_0 x2_1 x2_2 x2_3 x2_4 x2_5 x2_6 x2_7).length ≤ 192 := by_len _ (c11_len ..) (by omega)
theorem c13_len : (cClip_s13 x0_0 x0_1 x0_2 x0_3 x0_4 x0_5 x0_6 x0_7 x1_0 x1_1 x1_2 x1_3 x1_4 x1_5 x1_6 x1_7 x2_0 x2_1 x2_2 x2_3 x2_4 x2_5 x2_6 x2_7).length ≤ 384 := by_len _ (c12_len ..) (by omega)
theorem c13_eq : cClip_s13 x0_0 x0_1 x0_2 x0_3 x0_4 x0_5 x0_6 x0_7 x1_0 x1_1 x1_2 x1_3 x1_4 x1_5 x1_6 x1_7 x2_0 x2_1 x2_2 x2_3 x2_4 x2_5 x2_6 x2_7 = by7 [[x0_0, x0_1, x0_2, x0_3, x0_4, x0_5, x0_6, x0_7], [x1_0, x1_1, x1_2, x1_3, x1_4, x1_5, x1_6, x1_7], [x2_0, x2_1, x2_2, x2_3, x2_4, x2_5, x2_6, x2_7]] := by
  have s0 : cClip_s0 = 1 := by decide
  have s1 : cClip_s1 = 2 := by decide
  have s2 : cClip_s2 = 3 := by decide
  have s3 : cClip_s3 = 4 := by decide
  have s4 : cClip_s4 = 5 := by decide
  have s5 : cClip_s5 = 6 := by decide
  have e7 : cClip_s7 x0_0 x0_1 x0_2 x0_3 x0_4 x0_5 x0_6 x0_7 x1_0 x1_1 x1_2 x1_3 x1_4 x1_5 x1_6 x1_7 x2_0 x2_1 x2_2 x2_3 x2_4 x2_5 x2_6 x2_7 = _ := by_eq 0 (Nat.le_trans (c6_len ..) (by omega))
  have e8 : cClip_s8 x0_0 x0_1 x0_2 x0_3 x0_4 x0_5 x0_6 x0_7 x1_0 x1_1 x1_2 x1_3 x1_4 x1_5 x1_6 x1_7 x2_0 x2_1 x2_2 x2_3 x2_4 x2_5 x2_6 x2_7 = _ := by_eq _ (Nat.le_trans (c7_len ..) (by omega))
  have e9 : cClip_s9 x0_0 x0_1 x0_2 x0_3 x0_4 x0_5 x0_6 x0_7 x1_0 x1_1 x1_2 x1_3 x1_4 x1_5 x1_6 x1_7 x2_0 x2_1 x2_2 x2_3 x2_4 x2_5 x2_6 x2_7 = _ := by_eq _ (Nat.le_trans (c8_len ..) (by omega))
  have e10 : cClip_s10 x0_0 x0_1 x0_2 x0_3 x0_4 x0_5 x0_6 x0_7 x1_0 x1_1 x1_2 x1_3 x1_4 x1_5 x1_6 x1_7 x2_0 x2_1 x2_2 x2_3 x2_4 x2_5 x2_6 x2_7 = _ := by_eq _ (Nat.le_trans (c9_len ..) (by omega))
  have e11 : cClip_s11 x0_0 x0_1 x0_2 x0_3 x0_4 x0_5 x0_6 x0_7 x1_0 x1_1 x1_2 x1_3 x1_4 x1_5 x1_6 x1_7 x2_0 x2_1 x2_2 x2_3 x2_4 x2_5 x2_6 x2_7 = _ := by_eq _ (Nat.le_trans (c10_len ..) (by omega))
  have e12 : cClip_s12 x0_0 x0_1 x0_2 x0_3 x0_4 x0_5 x0_6 x0_7 x1_0 x1_1 x1_2 x1_3 x1_4 x1_5 x1_6 x1_7 x2_0 x2_1 x2_2 x2_3 x2_4 x2_5 x2_6 x2_7 = _ := by_eq _ (Nat.le_trans (c11_len ..) (by omega))
  have e13 : cClip_s13 x0_0 x0_1 x0_2 x0_3 x0_4 x0_5 x0_6 x0_7 x1_0 x1_1 x1_2 x1_3 x1_4 x1_5 x1_6 x1_7 x2_0 x2_1 x2_2 x2_3 x2_4 x2_5 x2_6 x2_7 = _ := by_eq _ (Nat.le_trans (c12_len ..) (by omega))
  rw [e13, e12, e11, e10, e9, e8, e7, s0, s1, s2, s3, s4, s5]
  rfl
theorem clip_eq : cClip_0 x0_0 x0_1 x0_2 x0_3 x0_4 x0_5 x0_6 x0_7 x1_0 x1_1 x1_2 x1_3 x1_4 x1_5 x1_6 x1_7 x2_0 x2_1 x2_2 x2_3 x2_4 x2_5 x2_6 x2_7 = clipG [[x0_0, x0_1, x0_2, x0_3, x0_4, x0_5, x0_6, x0_7], [x1_0, x1_1, x1_2, x1_3, x1_4, x1_5, x1_6, x1_7], [x2_0, x2_1, x2_2, x2_3, x2_4, x2_5, x2_6, x2_7]] := by
  have hl := c13_len x0_0 x0_1 x0_2 x0_3 x0_4 x0_5 x0_6 x0_7 x1_0 x1_1 x1_2 x1_3 x1_4 x1_5 x1_6 x1_7 x2_0 x2_1 x2_2 x2_3 x2_4 x2_5 x2_6 x2_7
  unfold cClip_0 cClip_s16 cClip_s14 clipG
  rw [fx_eq (Nat.le_trans hl (by omega)), c13_eq]
  have c1 : ∀ n : Nat, decide (Int.ofNat n < 3) = decide (n < 3) := fun n => by
    have e : Int.ofNat n = (n : Int) := rfl
    by_cases h : n < 3
    · rw [decide_eq_true h]; exact decide_eq_true (by omega)
    · rw [decide_eq_false h]; exact decide_eq_false (by omega)
  have c2 : ∀ n : Nat, decide (16 < Int.ofNat n) = decide (16 < n) := fun n => by
    have e : Int.ofNat n = (n : Int) := rfl
    by_cases h : 16 < n
    · rw [decide_eq_true h]; exact decide_eq_true (by omega)
    · rw [decide_eq_false h]; exact decide_eq_false (by omega)
  rw [c1, c2]
end

theorem by_lok' (k : Int) {l : List (List Int)} {n : Nat} (h : l.length = n) (hl : n ≤ 1000000) : lok cBy_l29_st 18446744073709551616 (cBy_l29_T.mk k (Int.ofNat n) 0 l []) := by
  subst h
  exact by_lok k hl
theorem aw_obs : Alls aw12_o := by
  unfold aw12_o
  exact ⟨by_lok' _ rfl (by omega), by_lok' _ (by decide +kernel) (by omega), by_lok' _ (by decide +kernel) (by omega), by_lok' _ (by decide +kernel) (by omega), by_lok' _ (by decide +kernel) (by omega), by_lok' _ (by decide +kernel) (by omega), by_lok' _ (by decide +kernel) (by omega), fun _ => fx_lok (Nat.le_trans (c13_len ..) (by omega)), fun _ => by decide, trivial⟩
theorem aw_true : aw12_0 = true := by
  unfold aw12_0 aw12_s1
  rw [clip_eq]
  decide +kernel

end Go.Proofs.Ytbdmaepooahplaa
