/-
  Tiles and boxes: the rounds over a tile's pixels.
-/
import Derived.Test.YthgjacfikicgnaaBg
namespace Go.Proofs.Ythgjacfikicgnaa
open Go Go.RowKit Go.Proofs.Ythgjacfikicgnaa.V

def any (f : Int → Bool) : Nat → Int → Bool
  | 0, _ => false
  | n + 1, t => f t || any f n (t + 1)

theorem any_iff {f : Int → Bool} : ∀ {n : Nat} {t : Int}, any f n t = true ↔ ∃ x, t ≤ x ∧ x < t + n ∧ f x = true
  | 0, t => by simp only [any, Bool.false_eq_true, false_iff]; rintro ⟨x, h1, h2, _⟩; omega
  | n + 1, t => by
    unfold any
    rw [Bool.or_eq_true, any_iff (n := n) (t := t + 1)]
    constructor
    · rintro (h | ⟨x, h1, h2, h3⟩)
      · exact ⟨t, by omega, by omega, h⟩
      · exact ⟨x, by omega, by omega, h3⟩
    · rintro ⟨x, h1, h2, h3⟩
      by_cases e : x = t
      · subst e; exact .inl h3
      · exact .inr ⟨x, by omega, by omega, h3⟩

theorem x_run : ∀ (n k : Nat) (v : lBinIn_l66742089_T), -1000 ≤ v.a5 → v.a19 ≤ 1000 → (v.a5 + n = v.a19 ∨ (n = 0 ∧ v.a19 ≤ v.a5)) → n < k →
    lrun lBinIn_l66742089_st k v = some (X.e 4, { v with a3 := v.a3 || any (fun x => l16in_0 v.a12 v.a13 v.a14 v.a15 x v.a4) n v.a5, a5 := v.a5 + n }) ∧ lok lBinIn_l66742089_st k v
  | n, 0, v, _, _, _, hk => by omega
  | 0, k + 1, v, h0, h1, ht, _ => by
    have e : lBinIn_l66742089_s0 v = false := by unfold lBinIn_l66742089_s0; simp; omega
    refine ⟨?_, ?_, ?_⟩
    · simp [lrun, lBinIn_l66742089_st, e, pick1, any]
    · simp [lBinIn_l66742089_st, Alls]
    · simp [lBinIn_l66742089_st, e, pick1]
  | n + 1, k + 1, v, h0, h1, ht, hk => by
    have ht : v.a5 + (n + 1) = v.a19 := by omega
    have e : lBinIn_l66742089_s0 v = true := by unfold lBinIn_l66742089_s0; simp; omega
    have e1 : IntKind.wrap .i64 (v.a5 + 1) = v.a5 + 1 := w64_in (by omega) (by omega)
    have key : pick1 (lBinIn_l66742089_st v).2 = some (X.n, { v with a3 := v.a3 || l16in_0 v.a12 v.a13 v.a14 v.a15 v.a5 v.a4, a5 := v.a5 + 1 }) := by
      simp only [lBinIn_l66742089_st, e, e1, Bool.not_true, pick1]
      cases v.a3 <;> rfl
    obtain ⟨r1, r2⟩ := x_run n k { v with a3 := v.a3 || l16in_0 v.a12 v.a13 v.a14 v.a15 v.a5 v.a4, a5 := v.a5 + 1 } (by show -1000 ≤ v.a5 + 1; omega) h1 (by left; show v.a5 + 1 + n = v.a19; omega) (by omega)
    refine ⟨?_, ?_, ?_⟩
    · simp only [lrun, key]
      rw [r1]
      simp only [any, Bool.or_assoc, Option.some.injEq, Prod.mk.injEq, true_and]
      congr 1
      push_cast
      omega
    · simp [lBinIn_l66742089_st, Alls]
    · rw [key]; exact r2

/-- The pixels of a box, asked row by row. -/
def anyP (a b c d x0 : Int) (nx : Nat) (y : Int) : Bool := any (fun x => l16in_0 a b c d x y) nx x0

theorem y_run {nx : Nat} : ∀ (n k : Nat) (v : lBinIn_l1042845_T), -1000 ≤ v.a4 → v.a18 ≤ 1000 → -1000 ≤ v.a15 → v.a17 ≤ 1000 → (v.a15 + nx = v.a17 ∨ (nx = 0 ∧ v.a17 ≤ v.a15)) → (v.a4 + n = v.a18 ∨ (n = 0 ∧ v.a18 ≤ v.a4)) → n < k →
    lrun lBinIn_l1042845_st k v = some (X.e 2, { v with a3 := v.a3 || any (anyP v.a10 v.a11 v.a12 v.a13 v.a15 nx) n v.a4, a4 := v.a4 + n }) ∧ lok lBinIn_l1042845_st k v
  | n, 0, v, _, _, _, _, _, _, hk => by omega
  | 0, k + 1, v, h0, h1, h2, h3, h4, ht, _ => by
    have e : lBinIn_l1042845_s0 v = false := by unfold lBinIn_l1042845_s0; simp; omega
    refine ⟨?_, ?_, ?_⟩
    · simp [lrun, lBinIn_l1042845_st, e, pick1, any]
    · simp [lBinIn_l1042845_st, e, Alls]
    · simp [lBinIn_l1042845_st, e, pick1]
  | n + 1, k + 1, v, h0, h1, h2, h3, h4, ht, hk => by
    have ht : v.a4 + (n + 1) = v.a18 := by omega
    have e : lBinIn_l1042845_s0 v = true := by unfold lBinIn_l1042845_s0; simp; omega
    have e1 : IntKind.wrap .i64 (v.a4 + 1) = v.a4 + 1 := w64_in (by omega) (by omega)
    obtain ⟨i1, i2⟩ := x_run nx 18446744073709551616 (lBinIn_l66742089_T.mk v.a0 v.a1 v.a2 v.a3 v.a4 v.a15 v.a5 v.a6 v.a7 (lBinIn_l1042845_s0 v) v.a8 v.a9 v.a10 v.a11 v.a12 v.a13 v.a14 v.a15 v.a16 v.a17 v.a18) h2 h3 h4 (by show nx < 18446744073709551616; omega)
    have i1 : lBinIn_l1042845_s1 v = _ := i1
    have key : pick1 (lBinIn_l1042845_st v).2 = some (X.n, { v with a3 := v.a3 || anyP v.a10 v.a11 v.a12 v.a13 v.a15 nx v.a4, a4 := v.a4 + 1 }) := by
      simp only [lBinIn_l1042845_st, e, Bool.not_true, pick1, i1, isX, xeq, Nat.beq_refl, Bool.and_self, V.valOf, e1]
      rfl
    obtain ⟨r1, r2⟩ := y_run (nx := nx) n k { v with a3 := v.a3 || anyP v.a10 v.a11 v.a12 v.a13 v.a15 nx v.a4, a4 := v.a4 + 1 } (by show -1000 ≤ v.a4 + 1; omega) h1 h2 h3 h4 (by left; show v.a4 + 1 + n = v.a18; omega) (by omega)
    refine ⟨?_, ?_, ?_⟩
    · simp only [lrun, key]
      rw [r1]
      simp only [any, Bool.or_assoc, Option.some.injEq, Prod.mk.injEq, true_and]
      congr 1
      push_cast
      omega
    · simp only [lBinIn_l1042845_st, Alls, and_true]
      exact fun _ => i2
    · rw [key]; exact r2

end Go.Proofs.Ythgjacfikicgnaa
