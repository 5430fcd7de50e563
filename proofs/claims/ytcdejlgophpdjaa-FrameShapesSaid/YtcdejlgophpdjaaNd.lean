/-
  Loops that count, or go up: their runs.
-/
import Derived.Test.YtcdejlgophpdjaaVq
namespace Go.Proofs.Ytcdejlgophpdjaa
open Go Go.RowKit Go.Proofs.Ytcdejlgophpdjaa.V

/-- A loop whose state hangs on a number that rises, by whatever steps, up to n. -/
theorem lm_run {α : Type} {st : α → List Prop × List (X × Bool × α)} {s : Nat → α} {n : Nat} {x : X} {v : α} (hs : ∀ i, i < n → ∃ j, i < j ∧ j ≤ n ∧ pick1 (st (s i)).2 = some (.n, s j)) (he : pick1 (st (s n)).2 = some (x, v)) (hx : x ≠ .n) :
    ∀ (d i : Nat), i ≤ n → n ≤ i + d → ∀ (f : Nat), d < f → lrun st f (s i) = some (x, v)
  | d, i, hi, h, 0, hf => by omega
  | 0, i, hi, h, f + 1, _ => by
    have : i = n := by omega
    subst this
    unfold lrun
    rw [he]
    cases x <;> first | rfl | exact absurd rfl hx
  | d + 1, i, hi, h, f + 1, hf => by
    by_cases hin : i = n
    · subst hin
      unfold lrun
      rw [he]
      cases x <;> first | rfl | exact absurd rfl hx
    · obtain ⟨j, h1, h2, h3⟩ := hs i (by omega)
      unfold lrun
      rw [h3]
      exact lm_run hs he hx d j h2 (by omega) f (by omega)

theorem lm_lok {α : Type} {st : α → List Prop × List (X × Bool × α)} {s : Nat → α} {n : Nat} {x : X} {v : α} (hs : ∀ i, i < n → ∃ j, i < j ∧ j ≤ n ∧ pick1 (st (s i)).2 = some (.n, s j)) (he : pick1 (st (s n)).2 = some (x, v)) (hx : x ≠ .n) (ho : ∀ i, i ≤ n → Alls (st (s i)).1) :
    ∀ (d i : Nat), i ≤ n → n ≤ i + d → ∀ (f : Nat), d < f → lok st f (s i)
  | d, i, hi, h, 0, hf => by omega
  | 0, i, hi, h, f + 1, _ => by
    have : i = n := by omega
    subst this
    unfold lok
    rw [he]
    exact ⟨ho i (by omega), by cases x <;> first | trivial | exact absurd rfl hx⟩
  | d + 1, i, hi, h, f + 1, hf => by
    by_cases hin : i = n
    · subst hin
      unfold lok
      rw [he]
      exact ⟨ho i (by omega), by cases x <;> first | trivial | exact absurd rfl hx⟩
    · obtain ⟨j, h1, h2, h3⟩ := hs i (by omega)
      unfold lok
      rw [h3]
      exact ⟨ho i (by omega), lm_lok hs he hx ho d j h2 (by omega) f (by omega)⟩

theorem lc_run {α : Type} {st : α → List Prop × List (X × Bool × α)} {s : Nat → α} {n : Nat} {x : X} {v : α} (hs : ∀ i, i < n → pick1 (st (s i)).2 = some (.n, s (i + 1))) (he : pick1 (st (s n)).2 = some (x, v)) (hx : x ≠ .n) {i f : Nat} (hi : i ≤ n) (hf : n < f) : lrun st f (s i) = some (x, v) :=
  lm_run (fun i h => ⟨i + 1, by omega, by omega, hs i h⟩) he hx (n - i) i hi (by omega) f (by omega)
theorem lc_lok {α : Type} {st : α → List Prop × List (X × Bool × α)} {s : Nat → α} {n : Nat} {x : X} {v : α} (hs : ∀ i, i < n → pick1 (st (s i)).2 = some (.n, s (i + 1))) (he : pick1 (st (s n)).2 = some (x, v)) (hx : x ≠ .n) (ho : ∀ i, i ≤ n → Alls (st (s i)).1) {i f : Nat} (hi : i ≤ n) (hf : n < f) : lok st f (s i) :=
  lm_lok (fun i h => ⟨i + 1, by omega, by omega, hs i h⟩) he hx ho (n - i) i hi (by omega) f (by omega)

/-- .. that ends before, at m, by another way. -/
theorem lx_run {α : Type} {st : α → List Prop × List (X × Bool × α)} {s : Nat → α} {m : Nat} {x : X} {v : α} (hs : ∀ i, i < m → pick1 (st (s i)).2 = some (.n, s (i + 1))) (he : pick1 (st (s m)).2 = some (x, v)) (hx : x ≠ .n) {f : Nat} (hf : m < f) : lrun st f (s 0) = some (x, v) := lc_run hs he hx (Nat.zero_le _) hf
theorem lx_lok {α : Type} {st : α → List Prop × List (X × Bool × α)} {s : Nat → α} {m : Nat} {x : X} {v : α} (hs : ∀ i, i < m → pick1 (st (s i)).2 = some (.n, s (i + 1))) (he : pick1 (st (s m)).2 = some (x, v)) (hx : x ≠ .n) (ho : ∀ i, i ≤ m → Alls (st (s i)).1) {f : Nat} (hf : m < f) : lok st f (s 0) := lc_lok hs he hx ho (Nat.zero_le _) hf

end Go.Proofs.Ytcdejlgophpdjaa
