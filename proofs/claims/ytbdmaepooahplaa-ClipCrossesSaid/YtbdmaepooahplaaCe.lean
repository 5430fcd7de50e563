/-
  What is left of a polygon on one side of a plane, as a list.
-/
import Derived.Test.YtbdmaepooahplaaCc
namespace Go.Proofs.Ytbdmaepooahplaa
open Go Go.RowKit Go.Proofs.Ytbdmaepooahplaa.V
set_option linter.unusedVariables false
set_option linter.unusedSectionVars false

/-! Loops that count. -/
theorem lrun_count {α : Type} {st : α → List Prop × List (X × Bool × α)} {s : Nat → α} {n : Nat} {x : X} {v : α} (hs : ∀ i, i < n → pick1 (st (s i)).2 = some (.n, s (i + 1))) (he : pick1 (st (s n)).2 = some (x, v)) (hx : x ≠ .n) :
    ∀ (d i : Nat), i + d = n → ∀ (f : Nat), d < f → lrun st f (s i) = some (x, v)
  | 0, i, h, f + 1, _ => by
    have : i = n := by omega
    subst this
    unfold lrun
    rw [he]
    cases x <;> first | rfl | exact absurd rfl hx
  | d + 1, i, h, f + 1, hf => by
    unfold lrun
    rw [hs i (by omega)]
    exact lrun_count hs he hx d (i + 1) (by omega) f (by omega)

theorem lok_count {α : Type} {st : α → List Prop × List (X × Bool × α)} {s : Nat → α} {n : Nat} {x : X} {v : α} (hs : ∀ i, i < n → pick1 (st (s i)).2 = some (.n, s (i + 1))) (he : pick1 (st (s n)).2 = some (x, v)) (hx : x ≠ .n) (ho : ∀ i, i ≤ n → Alls (st (s i)).1) :
    ∀ (d i : Nat), i + d = n → ∀ (f : Nat), d < f → lok st f (s i)
  | 0, i, h, f + 1, _ => by
    have : i = n := by omega
    subst this
    unfold lok
    rw [he]
    exact ⟨ho i (by omega), by cases x <;> first | trivial | exact absurd rfl hx⟩
  | d + 1, i, h, f + 1, hf => by
    unfold lok
    rw [hs i (by omega)]
    exact ⟨ho i (by omega), lok_count hs he hx ho d (i + 1) (by omega) f (by omega)⟩

/-! One plane. -/
def r8 (r : List Int) : List Int := [r.getD 0 0, r.getD 1 0, r.getD 2 0, r.getD 3 0, r.getD 4 0, r.getD 5 0, r.getD 6 0, r.getD 7 0]
def insC (k : Int) (r : List Int) : Int := cInside_0 (r.getD 0 0) (r.getD 1 0) (r.getD 2 0) (r.getD 3 0) k
def crC (k : Int) (a b : List Int) : List Int := [
  cCross_0 (a.getD 0 0) (a.getD 1 0) (a.getD 2 0) (a.getD 3 0) (b.getD 0 0) (b.getD 1 0) (b.getD 2 0) (b.getD 3 0) k,
  cCross_1 (a.getD 0 0) (a.getD 1 0) (a.getD 2 0) (a.getD 3 0) (b.getD 0 0) (b.getD 1 0) (b.getD 2 0) (b.getD 3 0) k,
  cCross_2 (a.getD 0 0) (a.getD 1 0) (a.getD 2 0) (a.getD 3 0) (b.getD 0 0) (b.getD 1 0) (b.getD 2 0) (b.getD 3 0) k,
  cCross_3 (a.getD 0 0) (a.getD 1 0) (a.getD 2 0) (a.getD 3 0) (b.getD 0 0) (b.getD 1 0) (b.getD 2 0) (b.getD 3 0) k,
  cCross_4 (a.getD 0 0) (a.getD 1 0) (a.getD 2 0) (a.getD 3 0) (a.getD 4 0) (b.getD 0 0) (b.getD 1 0) (b.getD 2 0) (b.getD 3 0) (b.getD 4 0) k,
  cCross_5 (a.getD 0 0) (a.getD 1 0) (a.getD 2 0) (a.getD 3 0) (a.getD 5 0) (b.getD 0 0) (b.getD 1 0) (b.getD 2 0) (b.getD 3 0) (b.getD 5 0) k,
  cCross_6 (a.getD 0 0) (a.getD 1 0) (a.getD 2 0) (a.getD 3 0) (a.getD 6 0) (b.getD 0 0) (b.getD 1 0) (b.getD 2 0) (b.getD 3 0) (b.getD 6 0) k,
  cCross_7 (a.getD 0 0) (a.getD 1 0) (a.getD 2 0) (a.getD 3 0) (a.getD 7 0) (b.getD 0 0) (b.getD 1 0) (b.getD 2 0) (b.getD 3 0) (b.getD 7 0) k]
/-- What a vertex and the one after it give. -/
def emG (ins : List Int → Int) (cr : List Int → List Int → List Int) (a b : List Int) : List (List Int) :=
  (bif decide (0 ≤ ins a) then [r8 a] else []) ++ (bif bif decide (0 ≤ ins a) then !decide (0 ≤ ins b) else false then [cr a b] else bif bif decide (0 ≤ ins b) then !decide (0 ≤ ins a) else false then [cr b a] else [])
def pr (l : List (List Int)) (i : Nat) : List Int := l.getD (i % l.length) []
def outG (ins : List Int → Int) (cr : List Int → List Int → List Int) (l : List (List Int)) : Nat → List (List Int)
  | 0 => []
  | i + 1 => outG ins cr l i ++ emG ins cr (pr l i) (pr l (i + 1))
def byG (ins : List Int → Int) (cr : List Int → List Int → List Int) (l : List (List Int)) : List (List Int) := outG ins cr l l.length

theorem emG_len (ins : List Int → Int) (cr : List Int → List Int → List Int) (a b : List Int) : (emG ins cr a b).length ≤ 2 := by
  unfold emG
  cases decide (0 ≤ ins a) <;> cases decide (0 ≤ ins b) <;> simp
theorem outG_len (ins : List Int → Int) (cr : List Int → List Int → List Int) (l : List (List Int)) : ∀ i, (outG ins cr l i).length ≤ 2 * i
  | 0 => by simp [outG]
  | i + 1 => by
    have h1 := outG_len ins cr l i
    have h2 := emG_len ins cr (pr l i) (pr l (i + 1))
    unfold outG
    rw [List.length_append]
    omega

def byS (k : Int) (l : List (List Int)) (i : Nat) : cBy_l29_T := .mk k (Int.ofNat l.length) (Int.ofNat i) l (outG (insC k) (crC k) l i)

theorem by_r {l : List (List Int)} {i : Nat} (h : i < l.length) (j : Nat) : rget l (Int.toNat (Int.ofNat i)) j = (pr l i).getD j 0 := by
  unfold rget pr
  rw [Nat.mod_eq_of_lt h]; rfl
theorem by_i {l : List (List Int)} {i : Nat} (h : i < l.length) (hl : l.length ≤ 1000000) : IntKind.wrap .i64 (Int.ofNat i + 1) = Int.ofNat (i + 1) := by
  have e : Int.ofNat i = (i : Int) := rfl
  rw [w64_in (by omega) (by omega)]; rfl
theorem by_t {l : List (List Int)} {i : Nat} : Int.tmod (Int.ofNat i) (Int.ofNat l.length) = Int.ofNat (i % l.length) := rfl
theorem by_q {l : List (List Int)} {i : Nat} (j : Nat) : rget l (Int.toNat (Int.ofNat (i % l.length))) j = (pr l i).getD j 0 := rfl

theorem by_6 {k : Int} {l : List (List Int)} {i : Nat} (h : i < l.length) : cBy_l29_s6 (byS k l i) = decide (0 ≤ insC k (pr l i)) := by
  simp only [cBy_l29_s6, byS, by_r h, insC]; rfl
theorem by_13 {k : Int} {l : List (List Int)} {i : Nat} (h : i < l.length) (hl : l.length ≤ 1000000) : cBy_l29_s13 (byS k l i) = decide (0 ≤ insC k (pr l (i + 1))) := by
  simp only [cBy_l29_s13, cBy_l29_s8, cBy_l29_s9, cBy_l29_s10, cBy_l29_s11, cBy_l29_s1, byS, by_i h hl, by_t, by_q, insC]; rfl
theorem by_7 {k : Int} {l : List (List Int)} {i : Nat} (h : i < l.length) : cBy_l29_s7 (byS k l i) = outG (insC k) (crC k) l i ++ [r8 (pr l i)] := by
  simp only [cBy_l29_s7, byS, by_r h, r8]
theorem by_18 {k : Int} {l : List (List Int)} {i : Nat} (h : i < l.length) (hl : l.length ≤ 1000000) : cBy_l29_s18 (byS k l i) = (bif decide (0 ≤ insC k (pr l i)) then outG (insC k) (crC k) l i ++ [r8 (pr l i)] else outG (insC k) (crC k) l i) ++ [crC k (pr l i) (pr l (i + 1))] := by
  unfold cBy_l29_s18
  rw [by_6 h, by_7 h]
  simp only [cBy_l29_s8, cBy_l29_s9, cBy_l29_s10, cBy_l29_s11, cBy_l29_s14, cBy_l29_s15, cBy_l29_s16, cBy_l29_s17, cBy_l29_s1, byS, by_i h hl, by_t, by_q, by_r h, crC]
theorem by_19 {k : Int} {l : List (List Int)} {i : Nat} (h : i < l.length) (hl : l.length ≤ 1000000) : cBy_l29_s19 (byS k l i) = (bif decide (0 ≤ insC k (pr l i)) then outG (insC k) (crC k) l i ++ [r8 (pr l i)] else outG (insC k) (crC k) l i) ++ [crC k (pr l (i + 1)) (pr l i)] := by
  unfold cBy_l29_s19
  rw [by_6 h, by_7 h]
  simp only [cBy_l29_s8, cBy_l29_s9, cBy_l29_s10, cBy_l29_s11, cBy_l29_s14, cBy_l29_s15, cBy_l29_s16, cBy_l29_s17, cBy_l29_s1, byS, by_i h hl, by_t, by_q, by_r h, crC]

theorem by_0 {k : Int} {l : List (List Int)} {i : Nat} : cBy_l29_s0 (byS k l i) = decide (i < l.length) := by
  simp only [cBy_l29_s0, byS]
  by_cases h : i < l.length
  · rw [decide_eq_true h]; exact decide_eq_true (by simpa using h)
  · rw [decide_eq_false h]; exact decide_eq_false (by simpa using h)

theorem by_step {k : Int} {l : List (List Int)} (hl : l.length ≤ 1000000) {i : Nat} (h : i < l.length) : pick1 (cBy_l29_st (byS k l i)).2 = some (.n, byS k l (i + 1)) := by
  unfold cBy_l29_st
  rw [by_0, decide_eq_true h, by_6 h, by_13 h hl, by_18 h hl, by_19 h hl, by_7 h]
  simp only [pick1, Bool.not_true]
  have e1 : cBy_l29_s1 (byS k l i) = Int.ofNat (i + 1) := by simp only [cBy_l29_s1, byS, by_i h hl]
  rw [e1]
  have e2 : outG (insC k) (crC k) l (i + 1) = outG (insC k) (crC k) l i ++ emG (insC k) (crC k) (pr l i) (pr l (i + 1)) := rfl
  unfold byS
  rw [e2]
  simp only [emG]
  cases decide (0 ≤ insC k (pr l i)) <;> cases decide (0 ≤ insC k (pr l (i + 1))) <;> simp only [cond_true, cond_false, Bool.not_true, Bool.not_false, List.append_nil, List.nil_append, List.append_assoc, List.cons_append]

theorem by_end {k : Int} {l : List (List Int)} : pick1 (cBy_l29_st (byS k l l.length)).2 = some (.e 0, byS k l l.length) := by
  unfold cBy_l29_st
  rw [by_0, decide_eq_false (by omega)]
  rfl

theorem by_obs {k : Int} {l : List (List Int)} (hl : l.length ≤ 1000000) {i : Nat} (h : i ≤ l.length) : Alls (cBy_l29_st (byS k l i)).1 := by
  unfold cBy_l29_st
  rw [by_0]
  by_cases g : i < l.length
  · rw [decide_eq_true g, by_6 g, by_13 g hl, by_18 g hl, by_19 g hl, by_7 g]
    have e1 : cBy_l29_s1 (byS k l i) = Int.ofNat (i + 1) := by simp only [cBy_l29_s1, byS, by_i g hl]
    have e3 : (byS k l i).a3 = l := rfl
    have e2 : (byS k l i).a2 = Int.ofNat i := rfl
    have hm : (i + 1) % l.length < l.length := Nat.mod_lt _ (by omega)
    have ho := outG_len (insC k) (crC k) l i
    rw [e1, e3, e2, by_t]
    have n1 : Int.ofNat i = (i : Int) := rfl
    have n2 : Int.ofNat l.length = (l.length : Int) := rfl
    have n3 : Int.ofNat ((i + 1) % l.length) = (((i + 1) % l.length : Nat) : Int) := rfl
    rw [n1, n2, n3]
    refine ⟨fun _ => ⟨by omega, by omega⟩, fun _ => by omega, fun _ => ⟨by omega, by omega⟩, fun _ _ => ?_, fun _ _ => ?_, fun _ _ _ => ?_, trivial⟩
    · rw [List.length_append]; simp only [List.length_singleton]; omega
    · cases decide (0 ≤ insC k (pr l i)) <;> simp only [cond_true, cond_false, List.length_append, List.length_singleton] <;> omega
    · cases decide (0 ≤ insC k (pr l i)) <;> simp only [cond_true, cond_false, List.length_append, List.length_singleton] <;> omega
  · rw [decide_eq_false g]
    exact ⟨nofun, nofun, nofun, nofun, nofun, nofun, trivial⟩

theorem by_eq (k : Int) {l : List (List Int)} (hl : l.length ≤ 1000000) : cBy_0 k l = byG (insC k) (crC k) l := by
  unfold cBy_0
  have := lrun_count (st := cBy_l29_st) (s := byS k l) (n := l.length) (fun i h => by_step hl h) by_end nofun l.length 0 (by omega) 18446744073709551616 (by omega)
  have e : byS k l 0 = cBy_l29_T.mk k (Int.ofNat l.length) 0 l [] := rfl
  rw [e] at this
  rw [this]; rfl
theorem by_lok (k : Int) {l : List (List Int)} (hl : l.length ≤ 1000000) : lok cBy_l29_st 18446744073709551616 (cBy_l29_T.mk k (Int.ofNat l.length) 0 l []) :=
  lok_count (st := cBy_l29_st) (s := byS k l) (n := l.length) (fun i h => by_step hl h) by_end nofun (fun i h => by_obs hl h) l.length 0 (by omega) 18446744073709551616 (by omega)
theorem byG_len (ins : List Int → Int) (cr : List Int → List Int → List Int) (l : List (List Int)) : (byG ins cr l).length ≤ 2 * l.length := outG_len ins cr l l.length

end Go.Proofs.Ytbdmaepooahplaa
