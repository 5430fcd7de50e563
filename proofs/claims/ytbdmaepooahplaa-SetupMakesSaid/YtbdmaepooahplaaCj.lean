/-
  The reference's crossings, in plain numbers; and what stays within bounds.
-/
import Derived.Test.YtbdmaepooahplaaCg
namespace Go.Proofs.Ytbdmaepooahplaa
open Go Go.RowKit Go.Proofs.Ytbdmaepooahplaa.V
set_option linter.unusedVariables false
set_option linter.unusedSectionVars false

theorem rfloor_eq {n b : Int} (h : 0 < b) (hb : b ≤ 100000000) (n0 : -922337203685477 ≤ n) (n1 : n ≤ 922337203685477) : rFloor_0 n b = n / b := by
  have h1 : (b == 0) = false := beq_false_of_ne (by omega)
  have h3 : rFloor_s0 b = false := decide_eq_false (by omega)
  unfold rFloor_0
  rw [h1, h3]
  simp only [cond_false]
  unfold rFloor_s3
  by_cases hn : 0 ≤ n
  · rw [decide_eq_true hn, Int.tdiv_eq_ediv_of_nonneg hn]
    have q0 := Int.ediv_nonneg hn (show 0 ≤ b by omega)
    have q1 := Int.ediv_le_self b hn
    simp only [cond_true]
    exact w64_in (by omega) (by omega)
  · rw [decide_eq_false hn]
    simp only [cond_false]
    rw [w64_in (n := b - 1) (by omega) (by omega), w64_in (n := b - 1 - n) (by omega) (by omega), Int.tdiv_eq_ediv_of_nonneg (by omega)]
    have q0 := Int.ediv_nonneg (show 0 ≤ b - 1 - n by omega) (show 0 ≤ b by omega)
    have q1 := Int.ediv_le_self b (show 0 ≤ b - 1 - n by omega)
    have q2 := fl_ge (a := b - 1 - n) h
    have q3 := fl_lt (a := b - 1 - n) h
    rw [w64_in (n := (b - 1 - n) / b) (by omega) (by omega), w64_in (by omega) (by omega)]
    generalize (b - 1 - n) / b = q at *
    apply Int.le_antisymm
    · rw [Int.le_ediv_iff_mul_le h]
      have : (0 - q) * b = -(q * b) := by grind
      omega
    · have : n / b < 0 - q + 1 := by
        apply Int.ediv_lt_of_lt_mul h
        have : (0 - q + 1) * b = -(q * b) + b := by grind
        omega
      omega

/-- The number a reference's crossing gives. -/
theorem rbtw {x y a b : Int} (ha : 0 ≤ a) (a1 : a ≤ 40000000) (b0 : -40000000 ≤ b) (hb : b < 0) (hx : Wn x) (hy : Wn y) :
    IntKind.wrap .i64 (x + rFloor_0 (IntKind.wrap .i64 (IntKind.wrap .i64 (y - x) * a)) (IntKind.wrap .i64 (a - b))) = btw x y a b := by
  unfold Wn at hx hy
  have hm := big_mul (u := y - x) (a := a) (by omega) (by omega)
  rw [w64_in (n := y - x) (by omega) (by omega), w64_in (n := (y - x) * a) (by omega) (by omega), w64_in (n := a - b) (by omega) (by omega), rfloor_eq (by omega) (by omega) (by omega) (by omega)]
  have := btw_in (x := x) (y := y) (lo := -4194304) (hi := 4194304) ha hb hx.1 hx.2 hy.1 hy.2
  unfold btw at this
  exact w64_in (by omega) (by omega)

/-- A vertex within bounds. -/
def Gd (r : List Int) : Prop := r8 r = r ∧ (Wn (r.getD 0 0) ∧ Wn (r.getD 1 0) ∧ Wn (r.getD 2 0) ∧ Wn (r.getD 3 0)) ∧ ((0 ≤ r.getD 4 0 ∧ r.getD 4 0 ≤ 65536) ∧ (0 ≤ r.getD 5 0 ∧ r.getD 5 0 ≤ 65536) ∧ (0 ≤ r.getD 6 0 ∧ r.getD 6 0 ≤ 65536) ∧ (0 ≤ r.getD 7 0 ∧ r.getD 7 0 ≤ 65536))
theorem Wn_of {x : Int} (h : 0 ≤ x ∧ x ≤ 65536) : Wn x := ⟨by omega, by omega⟩

def insP (k : Int) (r : List Int) : Int := ins (r.getD 0 0) (r.getD 1 0) (r.getD 2 0) (r.getD 3 0) k
def crP (k : Int) (a b : List Int) : List Int := [
  btw (a.getD 0 0) (b.getD 0 0) (insP k a) (insP k b), btw (a.getD 1 0) (b.getD 1 0) (insP k a) (insP k b), btw (a.getD 2 0) (b.getD 2 0) (insP k a) (insP k b), btw (a.getD 3 0) (b.getD 3 0) (insP k a) (insP k b),
  btw (a.getD 4 0) (b.getD 4 0) (insP k a) (insP k b), btw (a.getD 5 0) (b.getD 5 0) (insP k a) (insP k b), btw (a.getD 6 0) (b.getD 6 0) (insP k a) (insP k b), btw (a.getD 7 0) (b.getD 7 0) (insP k a) (insP k b)]
def insR (k : Int) (r : List Int) : Int := r12In_0 (r.getD 0 0) (r.getD 1 0) (r.getD 2 0) (r.getD 3 0) k
def crR (k : Int) (a b : List Int) : List Int := [
  r12cross_0 (a.getD 0 0) (a.getD 1 0) (a.getD 2 0) (a.getD 3 0) (b.getD 0 0) (b.getD 1 0) (b.getD 2 0) (b.getD 3 0) k,
  r12cross_1 (a.getD 0 0) (a.getD 1 0) (a.getD 2 0) (a.getD 3 0) (b.getD 0 0) (b.getD 1 0) (b.getD 2 0) (b.getD 3 0) k,
  r12cross_2 (a.getD 0 0) (a.getD 1 0) (a.getD 2 0) (a.getD 3 0) (b.getD 0 0) (b.getD 1 0) (b.getD 2 0) (b.getD 3 0) k,
  r12cross_3 (a.getD 0 0) (a.getD 1 0) (a.getD 2 0) (a.getD 3 0) (b.getD 0 0) (b.getD 1 0) (b.getD 2 0) (b.getD 3 0) k,
  r12cross_4 (a.getD 0 0) (a.getD 1 0) (a.getD 2 0) (a.getD 3 0) (a.getD 4 0) (b.getD 0 0) (b.getD 1 0) (b.getD 2 0) (b.getD 3 0) (b.getD 4 0) k,
  r12cross_5 (a.getD 0 0) (a.getD 1 0) (a.getD 2 0) (a.getD 3 0) (a.getD 5 0) (b.getD 0 0) (b.getD 1 0) (b.getD 2 0) (b.getD 3 0) (b.getD 5 0) k,
  r12cross_6 (a.getD 0 0) (a.getD 1 0) (a.getD 2 0) (a.getD 3 0) (a.getD 6 0) (b.getD 0 0) (b.getD 1 0) (b.getD 2 0) (b.getD 3 0) (b.getD 6 0) k,
  r12cross_7 (a.getD 0 0) (a.getD 1 0) (a.getD 2 0) (a.getD 3 0) (a.getD 7 0) (b.getD 0 0) (b.getD 1 0) (b.getD 2 0) (b.getD 3 0) (b.getD 7 0) k]

theorem insP_bd {r : List Int} (h : Gd r) (k : Int) : -40000000 ≤ insP k r ∧ insP k r ≤ 40000000 := ins_bd h.2.1.1 h.2.1.2.1 h.2.1.2.2.1 h.2.1.2.2.2
theorem insC_eq {r : List Int} (h : Gd r) (k : Int) : insC k r = insP k r := by
  unfold insC insP
  rw [inside_eq, wi_id h.2.1.1, wi_id h.2.1.2.1, wi_id h.2.1.2.2.1, wi_id h.2.1.2.2.2]
theorem insR_eq {r : List Int} (h : Gd r) {k : Int} (l : 0 ≤ k) (g : k ≤ 6) : insR k r = insP k r := r_inside h.2.1.1 h.2.1.2.1 h.2.1.2.2.1 h.2.1.2.2.2 l g

theorem crC_eq {a b : List Int} (ga : Gd a) (gb : Gd b) {k : Int} (ha : 0 ≤ insP k a) (hb : insP k b < 0) : crC k a b = crP k a b := by
  have ea := insC_eq ga k
  have eb := insC_eq gb k
  have c : ∀ x y : Int, Wn x → Wn y → (bif cCross_s0 (a.getD 0 0) (a.getD 1 0) (a.getD 2 0) (a.getD 3 0) (b.getD 0 0) (b.getD 1 0) (b.getD 2 0) (b.getD 3 0) k then x else crossB_0 x y (insC k a) (insC k b)) = btw x y (insP k a) (insP k b) := fun x y hx hy => by
    have := cross_eq (p0 := a.getD 0 0) (p1 := a.getD 1 0) (p2 := a.getD 2 0) (p3 := a.getD 3 0) (q0 := b.getD 0 0) (q1 := b.getD 1 0) (q2 := b.getD 2 0) (q3 := b.getD 3 0) (k := k) (show 0 ≤ insC k a by omega) (show insC k b < 0 by omega) x y
    rw [wi_id hx, wi_id hy] at this
    rw [← ea, ← eb]
    exact this
  obtain ⟨-, ⟨a0, a1, a2, a3⟩, a4, a5, a6, a7⟩ := ga
  obtain ⟨-, ⟨b0, b1, b2, b3⟩, b4, b5, b6, b7⟩ := gb
  unfold crP
  rw [← c _ _ a0 b0, ← c _ _ a1 b1, ← c _ _ a2 b2, ← c _ _ a3 b3, ← c _ _ (Wn_of a4) (Wn_of b4), ← c _ _ (Wn_of a5) (Wn_of b5), ← c _ _ (Wn_of a6) (Wn_of b6), ← c _ _ (Wn_of a7) (Wn_of b7)]
  rfl
theorem crR_eq {a b : List Int} (ga : Gd a) (gb : Gd b) {k : Int} (l : 0 ≤ k) (g : k ≤ 6) (ha : 0 ≤ insP k a) (hb : insP k b < 0) : crR k a b = crP k a b := by
  have ea := insR_eq ga l g
  have eb := insR_eq gb l g
  have la := insP_bd ga k
  have lb := insP_bd gb k
  have c : ∀ x y : Int, Wn x → Wn y → IntKind.wrap .i64 (x + rFloor_0 (IntKind.wrap .i64 (IntKind.wrap .i64 (y - x) * insR k a)) (IntKind.wrap .i64 (insR k a - insR k b))) = btw x y (insP k a) (insP k b) := fun x y hx hy => by
    rw [ea, eb]
    exact rbtw ha (by omega) (by omega) hb hx hy
  obtain ⟨-, ⟨a0, a1, a2, a3⟩, a4, a5, a6, a7⟩ := ga
  obtain ⟨-, ⟨b0, b1, b2, b3⟩, b4, b5, b6, b7⟩ := gb
  unfold crP
  rw [← c _ _ a0 b0, ← c _ _ a1 b1, ← c _ _ a2 b2, ← c _ _ a3 b3, ← c _ _ (Wn_of a4) (Wn_of b4), ← c _ _ (Wn_of a5) (Wn_of b5), ← c _ _ (Wn_of a6) (Wn_of b6), ← c _ _ (Wn_of a7) (Wn_of b7)]
  rfl

theorem crP_gd {a b : List Int} (ga : Gd a) (gb : Gd b) {k : Int} (ha : 0 ≤ insP k a) (hb : insP k b < 0) : Gd (crP k a b) := by
  obtain ⟨-, ⟨a0, a1, a2, a3⟩, a4, a5, a6, a7⟩ := ga
  obtain ⟨-, ⟨b0, b1, b2, b3⟩, b4, b5, b6, b7⟩ := gb
  exact ⟨rfl, ⟨btw_in ha hb a0.1 a0.2 b0.1 b0.2, btw_in ha hb a1.1 a1.2 b1.1 b1.2, btw_in ha hb a2.1 a2.2 b2.1 b2.2, btw_in ha hb a3.1 a3.2 b3.1 b3.2⟩, btw_in ha hb a4.1 a4.2 b4.1 b4.2, btw_in ha hb a5.1 a5.2 b5.1 b5.2, btw_in ha hb a6.1 a6.2 b6.1 b6.2, btw_in ha hb a7.1 a7.2 b7.1 b7.2⟩

theorem emG_eqC {a b : List Int} (ga : Gd a) (gb : Gd b) (k : Int) : emG (insC k) (crC k) a b = emG (insP k) (crP k) a b := by
  unfold emG
  rw [insC_eq ga, insC_eq gb]
  by_cases h1 : 0 ≤ insP k a <;> by_cases h2 : 0 ≤ insP k b
  · rw [decide_eq_true h1, decide_eq_true h2]; rfl
  · rw [decide_eq_true h1, decide_eq_false h2, crC_eq ga gb h1 (by omega)]; rfl
  · rw [decide_eq_false h1, decide_eq_true h2, crC_eq gb ga h2 (by omega)]; rfl
  · rw [decide_eq_false h1, decide_eq_false h2]; rfl
theorem emG_eqR {a b : List Int} (ga : Gd a) (gb : Gd b) {k : Int} (l : 0 ≤ k) (g : k ≤ 6) : emG (insR k) (crR k) a b = emG (insP k) (crP k) a b := by
  unfold emG
  rw [insR_eq ga l g, insR_eq gb l g]
  by_cases h1 : 0 ≤ insP k a <;> by_cases h2 : 0 ≤ insP k b
  · rw [decide_eq_true h1, decide_eq_true h2]; rfl
  · rw [decide_eq_true h1, decide_eq_false h2, crR_eq ga gb l g h1 (by omega)]; rfl
  · rw [decide_eq_false h1, decide_eq_true h2, crR_eq gb ga l g h2 (by omega)]; rfl
  · rw [decide_eq_false h1, decide_eq_false h2]; rfl
theorem emG_gd {a b : List Int} (ga : Gd a) (gb : Gd b) (k : Int) : ∀ r ∈ emG (insP k) (crP k) a b, Gd r := by
  intro r hr
  unfold emG at hr
  by_cases h1 : 0 ≤ insP k a <;> by_cases h2 : 0 ≤ insP k b
  · rw [decide_eq_true h1, decide_eq_true h2] at hr
    simp at hr
    rw [hr, ga.1]; exact ga
  · rw [decide_eq_true h1, decide_eq_false h2] at hr
    simp at hr
    rcases hr with hr | hr
    · rw [hr, ga.1]; exact ga
    · rw [hr]; exact crP_gd ga gb h1 (by omega)
  · rw [decide_eq_false h1, decide_eq_true h2] at hr
    simp at hr
    rw [hr]; exact crP_gd gb ga h2 (by omega)
  · rw [decide_eq_false h1, decide_eq_false h2] at hr
    simp at hr

def Gl (l : List (List Int)) : Prop := ∀ r ∈ l, Gd r
theorem pr_gd {l : List (List Int)} (h : Gl l) {i : Nat} (hi : 0 < l.length) : Gd (pr l i) := by
  unfold pr
  have hm : i % l.length < l.length := Nat.mod_lt _ hi
  rw [List.getD_eq_getElem?_getD, List.getElem?_eq_getElem hm]
  exact h _ (List.getElem_mem hm)
theorem outG_C {l : List (List Int)} (h : Gl l) (k : Int) : ∀ i, i ≤ l.length → outG (insC k) (crC k) l i = outG (insP k) (crP k) l i
  | 0, _ => rfl
  | i + 1, hi => by
    unfold outG
    rw [outG_C h k i (by omega), emG_eqC (pr_gd h (by omega)) (pr_gd h (by omega))]
theorem outG_R {l : List (List Int)} (h : Gl l) {k : Int} (l0 : 0 ≤ k) (g : k ≤ 6) : ∀ i, i ≤ l.length → outG (insR k) (crR k) l i = outG (insP k) (crP k) l i
  | 0, _ => rfl
  | i + 1, hi => by
    unfold outG
    rw [outG_R h l0 g i (by omega), emG_eqR (pr_gd h (by omega)) (pr_gd h (by omega)) l0 g]
theorem outG_gd {l : List (List Int)} (h : Gl l) (k : Int) : ∀ i, i ≤ l.length → Gl (outG (insP k) (crP k) l i)
  | 0, _ => fun _ h => by cases h
  | i + 1, hi => by
    intro r hr
    unfold outG at hr
    rcases List.mem_append.1 hr with hr | hr
    · exact outG_gd h k i (by omega) r hr
    · exact emG_gd (pr_gd h (by omega)) (pr_gd h (by omega)) k r hr
theorem byG_C {l : List (List Int)} (h : Gl l) (k : Int) : byG (insC k) (crC k) l = byG (insP k) (crP k) l := outG_C h k _ (Nat.le_refl _)
theorem byG_R {l : List (List Int)} (h : Gl l) {k : Int} (l0 : 0 ≤ k) (g : k ≤ 6) : byG (insR k) (crR k) l = byG (insP k) (crP k) l := outG_R h l0 g _ (Nat.le_refl _)
theorem byG_gd {l : List (List Int)} (h : Gl l) (k : Int) : Gl (byG (insP k) (crP k) l) := outG_gd h k _ (Nat.le_refl _)

end Go.Proofs.Ytbdmaepooahplaa
