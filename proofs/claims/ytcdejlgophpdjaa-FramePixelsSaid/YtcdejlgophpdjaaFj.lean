/-
  A pixel that is put into a picture's copy.
-/
import Derived.Test.YtcdejlgophpdjaaFi
namespace Go.Proofs.Ytcdejlgophpdjaa
open Go Go.RowKit Go.Proofs.Ytcdejlgophpdjaa.V
set_option linter.unusedVariables false
set_option linter.unusedSectionVars false

theorem bool_iff {a b : Bool} {p : Prop} (h : a = true ↔ p) (k : b = true ↔ p) : a = b := by
  cases a <;> cases b <;> simp_all

section
variable {w h : Nat} (w1 : w ≤ 64) (h1 : h ≤ 64) {l m : List (List Int)}
include w1 h1
theorem Eq6_iff (hl : l.length = w * h) (hm : m.length = w * h) (x y : Int) : Eq6 w h l m x y = true ↔ ∀ j, j < 6 → px w h l x y j = px w h m x y j := by
  unfold Eq6
  rw [px_0 w1 h1 hl, px_1 w1 h1 hl, px_2 w1 h1 hl, px_3 w1 h1 hl, px_4 w1 h1 hl, px_5 w1 h1 hl, px_0 w1 h1 hm, px_1 w1 h1 hm, px_2 w1 h1 hm, px_3 w1 h1 hm, px_4 w1 h1 hm, px_5 w1 h1 hm]
  simp only [Bool.and_eq_true, beq_iff_eq]
  constructor
  · intro ⟨⟨a, b, c, d⟩, e, f⟩ j hj
    match j, hj with
    | 0, _ => exact a
    | 1, _ => exact b
    | 2, _ => exact c
    | 3, _ => exact d
    | 4, _ => exact e
    | 5, _ => exact f
  · intro h
    exact ⟨⟨h 0 (by omega), h 1 (by omega), h 2 (by omega), h 3 (by omega)⟩, h 4 (by omega), h 5 (by omega)⟩
end

section
variable {w h : Nat} (w1 : w ≤ 64) (h1 : h ≤ 64) {l qs : List (List Int)} {i : Nat} {p0 p1 p2 p3 p4 p5 b0 b1 : Int} (g : Gd w h l)

def qS (w h : Nat) (l qs : List (List Int)) (p0 p1 p2 p3 p4 p5 b0 b1 : Int) (i : Nat) : lFrPix_l253_T := .mk false ((2 : Nat) : Int) (i : Int) p0 p1 p2 p3 p4 p5 b0 b1 (w : Int) (h : Int) l qs
def qg (w h : Nat) (l qs : List (List Int)) (p0 p1 p2 p3 p4 p5 : Int) (i : Nat) : List (List Int) := bif inn w h (rget qs i 0) (rget qs i 1) then l.set (ixp w (rget qs i 0) (rget qs i 1)) [p0, p1, p2, p3, IntKind.wrap .i64 p4, p5] else l
/-- Is the pixel as before? -/
def Sm (w h : Nat) (l qs : List (List Int)) (p0 p1 p2 p3 p4 p5 : Int) (i : Nat) : Prop := inn w h (rget qs i 0) (rget qs i 1) = true → ∀ j, j < 6 → rget l (ixp w (rget qs i 0) (rget qs i 1)) j = [p0, p1, p2, p3, IntKind.wrap .i64 p4, p5].getD j 0

local notation "VV" => qS w h l qs p0 p1 p2 p3 p4 p5 b0 b1 i
local notation "QX" => rget qs i 0
local notation "QY" => rget qs i 1
local notation "GG" => qg w h l qs p0 p1 p2 p3 p4 p5 i
local notation "SM" => Sm w h l qs p0 p1 p2 p3 p4 p5 i

theorem r_s5 : lFrPix_l253_s5 VV = inn w h QX QY := by
  unfold lFrPix_l253_s5
  show (bif decide (0 ≤ QX) then bif decide (QX < (w : Int)) then bif decide (0 ≤ QY) then decide (QY < (h : Int)) else false else false else false) = _
  unfold inn
  by_cases a : 0 ≤ QX <;> by_cases b : QX < (w : Int) <;> by_cases c : 0 ≤ QY <;> by_cases d : QY < (h : Int) <;> simp [a, b, c, d]
include w1 h1 g
theorem r_g : lFrPix_l253_s14 VV = GG := by
  unfold lFrPix_l253_s14
  exact set_eq w1 h1 g.1 _ _ _ _ _ _ _ _
theorem r_glen : (GG).length = w * h := by
  unfold qg
  cases inn w h QX QY
  · exact g.1
  · show (List.set _ _ _).length = _
    rw [List.length_set]; exact g.1
theorem r_pxg (hi : inn w h QX QY = true) (j : Nat) : px w h GG QX QY j = [p0, p1, p2, p3, IntKind.wrap .i64 p4, p5].getD j 0 := by
  unfold px qg
  rw [hi]
  show rget (List.set _ _ _) _ _ = _
  rw [rget_lset_eq _ (by rw [g.1]; exact (in_ix w1 h1 hi).2)]
theorem r_same : lFrPix_l253_s17 VV = true ↔ SM := by
  unfold lFrPix_l253_s17
  rw [r_s5]
  show (bif !inn w h QX QY then true else fAt_0 (w : Int) (h : Int) QX QY l == p0 && (fAt_1 (w : Int) (h : Int) QX QY l == p1 && (fAt_2 (w : Int) (h : Int) QX QY l == p2 && fAt_3 (w : Int) (h : Int) QX QY l == p3)) && (fAt_4 (w : Int) (h : Int) QX QY l == IntKind.wrap .i64 p4 && fAt_5 (w : Int) (h : Int) QX QY l == p5)) = true ↔ _
  rw [px_0 w1 h1 g.1, px_1 w1 h1 g.1, px_2 w1 h1 g.1, px_3 w1 h1 g.1, px_4 w1 h1 g.1, px_5 w1 h1 g.1]
  unfold Sm px
  cases hi : inn w h QX QY
  · simp
  · simp only [Bool.not_true, cond_false, cond_true, Bool.and_eq_true, beq_iff_eq, true_implies]
    constructor
    · intro ⟨⟨a, b, c, d⟩, e, f⟩ j hj
      match j, hj with
      | 0, _ => exact a
      | 1, _ => exact b
      | 2, _ => exact c
      | 3, _ => exact d
      | 4, _ => exact e
      | 5, _ => exact f
    · intro h
      exact ⟨⟨h 0 (by omega), h 1 (by omega), h 2 (by omega), h 3 (by omega)⟩, h 4 (by omega), h 5 (by omega)⟩
theorem r_len : l.length ≤ 4096 := by
  rw [g.1]; exact Nat.mul_le_mul w1 h1
theorem r_eq : sEqual_0 l GG = true ↔ SM := by
  rw [(sEq (r_len w1 h1 g) (by rw [r_glen w1 h1 g, g.1])).1]
  unfold Sm
  constructor
  · intro k hi j hj
    have b := (in_ix w1 h1 hi).2
    have := eq6_iff.1 (k (ixp w QX QY) (by rw [g.1]; exact b)) j hj
    rw [this]
    unfold qg
    rw [hi]
    show rget (List.set _ _ _) _ _ = _
    rw [rget_lset_eq _ (by rw [g.1]; exact b)]
  · intro k a ha
    refine eq6_iff.2 fun j hj => ?_
    unfold qg
    cases hi : inn w h QX QY
    · rfl
    · show _ = rget (List.set _ _ _) _ _
      by_cases e : a = ixp w QX QY
      · subst e
        rw [rget_lset_eq _ ha]; exact k hi j hj
      · rw [rget_lset_ne _ e]
theorem r_all (k : SM) (x y : Int) : Eq6 w h l GG x y = true := by
  refine (Eq6_iff w1 h1 g.1 (r_glen w1 h1 g) x y).2 fun j hj => ?_
  unfold px
  cases hx : inn w h x y
  · rfl
  · show rget l (ixp w x y) j = rget GG (ixp w x y) j
    exact eq6_iff.1 ((sEq (r_len w1 h1 g) (by rw [r_glen w1 h1 g, g.1])).1.1 ((r_eq w1 h1 g).2 k) (ixp w x y) (by rw [g.1]; exact (in_ix w1 h1 hx).2)) j hj
theorem r_one (k : Eq6 w h l GG QX QY = true) : SM := by
  intro hi j hj
  have := (Eq6_iff w1 h1 g.1 (r_glen w1 h1 g) QX QY).1 k j hj
  rw [r_pxg w1 h1 g hi] at this
  rw [← this]
  unfold px
  rw [hi]; rfl
theorem r_box : (fSameIn_0 (w : Int) (h : Int) (w : Int) (h : Int) 0 0 64 64 l GG = true ↔ SM) := by
  have := (sameIn w1 h1 g.1 (r_glen (qs := qs) (i := i) (p0 := p0) (p1 := p1) (p2 := p2) (p3 := p3) (p4 := p4) (p5 := p5) w1 h1 g) (x0 := 0) (y0 := 0) (x1 := 64) (y1 := 64) (by omega) (by omega) (by omega) (by omega)).1
  refine this.trans ⟨fun k => ?_, fun k y _ _ x _ _ => r_all w1 h1 g k x y⟩
  intro hi
  obtain ⟨a, b, c, d⟩ := of_decide_eq_true hi
  refine r_one w1 h1 g ?_ hi
  have := k (QY).toNat (by omega) (by omega) (QX).toNat (by omega) (by omega)
  rwa [Int.toNat_of_nonneg a, Int.toNat_of_nonneg c] at this

theorem r_s16 : lFrPix_l253_s16 VV = false := by
  unfold lFrPix_l253_s16 lFrPix_l253_s15
  rw [r_s5, r_g w1 h1 g]
  have e13 : inn w h QX QY = true → lFrPix_l253_s13 VV = false := fun hi => by
    unfold lFrPix_l253_s13
    show (!(fAt_0 (w : Int) (h : Int) QX QY l == rget l (ixp w QX QY) 0 && (fAt_1 (w : Int) (h : Int) QX QY l == rget l (ixp w QX QY) 1 && (fAt_2 (w : Int) (h : Int) QX QY l == rget l (ixp w QX QY) 2 && fAt_3 (w : Int) (h : Int) QX QY l == rget l (ixp w QX QY) 3)) && (fAt_4 (w : Int) (h : Int) QX QY l == rget l (ixp w QX QY) 4 && fAt_5 (w : Int) (h : Int) QX QY l == rget l (ixp w QX QY) 5))) = false
    rw [px_0 w1 h1 g.1, px_1 w1 h1 g.1, px_2 w1 h1 g.1, px_3 w1 h1 g.1, px_4 w1 h1 g.1, px_5 w1 h1 g.1]
    simp [px, hi]
  have e15 : inn w h QX QY = false → (!(lFrPix_l253_s7 VV == 0 && (lFrPix_l253_s8 VV == 0 && (lFrPix_l253_s9 VV == 0 && lFrPix_l253_s10 VV == 0)) && (lFrPix_l253_s11 VV == 0 && lFrPix_l253_s12 VV == 0))) = false := fun hi => by
    show (!(fAt_0 (w : Int) (h : Int) QX QY l == 0 && (fAt_1 (w : Int) (h : Int) QX QY l == 0 && (fAt_2 (w : Int) (h : Int) QX QY l == 0 && fAt_3 (w : Int) (h : Int) QX QY l == 0)) && (fAt_4 (w : Int) (h : Int) QX QY l == 0 && fAt_5 (w : Int) (h : Int) QX QY l == 0))) = false
    rw [px_0 w1 h1 g.1, px_1 w1 h1 g.1, px_2 w1 h1 g.1, px_3 w1 h1 g.1, px_4 w1 h1 g.1, px_5 w1 h1 g.1]
    simp [px, hi]
  have eg : inn w h QX QY = true → (!(fAt_0 (w : Int) (h : Int) QX QY GG == p0 && (fAt_1 (w : Int) (h : Int) QX QY GG == p1 && (fAt_2 (w : Int) (h : Int) QX QY GG == p2 && fAt_3 (w : Int) (h : Int) QX QY GG == p3)) && (fAt_4 (w : Int) (h : Int) QX QY GG == IntKind.wrap .i64 p4 && fAt_5 (w : Int) (h : Int) QX QY GG == p5))) = false := fun hi => by
    have hl := r_glen (qs := qs) (i := i) (p0 := p0) (p1 := p1) (p2 := p2) (p3 := p3) (p4 := p4) (p5 := p5) w1 h1 g
    rw [px_0 w1 h1 hl, px_1 w1 h1 hl, px_2 w1 h1 hl, px_3 w1 h1 hl, px_4 w1 h1 hl, px_5 w1 h1 hl, r_pxg w1 h1 g hi, r_pxg w1 h1 g hi, r_pxg w1 h1 g hi, r_pxg w1 h1 g hi, r_pxg w1 h1 g hi, r_pxg w1 h1 g hi]
    simp
  cases hi : inn w h QX QY
  · exact e15 hi
  · rw [e13 hi]
    show (bif (!(fAt_0 (w : Int) (h : Int) QX QY GG == p0 && (fAt_1 (w : Int) (h : Int) QX QY GG == p1 && (fAt_2 (w : Int) (h : Int) QX QY GG == p2 && fAt_3 (w : Int) (h : Int) QX QY GG == p3)) && (fAt_4 (w : Int) (h : Int) QX QY GG == IntKind.wrap .i64 p4 && fAt_5 (w : Int) (h : Int) QX QY GG == p5))) then true else _) = false
    rw [eg hi]; rfl
theorem r_s18 : lFrPix_l253_s18 VV = false := by
  unfold lFrPix_l253_s18
  rw [r_g w1 h1 g]
  have e : fSame_0 (w : Int) (h : Int) (w : Int) (h : Int) l GG = lFrPix_l253_s17 VV := by
    unfold fSame_0 fSame_s0
    have z : ((w : Int) == (w : Int) && (h : Int) == (h : Int)) = true := by simp
    rw [z]
    exact bool_iff (r_eq w1 h1 g) (r_same w1 h1 g)
  show (!(fSame_0 (w : Int) (h : Int) (w : Int) (h : Int) l GG == lFrPix_l253_s17 VV)) = false
  rw [e]; simp
omit w1 h1 g in
theorem r_s19 : lFrPix_l253_s19 VV = false := by
  unfold lFrPix_l253_s19; simp
theorem r_s20 : lFrPix_l253_s20 VV = false := by
  unfold lFrPix_l253_s20
  rw [r_s18 w1 h1 g, r_s19]
  have e : fSame_0 (w : Int) (h : Int) (w : Int) (h : Int) l l = true := by
    unfold fSame_0 fSame_s0
    have z : ((w : Int) == (w : Int) && (h : Int) == (h : Int)) = true := by simp
    rw [z]
    exact (sEq (r_len w1 h1 g) rfl).1.2 fun i _ => eq6_iff.2 fun _ _ => rfl
  show (!fSame_0 (w : Int) (h : Int) (w : Int) (h : Int) l l) = false
  rw [e]; rfl

variable (c0 : 0 ≤ b0) (c1 : b0 ≤ 255) (d0 : 0 ≤ b1) (d1 : b1 ≤ 255)
omit w1 h1 g in
theorem r_b {b : Int} (c0 : 0 ≤ b) (c1 : b ≤ 255) : IntKind.wrap .i64 (Int.tmod b 22) = ((b.toNat % 22 : Nat) : Int) := by
  rw [Int.tmod_eq_emod_of_nonneg c0, w64_in (by omega) (by omega)]; omega
omit w1 h1 g in
theorem r_b1 (b : Int) : IntKind.wrap .i64 (((b.toNat % 22 : Nat) : Int) + 1) = ((b.toNat % 22 + 1 : Nat) : Int) := by
  rw [w64_in (by omega) (by omega)]; omega
include c0 c1 d0 d1
theorem r_two : (fSameIn_0 (w : Int) (h : Int) (w : Int) (h : Int) (IntKind.wrap .i64 (Int.tmod b0 22)) (IntKind.wrap .i64 (Int.tmod b1 22)) (lFrPix_l253_s21 VV) (lFrPix_l253_s22 VV) l GG = Eq6 w h l GG (IntKind.wrap .i64 (Int.tmod b0 22)) (IntKind.wrap .i64 (Int.tmod b1 22))) ∧ lok fSameIn_l13_st 18446744073709551616 (fSameIn_l13_T.mk false (if IntKind.wrap .i64 (Int.tmod b1 22) < 0 then 0 else IntKind.wrap .i64 (Int.tmod b1 22)) (w : Int) (h : Int) l (w : Int) (h : Int) GG (IntKind.wrap .i64 (Int.tmod b0 22)) (IntKind.wrap .i64 (Int.tmod b1 22)) (lFrPix_l253_s21 VV) (lFrPix_l253_s22 VV)) := by
  have e1 : lFrPix_l253_s21 VV = ((b0.toNat % 22 + 1 : Nat) : Int) := by
    unfold lFrPix_l253_s21
    show IntKind.wrap .i64 (IntKind.wrap .i64 (Int.tmod b0 22) + 1) = _
    rw [r_b c0 c1, r_b1]
  have e2 : lFrPix_l253_s22 VV = ((b1.toNat % 22 + 1 : Nat) : Int) := by
    unfold lFrPix_l253_s22
    show IntKind.wrap .i64 (IntKind.wrap .i64 (Int.tmod b1 22) + 1) = _
    rw [r_b d0 d1, r_b1]
  rw [e1, e2, r_b c0 c1, r_b d0 d1]
  have := sameIn w1 h1 g.1 (r_glen (qs := qs) (i := i) (p0 := p0) (p1 := p1) (p2 := p2) (p3 := p3) (p4 := p4) (p5 := p5) w1 h1 g) (x0 := b0.toNat % 22) (y0 := b1.toNat % 22) (x1 := b0.toNat % 22 + 1) (y1 := b1.toNat % 22 + 1) (by omega) (by omega) (by omega) (by omega)
  refine ⟨bool_iff this.1 ⟨fun k y a b x c d => ?_, fun k => k _ (Nat.le_refl _) (by omega) _ (Nat.le_refl _) (by omega)⟩, this.2⟩
  have e3 : x = b0.toNat % 22 := by omega
  have e4 : y = b1.toNat % 22 := by omega
  subst e3; subst e4
  exact k
theorem r_s25 : lFrPix_l253_s25 VV = false := by
  have e24 : lFrPix_l253_s24 VV = false := by
    unfold lFrPix_l253_s24
    rw [r_g w1 h1 g]
    show (!(fSameIn_0 (w : Int) (h : Int) (w : Int) (h : Int) (IntKind.wrap .i64 (Int.tmod b0 22)) (IntKind.wrap .i64 (Int.tmod b1 22)) (lFrPix_l253_s21 VV) (lFrPix_l253_s22 VV) l GG == Eq6 w h l GG (IntKind.wrap .i64 (Int.tmod b0 22)) (IntKind.wrap .i64 (Int.tmod b1 22)))) = false
    rw [(r_two w1 h1 g c0 c1 d0 d1).1]; simp
  unfold lFrPix_l253_s25
  rw [e24, r_g w1 h1 g]
  show (!(fSameIn_0 (w : Int) (h : Int) (w : Int) (h : Int) 0 0 64 64 l GG == lFrPix_l253_s17 VV)) = false
  rw [bool_iff (r_box w1 h1 g) (r_same (b0 := b0) (b1 := b1) w1 h1 g)]; simp
end
end Go.Proofs.Ytcdejlgophpdjaa
