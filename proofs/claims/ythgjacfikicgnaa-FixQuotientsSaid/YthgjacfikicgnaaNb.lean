/-
  Plain maths of layer 1: what its functions reckon.
-/
import Derived.Test.YthgjacfikicgnaaMa
import Derived.Test.YthgjacfikicgnaaNa
import Derived.Test.YthgjacfikicgnaaLd
namespace Go.Proofs.Ythgjacfikicgnaa
open Go Go.Proofs.Ythgjacfikicgnaa.K

def clamp (n : Int) : Int := max (min n 2147483647) (-2147483647)

theorem clamp_lo (n : Int) : -2147483647 ≤ clamp n := by unfold clamp; omega
theorem clamp_hi (n : Int) : clamp n ≤ 2147483647 := by unfold clamp; omega
theorem clamp_id {n : Int} (h1 : -2147483647 ≤ n) (h2 : n ≤ 2147483647) : clamp n = n := by unfold clamp; omega
theorem clamp_mono {a b : Int} (h : a ≤ b) : clamp a ≤ clamp b := by unfold clamp; omega

theorem fWithin_eq {n m : Int} (h0 : 0 ≤ m) (h1 : m ≤ 4611686018427387904) : fWithin n m = max (min n m) (-m) := by
  unfold fWithin
  rw [w64_in (n := 0 - m) (by omega) (by omega)]
  simp only [mx_eq, mn_eq]
  omega

theorem fClamp_eq (n : Int) : fClamp n = clamp n := by
  unfold fClamp clamp
  exact fWithin_eq (by omega) (by omega)

theorem rClamp_eq (n : Int) : rClamp n = clamp n := by
  unfold rClamp clamp
  simp only [cond_eq_ite, decide_eq_true_eq]
  split
  · omega
  · split <;> omega

theorem fAdd_eq (a b : Int) : fAdd a b = clamp (clamp a + clamp b) := by
  have h1 := clamp_lo a; have h2 := clamp_hi a; have h3 := clamp_lo b; have h4 := clamp_hi b
  unfold fAdd
  rw [fClamp_eq, fClamp_eq, fClamp_eq, w64_in (by omega) (by omega)]

theorem fSub_eq (a b : Int) : fSub a b = clamp (clamp a - clamp b) := by
  have h1 := clamp_lo a; have h2 := clamp_hi a; have h3 := clamp_lo b; have h4 := clamp_hi b
  unfold fSub
  rw [fClamp_eq, fClamp_eq, fClamp_eq, w64_in (by omega) (by omega)]

theorem mul_bd {a b m k : Int} (h1 : -m ≤ a) (h2 : a ≤ m) (h3 : -k ≤ b) (h4 : b ≤ k) : -(m * k) ≤ a * b ∧ a * b ≤ m * k := by
  have ha : a.natAbs ≤ m.natAbs := by omega
  have hb : b.natAbs ≤ k.natAbs := by omega
  have h := Nat.mul_le_mul ha hb
  rw [← Int.natAbs_mul, ← Int.natAbs_mul] at h
  have hm : 0 ≤ m * k := Int.mul_nonneg (by omega) (by omega)
  omega

theorem clamp_mul (a b : Int) : -4611686014132420609 ≤ clamp a * clamp b ∧ clamp a * clamp b ≤ 4611686014132420609 :=
  mul_bd (m := 2147483647) (k := 2147483647) (clamp_lo a) (clamp_hi a) (clamp_lo b) (clamp_hi b)

theorem fMul_eq (a b : Int) : fMul a b = clamp (clamp a * clamp b / 65536) := by
  have h := clamp_mul a b
  unfold fMul
  rw [fClamp_eq, fClamp_eq, fClamp_eq, w64_in (by omega) (by omega), sh16]

theorem fOf_eq (n : Int) : fOf n = clamp (max (min n 65536) (-65536) * 65536) := by
  unfold fOf
  have e : (2 : Int) ^ min (Int.toNat 16) (IntKind.bits .i64) = 65536 := by decide
  rw [fWithin_eq (by omega) (by omega), fClamp_eq, e, w64_in (by omega) (by omega)]

theorem fWhole_eq (n : Int) : fWhole n = clamp n / 65536 := by
  unfold fWhole
  rw [fClamp_eq, sh16]

theorem tdiv_bd {a b m : Int} (h1 : -m ≤ a) (h2 : a ≤ m) : -m ≤ a.tdiv b ∧ a.tdiv b ≤ m := by
  have h := Int.natAbs_tdiv a b
  have h' : Nat.div a.natAbs b.natAbs ≤ a.natAbs := Nat.div_le_self _ _
  rw [← h] at h'
  omega

theorem fFloor_eq {a b : Int} (h1 : -4611686018427387904 ≤ a) (h2 : a ≤ 4611686018427387904) : fFloor a b = a.fdiv b := by
  unfold fFloor
  have hd := tdiv_bd (b := b) h1 h2
  rw [w64_in (n := Int.tdiv a b) (by omega) (by omega), w64_in (n := Int.tdiv a b - 1) (by omega) (by omega)]
  rw [Int.fdiv_eq_tdiv]
  simp only [cond_eq_ite, decide_eq_true_eq, beq_iff_eq, bne_iff_ne, ne_eq, ite_not]
  by_cases hb : b = 0
  · subst hb; simp
  · have hdvd : Int.tmod a b = 0 ↔ b ∣ a := (Int.dvd_iff_tmod_eq_zero).symm
    rw [if_neg hb]
    by_cases hm : b ∣ a
    · rw [if_pos (hdvd.2 hm), if_pos hm]; omega
    · rw [if_neg (fun h => hm (hdvd.1 h)), if_neg hm]
      have hs : (0 ≤ b → b.sign = 1) ∧ (b < 0 → b.sign = -1) := ⟨fun h => Int.sign_eq_one_of_pos (by omega), fun h => Int.sign_eq_neg_one_of_neg h⟩
      (repeat' split) <;> omega

theorem rFloorA_eq {a b : Int} (h1 : -4611686018427387904 ≤ a) (h2 : a ≤ 4611686018427387904) (h3 : 0 ≤ b) (h4 : b ≤ 4611686018427387904) : rFloorA a b = a.fdiv b := by
  unfold rFloorA
  simp only [cond_eq_ite, decide_eq_true_eq, beq_iff_eq]
  by_cases hb : b = 0
  · subst hb; simp
  · rw [if_neg hb]
    rw [Int.fdiv_eq_ediv_of_nonneg _ h3]
    by_cases ha : a ≥ 0
    · have hd := tdiv_bd (b := b) h1 h2
      rw [if_pos ha, w64_in (by omega) (by omega), Int.tdiv_eq_ediv_of_nonneg ha]
    · rw [if_neg ha, w64_in (n := b - 1) (by omega) (by omega), w64_in (n := b - 1 - a) (by omega) (by omega)]
      have hd := tdiv_bd (a := b - 1 - a) (b := b) (m := 9223372036854775807) (by omega) (by omega)
      rw [w64_in (n := Int.tdiv _ _) (by omega) (by omega), w64_in (by omega) (by omega), Int.tdiv_eq_ediv_of_nonneg (by omega)]
      have e1 := Int.mul_ediv_add_emod a b
      have r1 := Int.emod_nonneg a hb
      have r2 := Int.emod_lt_of_pos a (show 0 < b by omega)
      have e2 : b - 1 - a = (b - 1 - a % b) + b * (-(a / b)) := by rw [Int.mul_neg]; omega
      rw [e2, Int.add_mul_ediv_left _ _ hb, Int.ediv_eq_zero_of_lt (by omega) (by omega)]
      omega

theorem rFloor_eq {a b : Int} (h1 : -4611686018427387904 ≤ a) (h2 : a ≤ 4611686018427387904) (h3 : -4611686018427387904 ≤ b) (h4 : b ≤ 4611686018427387904) : rFloor a b = a.fdiv b := by
  have hA := fun (h : 0 ≤ b) => rFloorA_eq h1 h2 h h4
  unfold rFloor
  unfold rFloorA at hA
  simp only [cond_eq_ite, decide_eq_true_eq, beq_iff_eq] at hA ⊢
  by_cases hb : b = 0
  · subst hb; simp
  · rw [if_neg hb]
    by_cases hn : b < 0
    · rw [if_pos hn, w64_in (n := 0 - a) (by omega) (by omega), w64_in (n := 0 - b) (by omega) (by omega), rFloorA_eq (by omega) (by omega) (by omega) (by omega)]
      simp [Int.neg_fdiv_neg]
    · rw [if_neg hn]
      have := hA (by omega)
      rw [if_neg hb] at this
      exact this

theorem fDiv_eq (a b : Int) : fDiv a b = if clamp b = 0 then (if clamp a > 0 then 2147483647 else if clamp a < 0 then -2147483647 else 0) else clamp ((clamp a * 65536).fdiv (clamp b)) := by
  have h1 := clamp_lo a; have h2 := clamp_hi a
  unfold fDiv
  have e : (2 : Int) ^ min (Int.toNat 16) (IntKind.bits .i64) = 65536 := by decide
  rw [fClamp_eq, fClamp_eq, fClamp_eq, e, w64_in (by omega) (by omega), fFloor_eq (by omega) (by omega)]
  simp only [cond_eq_ite, decide_eq_true_eq, beq_iff_eq]

end Go.Proofs.Ythgjacfikicgnaa
