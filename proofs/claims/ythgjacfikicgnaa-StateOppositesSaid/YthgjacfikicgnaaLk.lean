/-
  Plain maths of the law on ways and the ones of all other bits.
-/
import Derived.Test.YthgjacfikicgnaaLj
namespace Go.Proofs.Ythgjacfikicgnaa
open Go Go.Proofs.Ythgjacfikicgnaa.K
set_option linter.unusedVariables false

def turnF (x0 : Int) : Int := (IntKind.wrap IntKind.u8 ↑(BitVec.toNat (BitVec.ofInt (IntKind.bits IntKind.u8) (IntKind.wrap IntKind.u8 ↑(BitVec.toNat (BitVec.ofInt (IntKind.bits IntKind.u8) (IntKind.wrap IntKind.u8 ↑(BitVec.toNat (BitVec.ofInt (IntKind.bits IntKind.u8) x0 &&& BitVec.ofInt (IntKind.bits IntKind.u8) 2))) ||| BitVec.ofInt (IntKind.bits IntKind.u8) (IntKind.wrap IntKind.u8 (IntKind.wrap IntKind.u8 ↑(BitVec.toNat (BitVec.ofInt (IntKind.bits IntKind.u8) x0 &&& BitVec.ofInt (IntKind.bits IntKind.u8) 1)) * 2 ^ min (Int.toNat 2) (IntKind.bits IntKind.u8)))))) ||| BitVec.ofInt (IntKind.bits IntKind.u8) (IntKind.wrap IntKind.u8 ↑(BitVec.toNat (BitVec.ofInt (IntKind.bits IntKind.u8) (Int.fdiv x0 (2 ^ min (Int.toNat 2) (IntKind.bits IntKind.u8))) &&& BitVec.ofInt (IntKind.bits IntKind.u8) 1))))))

theorem turnF_spec : ∀ k : Fin 256, 0 ≤ turnF (k.val : Int) ∧ turnF (k.val : Int) < 8 ∧ turnF (k.val : Int) % 2 = (k.val : Int) % 8 / 4 % 2 ∧ turnF (k.val : Int) / 2 % 2 = (k.val : Int) % 8 / 2 % 2 ∧ turnF (k.val : Int) / 4 % 2 = (k.val : Int) % 8 % 2 := by decide +kernel

theorem StateOpposites_true (x0 : Int) (a0 : IntKind.min .u8 ≤ x0) (b0 : x0 ≤ IntKind.max .u8) (x1 : Int) (a1 : IntKind.min .i64 ≤ x1) (b1 : x1 ≤ IntKind.max .i64) (x2 : Int) (a2 : IntKind.min .i64 ≤ x2) (b2 : x2 ≤ IntKind.max .i64)
    (x3 : Int) (a3 : IntKind.min .u8 ≤ x3) (b3 : x3 ≤ IntKind.max .u8) (x4 : Int) (a4 : IntKind.min .u8 ≤ x4) (b4 : x4 ≤ IntKind.max .u8) : lStateOpposites x0 x1 x2 x3 x4 = true := by
  rw [min_u8] at a0 a3 a4
  rw [max_u8] at b0 b3 b4
  unfold lStateOpposites
  have ht : turnF x0 = (IntKind.wrap IntKind.u8 ↑(BitVec.toNat (BitVec.ofInt (IntKind.bits IntKind.u8) (IntKind.wrap IntKind.u8 ↑(BitVec.toNat (BitVec.ofInt (IntKind.bits IntKind.u8) (IntKind.wrap IntKind.u8 ↑(BitVec.toNat (BitVec.ofInt (IntKind.bits IntKind.u8) x0 &&& BitVec.ofInt (IntKind.bits IntKind.u8) 2))) ||| BitVec.ofInt (IntKind.bits IntKind.u8) (IntKind.wrap IntKind.u8 (IntKind.wrap IntKind.u8 ↑(BitVec.toNat (BitVec.ofInt (IntKind.bits IntKind.u8) x0 &&& BitVec.ofInt (IntKind.bits IntKind.u8) 1)) * 2 ^ min (Int.toNat 2) (IntKind.bits IntKind.u8)))))) ||| BitVec.ofInt (IntKind.bits IntKind.u8) (IntKind.wrap IntKind.u8 ↑(BitVec.toNat (BitVec.ofInt (IntKind.bits IntKind.u8) (Int.fdiv x0 (2 ^ min (Int.toNat 2) (IntKind.bits IntKind.u8))) &&& BitVec.ofInt (IntKind.bits IntKind.u8) 1)))))) := rfl
  rw [← ht]
  rw [Int.tmod_eq_emod_of_nonneg a0, wu8 (7 - x0 % 8)]
  have e7 : (7 - x0 % 8) % 256 = 7 - x0 % 8 := by omega
  rw [e7]
  obtain ⟨k, hk⟩ : ∃ k : Fin 256, x0 = (k.val : Int) := ⟨⟨x0.toNat, by omega⟩, by simp; omega⟩
  obtain ⟨t0, t1, t2, t3, t4⟩ := turnF_spec k
  rw [← hk] at t0 t1 t2 t3 t4
  generalize turnF x0 = t at *
  have d1 := doOp_bd (o := 5) (n := x3) (r := x4) (by omega) (by omega) (by omega) (by omega)
  simp only [sHolds_eq (f := x0 % 8) (by omega) (by omega), sHolds_eq (f := 7 - x0 % 8) (by omega) (by omega), sHolds_eq (f := t) t0 t1, sHolds_eq (f := 7) (by omega) (by omega), sHolds_eq (f := 0) (by omega) (by omega),
    sDo_eq (o := 5) (n := x3) (r := x4) (by omega) (by omega) (by omega) (by omega), sDo_eq (o := 5) (n := doOp 5 x3 x4) (r := x4) (by omega) (by omega) (by omega) (by omega), sDo_eq (o := 0) (n := x3) (r := x4) (by omega) (by omega) (by omega) (by omega), sDo_eq (o := 2) (n := x3) (r := x4) (by omega) (by omega) (by omega) (by omega), sDo_eq (o := 1) (n := x3) (r := x4) (by omega) (by omega) (by omega) (by omega)]
  have h1 : hold (7 - x0 % 8) x1 x2 = !hold (x0 % 8) x1 x2 := by
    unfold hold
    have hm : x0 % 8 = 0 ∨ x0 % 8 = 1 ∨ x0 % 8 = 2 ∨ x0 % 8 = 3 ∨ x0 % 8 = 4 ∨ x0 % 8 = 5 ∨ x0 % 8 = 6 ∨ x0 % 8 = 7 := by omega
    rcases hm with h | h | h | h | h | h | h | h <;> rw [h] <;> (repeat' split) <;> rfl
  have h2 : hold t x2 x1 = hold (x0 % 8) x1 x2 := by
    unfold hold
    rw [t2, t3, t4]
    by_cases g1 : x1 < x2
    · rw [if_neg (by omega), if_neg (by omega), if_pos g1]
    · by_cases g2 : x1 = x2
      · subst g2; simp
      · rw [if_pos (by omega), if_neg g1, if_neg g2]
  have h3 : hold 7 x1 x2 = true := by unfold hold; (repeat' split) <;> rfl
  have h4 : hold 0 x1 x2 = false := by unfold hold; (repeat' split) <;> rfl
  have h5 : doOp 5 (doOp 5 x3 x4) x4 = x3 := by unfold doOp; simp; omega
  have h6 : doOp 0 x3 x4 = x3 := by unfold doOp; simp
  have h7 : doOp 2 x3 x4 = x4 := by unfold doOp; simp
  have h8 : doOp 1 x3 x4 = 0 := by unfold doOp; simp
  rw [h1, h2, h3, h4, h5, h6, h7, h8]
  cases hold (x0 % 8) x1 x2 <;> simp

end Go.Proofs.Ythgjacfikicgnaa
