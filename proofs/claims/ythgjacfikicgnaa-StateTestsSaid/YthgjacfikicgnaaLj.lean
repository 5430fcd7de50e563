/-
  Plain maths of the laws of layer 9 on tests and ops.
-/
import Derived.Test.YthgjacfikicgnaaNb
import Derived.Test.YthgjacfikicgnaaLg
namespace Go.Proofs.Ythgjacfikicgnaa
open Go Go.Proofs.Ythgjacfikicgnaa.K
set_option linter.unusedVariables false

def hold (f a b : Int) : Bool := if a < b then f % 2 == 1 else if a = b then f / 2 % 2 == 1 else f / 4 % 2 == 1

theorem bitsOf : ∀ k : Fin 8, ((IntKind.wrap IntKind.u8 ↑(BitVec.toNat (BitVec.ofInt (IntKind.bits IntKind.u8) (k.val : Int) &&& BitVec.ofInt (IntKind.bits IntKind.u8) 1)) != 0) = ((k.val : Int) % 2 == 1)) ∧
    ((IntKind.wrap IntKind.u8 ↑(BitVec.toNat (BitVec.ofInt (IntKind.bits IntKind.u8) (k.val : Int) &&& BitVec.ofInt (IntKind.bits IntKind.u8) 2)) != 0) = ((k.val : Int) / 2 % 2 == 1)) ∧
    ((IntKind.wrap IntKind.u8 ↑(BitVec.toNat (BitVec.ofInt (IntKind.bits IntKind.u8) (k.val : Int) &&& BitVec.ofInt (IntKind.bits IntKind.u8) 4)) != 0) = ((k.val : Int) / 4 % 2 == 1)) := by decide +kernel

theorem sHolds_eq {f : Int} (h0 : 0 ≤ f) (h1 : f < 8) (a b : Int) : sHolds f a b = hold f a b := by
  obtain ⟨k, rfl⟩ : ∃ k : Fin 8, f = (k.val : Int) := ⟨⟨f.toNat, by omega⟩, by simp; omega⟩
  obtain ⟨e1, e2, e3⟩ := bitsOf k
  unfold sHolds hold
  simp only [e1, e2, e3, cond_eq_ite, decide_eq_true_eq, beq_iff_eq]
  (repeat' split) <;> simp_all

theorem rHolds_eq {f : Int} (h0 : 0 ≤ f) (h1 : f < 8) (a b : Int) : rHolds f a b = hold f a b := by
  unfold rHolds hold
  have e2 : Int.tdiv f 2 = f / 2 := Int.tdiv_eq_ediv_of_nonneg h0
  have e4 : Int.tdiv f 4 = f / 4 := Int.tdiv_eq_ediv_of_nonneg h0
  rw [e2, e4, w64_in (n := f / 2) (by omega) (by omega), w64_in (n := f / 4) (by omega) (by omega)]
  rw [Int.tmod_eq_emod_of_nonneg h0, Int.tmod_eq_emod_of_nonneg (by omega), Int.tmod_eq_emod_of_nonneg (by omega)]
  simp only [cond_eq_ite, decide_eq_true_eq, beq_iff_eq]
  (repeat' split) <;> simp_all

def doOp (o n r : Int) : Int := if o = 1 then 0 else if o = 2 then r else if o = 3 then (if n < 255 then n + 1 else n) else if o = 4 then (if n > 0 then n - 1 else n) else if o = 5 then 255 - n else n

theorem inv8 : ∀ k : Fin 256, IntKind.wrap IntKind.u8 ↑(BitVec.toNat (BitVec.ofInt (IntKind.bits IntKind.u8) (if IntKind.signed IntKind.u8 = true then -1 else IntKind.max IntKind.u8) ^^^ BitVec.ofInt (IntKind.bits IntKind.u8) (k.val : Int))) = 255 - (k.val : Int) := by decide +kernel

theorem sDo_eq {o n r : Int} (h0 : 0 ≤ o) (h1 : o < 6) (n0 : 0 ≤ n) (n1 : n ≤ 255) : sDo o n r = doOp o n r := by
  obtain ⟨k, hk⟩ : ∃ k : Fin 256, n = (k.val : Int) := ⟨⟨n.toNat, by omega⟩, by simp; omega⟩
  have hi := inv8 k
  rw [← hk] at hi
  unfold sDo doOp
  rw [hi, wu8, wu8, wu8]
  simp only [cond_eq_ite, beq_iff_eq]
  (repeat' split) <;> omega

theorem rDo_eq {o n r : Int} (h0 : 0 ≤ o) (h1 : o < 6) (n0 : 0 ≤ n) (n1 : n ≤ 255) : rDo o n r = doOp o n r := by
  unfold rDo doOp
  rw [w64_in (n := n + 1) (by omega) (by omega), w64_in (n := n - 1) (by omega) (by omega), w64_in (n := 255 - n) (by omega) (by omega)]
  simp only [cond_eq_ite, beq_iff_eq, decide_eq_true_eq]
  (repeat' split) <;> omega

theorem doOp_bd {o n r : Int} (n0 : 0 ≤ n) (n1 : n ≤ 255) (r0 : 0 ≤ r) (r1 : r ≤ 255) : 0 ≤ doOp o n r ∧ doOp o n r ≤ 255 := by
  unfold doOp
  (repeat' split) <;> omega

theorem bif_eq (b c : Bool) (x : Bool) : (bif b then (bif true == c then x else false) else (bif false == c then x else false)) = (bif b == c then x else false) := by
  cases b <;> cases c <;> rfl

theorem StateTests_true (x0 : Int) (a0 : IntKind.min .u8 ≤ x0) (b0 : x0 ≤ IntKind.max .u8) (x1 : Int) (a1 : IntKind.min .u8 ≤ x1) (b1 : x1 ≤ IntKind.max .u8) (x2 : Int) (a2 : IntKind.min .u8 ≤ x2) (b2 : x2 ≤ IntKind.max .u8)
    (x3 : Int) (a3 : IntKind.min .u8 ≤ x3) (b3 : x3 ≤ IntKind.max .u8) (x4 : Int) (a4 : IntKind.min .i64 ≤ x4) (b4 : x4 ≤ IntKind.max .i64) (x5 : Int) (a5 : IntKind.min .i64 ≤ x5) (b5 : x5 ≤ IntKind.max .i64) (x6 : Int) (a6 : IntKind.min .u8 ≤ x6) (b6 : x6 ≤ IntKind.max .u8) :
    lStateTests x0 x1 x2 x3 x4 x5 x6 = true := by
  rw [min_u8] at a0 a1 a2 a3 a6
  rw [max_u8] at b0 b1 b2 b3 b6
  unfold lStateTests
  rw [Int.tmod_eq_emod_of_nonneg a0, Int.tmod_eq_emod_of_nonneg a1]
  rw [w64_in (n := x0 % 8) (by omega) (by omega), w64_in (n := x1 % 6) (by omega) (by omega), w64_in (n := x2) (by omega) (by omega), w64_in (n := x3) (by omega) (by omega), w64_in (n := x6) (by omega) (by omega)]
  simp only [sHolds_eq (f := x0 % 8) (by omega) (by omega), rHolds_eq (f := x0 % 8) (by omega) (by omega), sDo_eq (o := x1 % 6) (n := x2) (r := x3) (by omega) (by omega) (by omega) (by omega), rDo_eq (o := x1 % 6) (n := x2) (r := x3) (by omega) (by omega) (by omega) (by omega)]
  have hd := doOp_bd (o := x1 % 6) (n := x2) (r := x3) (by omega) (by omega) (by omega) (by omega)
  rw [w64_in (n := doOp _ _ _) (by omega) (by omega)]
  have e : hold (x0 % 8) x5 x5 = hold (x0 % 8) 1 1 := by unfold hold; simp
  rw [e]
  cases hold (x0 % 8) x4 x5 <;> cases hold (x0 % 8) x2 x6 <;> cases hold (x0 % 8) 1 1 <;> simp

end Go.Proofs.Ythgjacfikicgnaa
