/-
  Facts of the seat's program that each row's end asks for.
-/
import Derived.ProofKit
import Derived.JoinedOf
import Derived.Test.YtcdejlgophpdjaaRows
import Derived.Test.YtcdejlgophpdjaaQRasterTiles4
section
namespace Go.Proofs.Ytcdejlgophpdjaa.V
open Go Go.RowKit Go.Proofs.Ytcdejlgophpdjaa

theorem seat_laid : laidOutB Try.prog = true := by kernel_rfl
theorem seat_rowed : mapsRowed Try.prog = true := by kernel_rfl
theorem andI {a b : Bool} (h : a = true) (g : b = true) : (a && b) = true := by rw [h, g]; rfl

theorem strip_cut (rest : List (List Char)) : stripLifts liftWords ("cut".toList :: rest) = ([], "cut".toList :: rest) := by kernel_rfl
theorem enter_of {P : Program} {rest : List (List Char)} (h : behindMainWord (wordsSigns P.initOrder.toList) = "cut".toList :: rest) (f1 : P.laysLater = false) (f2 : P.bearsReflect = false) (f5 : P.doorFits [] = true) : P.mayEnter = true := by
  unfold Program.mayEnter
  rw [h]
  simp only [strip_cut, f1, f2, f5]
  rfl
theorem lifts_of {P : Program} {rest : List (List Char)} (h : behindMainWord (wordsSigns P.initOrder.toList) = "cut".toList :: rest) : P.liftsFinal = false := by
  unfold Program.liftsFinal Program.headLifts
  rw [h]
  simp only [strip_cut]
  rfl
theorem make_of {P : Program} {rest : List (List Char)} (h : behindMainWord (wordsSigns P.initOrder.toList) = "cut".toList :: rest) : P.make = some .cut := by
  unfold Program.make
  rw [h]
  rfl
theorem head_of {l : List (List Char)} (h : l.head? = some "cut".toList) : ∃ rest, l = "cut".toList :: rest := by
  cases l with
  | nil => cases h
  | cons c r => simp only [List.head?_cons, Option.some.injEq] at h; exact ⟨r, by rw [h]⟩

theorem seat_head : (behindMainWord (wordsSigns Try.prog.initOrder.toList)).head? = some "cut".toList := by kernel_rfl
theorem seat_doors : Try.prog.doorRows = [] := by kernel_rfl
theorem seat_door : Try.prog.doorFits [] = true := by
  unfold Program.doorFits
  rw [seat_doors]
  rfl
theorem seat_late : Try.prog.laysLater = false := by kernel_rfl
theorem seat_refl : Try.prog.bearsReflect = false := by kernel_rfl
theorem seat_enter : Try.prog.mayEnter = true := by
  obtain ⟨r, h⟩ := head_of seat_head
  exact enter_of h seat_late seat_refl seat_door
theorem seat_lifts : Try.prog.liftsFinal = false := by
  obtain ⟨r, h⟩ := head_of seat_head
  exact lifts_of h
theorem seat_make : Try.prog.make = some .cut := by
  obtain ⟨r, h⟩ := head_of seat_head
  exact make_of h

end Go.Proofs.Ytcdejlgophpdjaa.V
end

