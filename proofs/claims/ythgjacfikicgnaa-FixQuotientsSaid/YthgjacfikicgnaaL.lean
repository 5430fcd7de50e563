/-
  The seat's program: what the evaluator asks of it; the empty table.
-/
import Derived.Test.YthgjacfikicgnaaRows
import Derived.Test.YthgjacfikicgnaaKj
namespace Go.Proofs.Ythgjacfikicgnaa
open Go Go.RowKit Go.Proofs.Ythgjacfikicgnaa.K

theorem follows : Try.prog.follows .mixedOrders = true := by kernel_rfl

def tabL : Tab := []
theorem tabL_ok : TOK Try.prog tabL := TOK.nil

/-- min and max, as the model writes them. -/
theorem mx_eq (x y : Int) : (if y > x then y else x) = max x y := by omega
theorem mn_eq (x y : Int) : (if y < x then y else x) = min x y := by omega

end Go.Proofs.Ythgjacfikicgnaa
