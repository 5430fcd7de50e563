/-
  The seat's program: what the evaluator asks of it; the empty table.
-/
import Derived.Test.YthgjacfikicgnaaRows
import Derived.Test.YthgjacfikicgnaaVr
namespace Go.Proofs.Ythgjacfikicgnaa
open Go Go.RowKit Go.Proofs.Ythgjacfikicgnaa.V

theorem follows : Try.prog.follows .mixedOrders = true := by kernel_rfl

def tabVL : Tab := []
theorem tabVL_ok : TOK Try.prog tabVL := TOK.nil

end Go.Proofs.Ythgjacfikicgnaa
