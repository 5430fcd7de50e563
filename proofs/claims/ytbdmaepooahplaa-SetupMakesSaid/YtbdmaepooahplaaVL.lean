/-
  The seat's program: what the evaluator asks of it; the empty table.
-/
import Derived.Test.YtbdmaepooahplaaRows
import Derived.Test.YtbdmaepooahplaaVr
namespace Go.Proofs.Ytbdmaepooahplaa
open Go Go.RowKit Go.Proofs.Ytbdmaepooahplaa.V

theorem follows : Try.prog.follows .mixedOrders = true := by kernel_rfl

def tabVL : Tab := []
theorem tabVL_ok : TOK Try.prog tabVL := TOK.nil

end Go.Proofs.Ytbdmaepooahplaa
