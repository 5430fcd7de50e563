/-
  The seat's program: what the evaluator asks of it; the empty table.
-/
import Derived.Test.YtcdejlgophpdjaaRows
import Derived.Test.YtcdejlgophpdjaaVr
namespace Go.Proofs.Ytcdejlgophpdjaa
open Go Go.RowKit Go.Proofs.Ytcdejlgophpdjaa.V

theorem follows : Try.prog.follows .mixedOrders = true := by kernel_rfl

def tabVL : Tab := []
theorem tabVL_ok : TOK Try.prog tabVL := TOK.nil

end Go.Proofs.Ytcdejlgophpdjaa
