/-
  A state taken from bytes, whether there are enough of them or not.
-/
import Derived.Test.YtcdejlgophpdjaaWe0
import Derived.Test.YtcdejlgophpdjaaWbF2
import Derived.Test.YtcdejlgophpdjaaVs
namespace Go.Proofs.Ytcdejlgophpdjaa
open Go Go.RowKit Go.Proofs.Ytcdejlgophpdjaa.V

def takeG : List LV → List BC → Option Bool
  | [.a (.ptr 0 0)], [⟨⟨0, 3, false, none⟩, [some (.vec 1 0 1), some (.int _ .i64 xa), some (.int _ .i64 xe)]⟩, ⟨⟨0, 0, _, some ⟨0, [.int .u8], l, none⟩⟩, []⟩] => some (!decide (wLeft_0 xa xe l < 15))
  | _, _ => none

def tabWe1 : Tab := (58, splitC takeG (normC stTakeK_c) (normC stTakeF_c)) :: tabWe0
theorem tabWe1_ok : TOK Try.prog tabWe1 := TOK.cons stTakeK_en (splitC_ok stTakeK_ok stTakeF_ok) tabWe0_ok

end Go.Proofs.Ytcdejlgophpdjaa
