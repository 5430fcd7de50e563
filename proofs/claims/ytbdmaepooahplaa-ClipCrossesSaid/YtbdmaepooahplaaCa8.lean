/-
  The table again without that mark.
-/
import Derived.Test.YtbdmaepooahplaaCa7
namespace Go.Proofs.Ytbdmaepooahplaa
open Go Go.RowKit Go.Proofs.Ytbdmaepooahplaa.V

def tabCa8 : Tab := (54, normC r12Clip_c) :: (52, normC aw12_c) :: (86, normC r12cross_c) :: (56, normC cClip_c) :: tabCa3
theorem tabCa8_ok : TOK Try.prog tabCa8 := TOK.cons r12Clip_en r12Clip_ok (TOK.cons aw12_en aw12_ok (TOK.cons r12cross_en r12cross_ok (TOK.cons cClip_en cClip_ok tabCa3_ok)))

end Go.Proofs.Ytbdmaepooahplaa
