/-
  No cell of these rows narrows 'for every input' (looked for: loops, veiled, ifaces, maps, wideKeys, modest, calm, conditions, laid).
  DERIVED. THE GIVEN ROWS OF THIS SEAT. 18 by the template 'for every input the law returns true; each argument reads behind the call as it read before'; 0 by the template 'total and deterministic' (their statements: YtbdmaepooahplaaTotals.lean).
  GIVEN WITH THE SEED: the statements are not yours to turn. If you find one false, say at which input.
  Laid BY PROGRAM, IN A SANDBOX (cutbox-rows.mjs): the forced cells as the released guide's own fill.sh prints them over the translation aeea7ad69be28058… (all of the seat's roots in one cut). By AI agents, Wed Nov 11 2026. No macro, syntax, notation, axiom, sorry.
-/
import Derived.Test.YtbdmaepooahplaaChecked
import GoSem.Claim
import GoSem.ClaimJoined
import GoSem.ClaimMapViews
import Derived.JoinedTies
import Derived.KernelRfl
namespace Go.Proofs.Ytbdmaepooahplaa
/- THE CELL 'sum', in the pinned program and in every row, IS THE sha256 OF THE DUMP (.gsa) THAT YtbdmaepooahplaaProg.lean LOADS. Nothing in Lean hashes anything: it is a label: what it is worth is what the hold of that sum in a sandbox is worth. -/
noncomputable def Try.pinned : Pinned := { name := "ytbdmaepooahplaa", sum := "aeea7ad69be28058b935c269da64863d2a98f366241f6197cf65476953ad72d8", checked := Try.checked }
namespace Rows
def none {H : Type} : Left H := { results := [], args := [] }

/-- 'azulejolaw13.SetupAt': WHATEVER THE INPUT: true; the input reads as it did. -/
def setupAtSpec : ChangeSpec := { name := "setupAt", fn := fun _ => fun
  | [d1, d2, d3] => { results := [.lit (.bool true)], args := [d1, d2, d3] }
  | _ => none }
def setupAtRow : OpenClaim := { program := "ytbdmaepooahplaa", sum := "aeea7ad69be28058b935c269da64863d2a98f366241f6197cf65476953ad72d8", func := "azulejo/azulejolaw13.SetupAt", spec := "setupAt", apart := false }
def SetupAtSaid : Prop := setupAtRow.holds Try.pinned (OpenSpec.ofChange setupAtSpec)

/-- ITS FALSE NEIGHBOUR: 'it returns false'. Refute it at one input. -/
def setupAtWrong : ChangeSpec := { name := "setupAt", fn := fun _ => fun
  | [d1, d2, d3] => { results := [.lit (.bool false)], args := [d1, d2, d3] }
  | _ => none }
def SetupAtWrongFalsely : Prop := setupAtRow.holds Try.pinned (OpenSpec.ofChange setupAtWrong)

/-- 'azulejolaw13.SetupBetween': WHATEVER THE INPUT: true; the input reads as it did. -/
def setupBetweenSpec : ChangeSpec := { name := "setupBetween", fn := fun _ => fun
  | [d1, d2, d3] => { results := [.lit (.bool true)], args := [d1, d2, d3] }
  | _ => none }
def setupBetweenRow : OpenClaim := { program := "ytbdmaepooahplaa", sum := "aeea7ad69be28058b935c269da64863d2a98f366241f6197cf65476953ad72d8", func := "azulejo/azulejolaw13.SetupBetween", spec := "setupBetween", apart := false }
def SetupBetweenSaid : Prop := setupBetweenRow.holds Try.pinned (OpenSpec.ofChange setupBetweenSpec)

/-- ITS FALSE NEIGHBOUR: 'it returns false'. Refute it at one input. -/
def setupBetweenWrong : ChangeSpec := { name := "setupBetween", fn := fun _ => fun
  | [d1, d2, d3] => { results := [.lit (.bool false)], args := [d1, d2, d3] }
  | _ => none }
def SetupBetweenWrongFalsely : Prop := setupBetweenRow.holds Try.pinned (OpenSpec.ofChange setupBetweenWrong)

/-- 'azulejolaw13.SetupFlat': WHATEVER THE INPUT: true; the input reads as it did. -/
def setupFlatSpec : ChangeSpec := { name := "setupFlat", fn := fun _ => fun
  | [d1, d2, d3, d4] => { results := [.lit (.bool true)], args := [d1, d2, d3, d4] }
  | _ => none }
def setupFlatRow : OpenClaim := { program := "ytbdmaepooahplaa", sum := "aeea7ad69be28058b935c269da64863d2a98f366241f6197cf65476953ad72d8", func := "azulejo/azulejolaw13.SetupFlat", spec := "setupFlat", apart := false }
def SetupFlatSaid : Prop := setupFlatRow.holds Try.pinned (OpenSpec.ofChange setupFlatSpec)

/-- ITS FALSE NEIGHBOUR: 'it returns false'. Refute it at one input. -/
def setupFlatWrong : ChangeSpec := { name := "setupFlat", fn := fun _ => fun
  | [d1, d2, d3, d4] => { results := [.lit (.bool false)], args := [d1, d2, d3, d4] }
  | _ => none }
def SetupFlatWrongFalsely : Prop := setupFlatRow.holds Try.pinned (OpenSpec.ofChange setupFlatWrong)

/-- 'azulejolaw19.PixelPuts': WHATEVER THE INPUT: true; the input reads as it did. -/
def pixelPutsSpec : ChangeSpec := { name := "pixelPuts", fn := fun _ => fun
  | [d1, d2, d3, d4, d5, d6] => { results := [.lit (.bool true)], args := [d1, d2, d3, d4, d5, d6] }
  | _ => none }
def pixelPutsRow : OpenClaim := { program := "ytbdmaepooahplaa", sum := "aeea7ad69be28058b935c269da64863d2a98f366241f6197cf65476953ad72d8", func := "azulejo/azulejolaw19.PixelPuts", spec := "pixelPuts", apart := false }
def PixelPutsSaid : Prop := pixelPutsRow.holds Try.pinned (OpenSpec.ofChange pixelPutsSpec)

/-- ITS FALSE NEIGHBOUR: 'it returns false'. Refute it at one input. -/
def pixelPutsWrong : ChangeSpec := { name := "pixelPuts", fn := fun _ => fun
  | [d1, d2, d3, d4, d5, d6] => { results := [.lit (.bool false)], args := [d1, d2, d3, d4, d5, d6] }
  | _ => none }
def PixelPutsWrongFalsely : Prop := pixelPutsRow.holds Try.pinned (OpenSpec.ofChange pixelPutsWrong)

/-- 'azulejolaw19.PixelBlends': WHATEVER THE INPUT: true; the input reads as it did. -/
def pixelBlendsSpec : ChangeSpec := { name := "pixelBlends", fn := fun _ => fun
  | [d1, d2, d3, d4, d5] => { results := [.lit (.bool true)], args := [d1, d2, d3, d4, d5] }
  | _ => none }
def pixelBlendsRow : OpenClaim := { program := "ytbdmaepooahplaa", sum := "aeea7ad69be28058b935c269da64863d2a98f366241f6197cf65476953ad72d8", func := "azulejo/azulejolaw19.PixelBlends", spec := "pixelBlends", apart := false }
def PixelBlendsSaid : Prop := pixelBlendsRow.holds Try.pinned (OpenSpec.ofChange pixelBlendsSpec)

/-- ITS FALSE NEIGHBOUR: 'it returns false'. Refute it at one input. -/
def pixelBlendsWrong : ChangeSpec := { name := "pixelBlends", fn := fun _ => fun
  | [d1, d2, d3, d4, d5] => { results := [.lit (.bool false)], args := [d1, d2, d3, d4, d5] }
  | _ => none }
def PixelBlendsWrongFalsely : Prop := pixelBlendsRow.holds Try.pinned (OpenSpec.ofChange pixelBlendsWrong)

/-- 'azulejolaw19.PixelSees': WHATEVER THE INPUT: true; the input reads as it did. -/
def pixelSeesSpec : ChangeSpec := { name := "pixelSees", fn := fun _ => fun
  | [d1, d2, d3, d4] => { results := [.lit (.bool true)], args := [d1, d2, d3, d4] }
  | _ => none }
def pixelSeesRow : OpenClaim := { program := "ytbdmaepooahplaa", sum := "aeea7ad69be28058b935c269da64863d2a98f366241f6197cf65476953ad72d8", func := "azulejo/azulejolaw19.PixelSees", spec := "pixelSees", apart := false }
def PixelSeesSaid : Prop := pixelSeesRow.holds Try.pinned (OpenSpec.ofChange pixelSeesSpec)

/-- ITS FALSE NEIGHBOUR: 'it returns false'. Refute it at one input. -/
def pixelSeesWrong : ChangeSpec := { name := "pixelSees", fn := fun _ => fun
  | [d1, d2, d3, d4] => { results := [.lit (.bool false)], args := [d1, d2, d3, d4] }
  | _ => none }
def PixelSeesWrongFalsely : Prop := pixelSeesRow.holds Try.pinned (OpenSpec.ofChange pixelSeesWrong)

/-- 'azulejolaw19.PixelLate': WHATEVER THE INPUT: true; the input reads as it did. -/
def pixelLateSpec : ChangeSpec := { name := "pixelLate", fn := fun _ => fun
  | [d1, d2, d3, d4, d5] => { results := [.lit (.bool true)], args := [d1, d2, d3, d4, d5] }
  | _ => none }
def pixelLateRow : OpenClaim := { program := "ytbdmaepooahplaa", sum := "aeea7ad69be28058b935c269da64863d2a98f366241f6197cf65476953ad72d8", func := "azulejo/azulejolaw19.PixelLate", spec := "pixelLate", apart := false }
def PixelLateSaid : Prop := pixelLateRow.holds Try.pinned (OpenSpec.ofChange pixelLateSpec)

/-- ITS FALSE NEIGHBOUR: 'it returns false'. Refute it at one input. -/
def pixelLateWrong : ChangeSpec := { name := "pixelLate", fn := fun _ => fun
  | [d1, d2, d3, d4, d5] => { results := [.lit (.bool false)], args := [d1, d2, d3, d4, d5] }
  | _ => none }
def PixelLateWrongFalsely : Prop := pixelLateRow.holds Try.pinned (OpenSpec.ofChange pixelLateWrong)

/-- 'azulejolaw19.PixelTwice': WHATEVER THE INPUT: true; the input reads as it did. -/
def pixelTwiceSpec : ChangeSpec := { name := "pixelTwice", fn := fun _ => fun
  | [d1, d2, d3, d4] => { results := [.lit (.bool true)], args := [d1, d2, d3, d4] }
  | _ => none }
def pixelTwiceRow : OpenClaim := { program := "ytbdmaepooahplaa", sum := "aeea7ad69be28058b935c269da64863d2a98f366241f6197cf65476953ad72d8", func := "azulejo/azulejolaw19.PixelTwice", spec := "pixelTwice", apart := false }
def PixelTwiceSaid : Prop := pixelTwiceRow.holds Try.pinned (OpenSpec.ofChange pixelTwiceSpec)

/-- ITS FALSE NEIGHBOUR: 'it returns false'. Refute it at one input. -/
def pixelTwiceWrong : ChangeSpec := { name := "pixelTwice", fn := fun _ => fun
  | [d1, d2, d3, d4] => { results := [.lit (.bool false)], args := [d1, d2, d3, d4] }
  | _ => none }
def PixelTwiceWrongFalsely : Prop := pixelTwiceRow.holds Try.pinned (OpenSpec.ofChange pixelTwiceWrong)

/-- 'azulejolaw19.PixelMasks': WHATEVER THE INPUT: true; the input reads as it did. -/
def pixelMasksSpec : ChangeSpec := { name := "pixelMasks", fn := fun _ => fun
  | [d1, d2, d3, d4] => { results := [.lit (.bool true)], args := [d1, d2, d3, d4] }
  | _ => none }
def pixelMasksRow : OpenClaim := { program := "ytbdmaepooahplaa", sum := "aeea7ad69be28058b935c269da64863d2a98f366241f6197cf65476953ad72d8", func := "azulejo/azulejolaw19.PixelMasks", spec := "pixelMasks", apart := false }
def PixelMasksSaid : Prop := pixelMasksRow.holds Try.pinned (OpenSpec.ofChange pixelMasksSpec)

/-- ITS FALSE NEIGHBOUR: 'it returns false'. Refute it at one input. -/
def pixelMasksWrong : ChangeSpec := { name := "pixelMasks", fn := fun _ => fun
  | [d1, d2, d3, d4] => { results := [.lit (.bool false)], args := [d1, d2, d3, d4] }
  | _ => none }
def PixelMasksWrongFalsely : Prop := pixelMasksRow.holds Try.pinned (OpenSpec.ofChange pixelMasksWrong)

/-- 'azulejolaw16.BinCovers': WHATEVER THE INPUT: true; the input reads as it did. -/
def binCoversSpec : ChangeSpec := { name := "binCovers", fn := fun _ => fun
  | [d1, d2, d3, d4, d5] => { results := [.lit (.bool true)], args := [d1, d2, d3, d4, d5] }
  | _ => none }
def binCoversRow : OpenClaim := { program := "ytbdmaepooahplaa", sum := "aeea7ad69be28058b935c269da64863d2a98f366241f6197cf65476953ad72d8", func := "azulejo/azulejolaw16.BinCovers", spec := "binCovers", apart := false }
def BinCoversSaid : Prop := binCoversRow.holds Try.pinned (OpenSpec.ofChange binCoversSpec)

/-- ITS FALSE NEIGHBOUR: 'it returns false'. Refute it at one input. -/
def binCoversWrong : ChangeSpec := { name := "binCovers", fn := fun _ => fun
  | [d1, d2, d3, d4, d5] => { results := [.lit (.bool false)], args := [d1, d2, d3, d4, d5] }
  | _ => none }
def BinCoversWrongFalsely : Prop := binCoversRow.holds Try.pinned (OpenSpec.ofChange binCoversWrong)

/-- 'azulejolaw12.ClipCuts': WHATEVER THE INPUT: true; the input reads as it did. -/
def clipCutsSpec : ChangeSpec := { name := "clipCuts", fn := fun _ => fun
  | [d] => { results := [.lit (.bool true)], args := [d] }
  | _ => none }
def clipCutsRow : OpenClaim := { program := "ytbdmaepooahplaa", sum := "aeea7ad69be28058b935c269da64863d2a98f366241f6197cf65476953ad72d8", func := "azulejo/azulejolaw12.ClipCuts", spec := "clipCuts", unfollowed := true, recurses := true, apart := false }
def ClipCutsSaid : Prop := clipCutsRow.holds Try.pinned (OpenSpec.ofChange clipCutsSpec)

/-- ITS FALSE NEIGHBOUR: 'it returns false'. Refute it at one input. -/
def clipCutsWrong : ChangeSpec := { name := "clipCuts", fn := fun _ => fun
  | [d] => { results := [.lit (.bool false)], args := [d] }
  | _ => none }
def ClipCutsWrongFalsely : Prop := clipCutsRow.holds Try.pinned (OpenSpec.ofChange clipCutsWrong)

/-- 'azulejolaw12.ClipInside': WHATEVER THE INPUT: true; the input reads as it did. -/
def clipInsideSpec : ChangeSpec := { name := "clipInside", fn := fun _ => fun
  | [d1, d2, d3] => { results := [.lit (.bool true)], args := [d1, d2, d3] }
  | _ => none }
def clipInsideRow : OpenClaim := { program := "ytbdmaepooahplaa", sum := "aeea7ad69be28058b935c269da64863d2a98f366241f6197cf65476953ad72d8", func := "azulejo/azulejolaw12.ClipInside", spec := "clipInside", unfollowed := true, recurses := true, apart := false }
def ClipInsideSaid : Prop := clipInsideRow.holds Try.pinned (OpenSpec.ofChange clipInsideSpec)

/-- ITS FALSE NEIGHBOUR: 'it returns false'. Refute it at one input. -/
def clipInsideWrong : ChangeSpec := { name := "clipInside", fn := fun _ => fun
  | [d1, d2, d3] => { results := [.lit (.bool false)], args := [d1, d2, d3] }
  | _ => none }
def ClipInsideWrongFalsely : Prop := clipInsideRow.holds Try.pinned (OpenSpec.ofChange clipInsideWrong)

/-- 'azulejolaw12.ClipCrosses': WHATEVER THE INPUT: true; the input reads as it did. -/
def clipCrossesSpec : ChangeSpec := { name := "clipCrosses", fn := fun _ => fun
  | [d1, d2, d3] => { results := [.lit (.bool true)], args := [d1, d2, d3] }
  | _ => none }
def clipCrossesRow : OpenClaim := { program := "ytbdmaepooahplaa", sum := "aeea7ad69be28058b935c269da64863d2a98f366241f6197cf65476953ad72d8", func := "azulejo/azulejolaw12.ClipCrosses", spec := "clipCrosses", unfollowed := true, recurses := true, apart := false }
def ClipCrossesSaid : Prop := clipCrossesRow.holds Try.pinned (OpenSpec.ofChange clipCrossesSpec)

/-- ITS FALSE NEIGHBOUR: 'it returns false'. Refute it at one input. -/
def clipCrossesWrong : ChangeSpec := { name := "clipCrosses", fn := fun _ => fun
  | [d1, d2, d3] => { results := [.lit (.bool false)], args := [d1, d2, d3] }
  | _ => none }
def ClipCrossesWrongFalsely : Prop := clipCrossesRow.holds Try.pinned (OpenSpec.ofChange clipCrossesWrong)

/-- 'azulejolaw12.ClipKeeps': WHATEVER THE INPUT: true; the input reads as it did. -/
def clipKeepsSpec : ChangeSpec := { name := "clipKeeps", fn := fun _ => fun
  | [d] => { results := [.lit (.bool true)], args := [d] }
  | _ => none }
def clipKeepsRow : OpenClaim := { program := "ytbdmaepooahplaa", sum := "aeea7ad69be28058b935c269da64863d2a98f366241f6197cf65476953ad72d8", func := "azulejo/azulejolaw12.ClipKeeps", spec := "clipKeeps", unfollowed := true, recurses := true, apart := false }
def ClipKeepsSaid : Prop := clipKeepsRow.holds Try.pinned (OpenSpec.ofChange clipKeepsSpec)

/-- ITS FALSE NEIGHBOUR: 'it returns false'. Refute it at one input. -/
def clipKeepsWrong : ChangeSpec := { name := "clipKeeps", fn := fun _ => fun
  | [d] => { results := [.lit (.bool false)], args := [d] }
  | _ => none }
def ClipKeepsWrongFalsely : Prop := clipKeepsRow.holds Try.pinned (OpenSpec.ofChange clipKeepsWrong)

/-- 'azulejolaw12.ClipBounds': WHATEVER THE INPUT: true; the input reads as it did. -/
def clipBoundsSpec : ChangeSpec := { name := "clipBounds", fn := fun _ => fun
  | [d1, d2, d3] => { results := [.lit (.bool true)], args := [d1, d2, d3] }
  | _ => none }
def clipBoundsRow : OpenClaim := { program := "ytbdmaepooahplaa", sum := "aeea7ad69be28058b935c269da64863d2a98f366241f6197cf65476953ad72d8", func := "azulejo/azulejolaw12.ClipBounds", spec := "clipBounds", unfollowed := true, recurses := true, apart := false }
def ClipBoundsSaid : Prop := clipBoundsRow.holds Try.pinned (OpenSpec.ofChange clipBoundsSpec)

/-- ITS FALSE NEIGHBOUR: 'it returns false'. Refute it at one input. -/
def clipBoundsWrong : ChangeSpec := { name := "clipBounds", fn := fun _ => fun
  | [d1, d2, d3] => { results := [.lit (.bool false)], args := [d1, d2, d3] }
  | _ => none }
def ClipBoundsWrongFalsely : Prop := clipBoundsRow.holds Try.pinned (OpenSpec.ofChange clipBoundsWrong)

/-- 'azulejolaw19.PixelClears': WHATEVER THE INPUT: true; the input reads as it did. -/
def pixelClearsSpec : ChangeSpec := { name := "pixelClears", fn := fun _ => fun
  | [d1, d2, d3] => { results := [.lit (.bool true)], args := [d1, d2, d3] }
  | _ => none }
def pixelClearsRow : OpenClaim := { program := "ytbdmaepooahplaa", sum := "aeea7ad69be28058b935c269da64863d2a98f366241f6197cf65476953ad72d8", func := "azulejo/azulejolaw19.PixelClears", spec := "pixelClears", apart := false }
def PixelClearsSaid : Prop := pixelClearsRow.holds Try.pinned (OpenSpec.ofChange pixelClearsSpec)

/-- ITS FALSE NEIGHBOUR: 'it returns false'. Refute it at one input. -/
def pixelClearsWrong : ChangeSpec := { name := "pixelClears", fn := fun _ => fun
  | [d1, d2, d3] => { results := [.lit (.bool false)], args := [d1, d2, d3] }
  | _ => none }
def PixelClearsWrongFalsely : Prop := pixelClearsRow.holds Try.pinned (OpenSpec.ofChange pixelClearsWrong)

/-- 'azulejolaw13.SetupCulls': WHATEVER THE INPUT: true; the input reads as it did. -/
def setupCullsSpec : ChangeSpec := { name := "setupCulls", fn := fun _ => fun
  | [d1, d2, d3, d4] => { results := [.lit (.bool true)], args := [d1, d2, d3, d4] }
  | _ => none }
def setupCullsRow : OpenClaim := { program := "ytbdmaepooahplaa", sum := "aeea7ad69be28058b935c269da64863d2a98f366241f6197cf65476953ad72d8", func := "azulejo/azulejolaw13.SetupCulls", spec := "setupCulls", apart := false }
def SetupCullsSaid : Prop := setupCullsRow.holds Try.pinned (OpenSpec.ofChange setupCullsSpec)

/-- ITS FALSE NEIGHBOUR: 'it returns false'. Refute it at one input. -/
def setupCullsWrong : ChangeSpec := { name := "setupCulls", fn := fun _ => fun
  | [d1, d2, d3, d4] => { results := [.lit (.bool false)], args := [d1, d2, d3, d4] }
  | _ => none }
def SetupCullsWrongFalsely : Prop := setupCullsRow.holds Try.pinned (OpenSpec.ofChange setupCullsWrong)

/-- 'azulejolaw13.SetupMakes': WHATEVER THE INPUT: true; the input reads as it did. -/
def setupMakesSpec : ChangeSpec := { name := "setupMakes", fn := fun _ => fun
  | [d1, d2, d3, d4] => { results := [.lit (.bool true)], args := [d1, d2, d3, d4] }
  | _ => none }
def setupMakesRow : OpenClaim := { program := "ytbdmaepooahplaa", sum := "aeea7ad69be28058b935c269da64863d2a98f366241f6197cf65476953ad72d8", func := "azulejo/azulejolaw13.SetupMakes", spec := "setupMakes", unfollowed := true, recurses := true, apart := false }
def SetupMakesSaid : Prop := setupMakesRow.holds Try.pinned (OpenSpec.ofChange setupMakesSpec)

/-- ITS FALSE NEIGHBOUR: 'it returns false'. Refute it at one input. -/
def setupMakesWrong : ChangeSpec := { name := "setupMakes", fn := fun _ => fun
  | [d1, d2, d3, d4] => { results := [.lit (.bool false)], args := [d1, d2, d3, d4] }
  | _ => none }
def SetupMakesWrongFalsely : Prop := setupMakesRow.holds Try.pinned (OpenSpec.ofChange setupMakesWrong)

/- THE SECOND FORM. 'bulk': how many values and letters a reading holds, each counted each time it is reached (what is shared counts as often as it is met; a slice's spare places count too). A statement '..UptoSaid' is the law's where the arguments, and the package variables that the reading takes, are together of bulk at most 1048576: NARROWER than '..Said'. Prove '..Said' where nothing that the law and all that it calls make is longer than what came in: it says more and counts as full. Else prove '..UptoSaid'. A law counts once. -/
mutual
def uptoBulk {H : Type} : DataW H → Nat
  | .lit (.string bytes) => bytes.length + 1
  | .lit _ => 1
  | .nil => 1
  | .ptr d => uptoBulk d + 1
  | .slice elems spare => uptoBulkAll elems + uptoBulkAll spare + 1
  | .agg parts => uptoBulkAll parts + 1
  | .iface _ d => uptoBulk d + 1
  | .map entries => uptoBulkEntries entries + 1
  | .held _ => 1
def uptoBulkAll {H : Type} : List (DataW H) → Nat
  | [] => 0
  | d :: r => uptoBulk d + uptoBulkAll r
def uptoBulkEntries {H : Type} : List (Lit × DataW H) → Nat
  | [] => 0
  | x :: r => uptoBulkEntry x + uptoBulkEntries r
def uptoBulkEntry {H : Type} : Lit × DataW H → Nat
  | (.string bytes, d) => bytes.length + uptoBulk d + 1
  | (_, d) => uptoBulk d + 1
 end
def uptoSmall : (H : Type) → List (DataW H) → Bool := fun _ ds => decide (uptoBulkAll ds ≤ 1048576)
def OpenSpec.upto (s : _root_.Go.ChangeSpec) : _root_.Go.OpenSpec := { _root_.Go.OpenSpec.ofChange s with cond := some uptoSmall }

/-- 'azulejolaw13.SetupAt', WHERE WHAT IT READS IS OF BULK AT MOST 1048576: true; the input reads as it did. -/
def setupAtUptoRow : OpenClaim := { program := "ytbdmaepooahplaa", sum := "aeea7ad69be28058b935c269da64863d2a98f366241f6197cf65476953ad72d8", func := "azulejo/azulejolaw13.SetupAt", spec := "setupAt", apart := false, narrowed := true }
def SetupAtUptoSaid : Prop := setupAtUptoRow.holds Try.pinned (OpenSpec.upto setupAtSpec)

/-- 'azulejolaw13.SetupBetween', WHERE WHAT IT READS IS OF BULK AT MOST 1048576: true; the input reads as it did. -/
def setupBetweenUptoRow : OpenClaim := { program := "ytbdmaepooahplaa", sum := "aeea7ad69be28058b935c269da64863d2a98f366241f6197cf65476953ad72d8", func := "azulejo/azulejolaw13.SetupBetween", spec := "setupBetween", apart := false, narrowed := true }
def SetupBetweenUptoSaid : Prop := setupBetweenUptoRow.holds Try.pinned (OpenSpec.upto setupBetweenSpec)

/-- 'azulejolaw13.SetupFlat', WHERE WHAT IT READS IS OF BULK AT MOST 1048576: true; the input reads as it did. -/
def setupFlatUptoRow : OpenClaim := { program := "ytbdmaepooahplaa", sum := "aeea7ad69be28058b935c269da64863d2a98f366241f6197cf65476953ad72d8", func := "azulejo/azulejolaw13.SetupFlat", spec := "setupFlat", apart := false, narrowed := true }
def SetupFlatUptoSaid : Prop := setupFlatUptoRow.holds Try.pinned (OpenSpec.upto setupFlatSpec)

/-- 'azulejolaw19.PixelPuts', WHERE WHAT IT READS IS OF BULK AT MOST 1048576: true; the input reads as it did. -/
def pixelPutsUptoRow : OpenClaim := { program := "ytbdmaepooahplaa", sum := "aeea7ad69be28058b935c269da64863d2a98f366241f6197cf65476953ad72d8", func := "azulejo/azulejolaw19.PixelPuts", spec := "pixelPuts", apart := false, narrowed := true }
def PixelPutsUptoSaid : Prop := pixelPutsUptoRow.holds Try.pinned (OpenSpec.upto pixelPutsSpec)

/-- 'azulejolaw19.PixelBlends', WHERE WHAT IT READS IS OF BULK AT MOST 1048576: true; the input reads as it did. -/
def pixelBlendsUptoRow : OpenClaim := { program := "ytbdmaepooahplaa", sum := "aeea7ad69be28058b935c269da64863d2a98f366241f6197cf65476953ad72d8", func := "azulejo/azulejolaw19.PixelBlends", spec := "pixelBlends", apart := false, narrowed := true }
def PixelBlendsUptoSaid : Prop := pixelBlendsUptoRow.holds Try.pinned (OpenSpec.upto pixelBlendsSpec)

/-- 'azulejolaw19.PixelSees', WHERE WHAT IT READS IS OF BULK AT MOST 1048576: true; the input reads as it did. -/
def pixelSeesUptoRow : OpenClaim := { program := "ytbdmaepooahplaa", sum := "aeea7ad69be28058b935c269da64863d2a98f366241f6197cf65476953ad72d8", func := "azulejo/azulejolaw19.PixelSees", spec := "pixelSees", apart := false, narrowed := true }
def PixelSeesUptoSaid : Prop := pixelSeesUptoRow.holds Try.pinned (OpenSpec.upto pixelSeesSpec)

/-- 'azulejolaw19.PixelLate', WHERE WHAT IT READS IS OF BULK AT MOST 1048576: true; the input reads as it did. -/
def pixelLateUptoRow : OpenClaim := { program := "ytbdmaepooahplaa", sum := "aeea7ad69be28058b935c269da64863d2a98f366241f6197cf65476953ad72d8", func := "azulejo/azulejolaw19.PixelLate", spec := "pixelLate", apart := false, narrowed := true }
def PixelLateUptoSaid : Prop := pixelLateUptoRow.holds Try.pinned (OpenSpec.upto pixelLateSpec)

/-- 'azulejolaw19.PixelTwice', WHERE WHAT IT READS IS OF BULK AT MOST 1048576: true; the input reads as it did. -/
def pixelTwiceUptoRow : OpenClaim := { program := "ytbdmaepooahplaa", sum := "aeea7ad69be28058b935c269da64863d2a98f366241f6197cf65476953ad72d8", func := "azulejo/azulejolaw19.PixelTwice", spec := "pixelTwice", apart := false, narrowed := true }
def PixelTwiceUptoSaid : Prop := pixelTwiceUptoRow.holds Try.pinned (OpenSpec.upto pixelTwiceSpec)

/-- 'azulejolaw19.PixelMasks', WHERE WHAT IT READS IS OF BULK AT MOST 1048576: true; the input reads as it did. -/
def pixelMasksUptoRow : OpenClaim := { program := "ytbdmaepooahplaa", sum := "aeea7ad69be28058b935c269da64863d2a98f366241f6197cf65476953ad72d8", func := "azulejo/azulejolaw19.PixelMasks", spec := "pixelMasks", apart := false, narrowed := true }
def PixelMasksUptoSaid : Prop := pixelMasksUptoRow.holds Try.pinned (OpenSpec.upto pixelMasksSpec)

/-- 'azulejolaw16.BinCovers', WHERE WHAT IT READS IS OF BULK AT MOST 1048576: true; the input reads as it did. -/
def binCoversUptoRow : OpenClaim := { program := "ytbdmaepooahplaa", sum := "aeea7ad69be28058b935c269da64863d2a98f366241f6197cf65476953ad72d8", func := "azulejo/azulejolaw16.BinCovers", spec := "binCovers", apart := false, narrowed := true }
def BinCoversUptoSaid : Prop := binCoversUptoRow.holds Try.pinned (OpenSpec.upto binCoversSpec)

/-- 'azulejolaw12.ClipCuts', WHERE WHAT IT READS IS OF BULK AT MOST 1048576: true; the input reads as it did. -/
def clipCutsUptoRow : OpenClaim := { program := "ytbdmaepooahplaa", sum := "aeea7ad69be28058b935c269da64863d2a98f366241f6197cf65476953ad72d8", func := "azulejo/azulejolaw12.ClipCuts", spec := "clipCuts", unfollowed := true, recurses := true, apart := false, narrowed := true }
def ClipCutsUptoSaid : Prop := clipCutsUptoRow.holds Try.pinned (OpenSpec.upto clipCutsSpec)

/-- 'azulejolaw12.ClipInside', WHERE WHAT IT READS IS OF BULK AT MOST 1048576: true; the input reads as it did. -/
def clipInsideUptoRow : OpenClaim := { program := "ytbdmaepooahplaa", sum := "aeea7ad69be28058b935c269da64863d2a98f366241f6197cf65476953ad72d8", func := "azulejo/azulejolaw12.ClipInside", spec := "clipInside", unfollowed := true, recurses := true, apart := false, narrowed := true }
def ClipInsideUptoSaid : Prop := clipInsideUptoRow.holds Try.pinned (OpenSpec.upto clipInsideSpec)

/-- 'azulejolaw12.ClipCrosses', WHERE WHAT IT READS IS OF BULK AT MOST 1048576: true; the input reads as it did. -/
def clipCrossesUptoRow : OpenClaim := { program := "ytbdmaepooahplaa", sum := "aeea7ad69be28058b935c269da64863d2a98f366241f6197cf65476953ad72d8", func := "azulejo/azulejolaw12.ClipCrosses", spec := "clipCrosses", unfollowed := true, recurses := true, apart := false, narrowed := true }
def ClipCrossesUptoSaid : Prop := clipCrossesUptoRow.holds Try.pinned (OpenSpec.upto clipCrossesSpec)

/-- 'azulejolaw12.ClipKeeps', WHERE WHAT IT READS IS OF BULK AT MOST 1048576: true; the input reads as it did. -/
def clipKeepsUptoRow : OpenClaim := { program := "ytbdmaepooahplaa", sum := "aeea7ad69be28058b935c269da64863d2a98f366241f6197cf65476953ad72d8", func := "azulejo/azulejolaw12.ClipKeeps", spec := "clipKeeps", unfollowed := true, recurses := true, apart := false, narrowed := true }
def ClipKeepsUptoSaid : Prop := clipKeepsUptoRow.holds Try.pinned (OpenSpec.upto clipKeepsSpec)

/-- 'azulejolaw12.ClipBounds', WHERE WHAT IT READS IS OF BULK AT MOST 1048576: true; the input reads as it did. -/
def clipBoundsUptoRow : OpenClaim := { program := "ytbdmaepooahplaa", sum := "aeea7ad69be28058b935c269da64863d2a98f366241f6197cf65476953ad72d8", func := "azulejo/azulejolaw12.ClipBounds", spec := "clipBounds", unfollowed := true, recurses := true, apart := false, narrowed := true }
def ClipBoundsUptoSaid : Prop := clipBoundsUptoRow.holds Try.pinned (OpenSpec.upto clipBoundsSpec)

/-- 'azulejolaw19.PixelClears', WHERE WHAT IT READS IS OF BULK AT MOST 1048576: true; the input reads as it did. -/
def pixelClearsUptoRow : OpenClaim := { program := "ytbdmaepooahplaa", sum := "aeea7ad69be28058b935c269da64863d2a98f366241f6197cf65476953ad72d8", func := "azulejo/azulejolaw19.PixelClears", spec := "pixelClears", apart := false, narrowed := true }
def PixelClearsUptoSaid : Prop := pixelClearsUptoRow.holds Try.pinned (OpenSpec.upto pixelClearsSpec)

/-- 'azulejolaw13.SetupCulls', WHERE WHAT IT READS IS OF BULK AT MOST 1048576: true; the input reads as it did. -/
def setupCullsUptoRow : OpenClaim := { program := "ytbdmaepooahplaa", sum := "aeea7ad69be28058b935c269da64863d2a98f366241f6197cf65476953ad72d8", func := "azulejo/azulejolaw13.SetupCulls", spec := "setupCulls", apart := false, narrowed := true }
def SetupCullsUptoSaid : Prop := setupCullsUptoRow.holds Try.pinned (OpenSpec.upto setupCullsSpec)

/-- 'azulejolaw13.SetupMakes', WHERE WHAT IT READS IS OF BULK AT MOST 1048576: true; the input reads as it did. -/
def setupMakesUptoRow : OpenClaim := { program := "ytbdmaepooahplaa", sum := "aeea7ad69be28058b935c269da64863d2a98f366241f6197cf65476953ad72d8", func := "azulejo/azulejolaw13.SetupMakes", spec := "setupMakes", unfollowed := true, recurses := true, apart := false, narrowed := true }
def SetupMakesUptoSaid : Prop := setupMakesUptoRow.holds Try.pinned (OpenSpec.upto setupMakesSpec)

end Rows
end Go.Proofs.Ytbdmaepooahplaa
