/-
  No cell of these rows narrows 'for every input' (looked for: loops, veiled, ifaces, maps, wideKeys, modest, calm, conditions, laid).
  DERIVED. THE GIVEN ROWS OF THIS SEAT. 20 by the template 'for every input the law returns true; each argument reads behind the call as it read before'; 0 by the template 'total and deterministic' (their statements: YthgjacfikicgnaaTotals.lean).
  GIVEN WITH THE SEED: the statements are not yours to turn. If you find one false, say at which input.
  Laid BY PROGRAM, IN A SANDBOX (cutbox-rows.mjs): the forced cells as the released guide's own fill.sh prints them over the translation e5f7411426d269cb… (all of the seat's roots in one cut). By AI agents, Wed Nov 11 2026. No macro, syntax, notation, axiom, sorry.
-/
import Derived.Test.YthgjacfikicgnaaChecked
import GoSem.Claim
import GoSem.ClaimJoined
import GoSem.ClaimMapViews
import Derived.JoinedTies
import Derived.KernelRfl
namespace Go.Proofs.Ythgjacfikicgnaa
/- THE CELL 'sum', in the pinned program and in every row, IS THE sha256 OF THE DUMP (.gsa) THAT YthgjacfikicgnaaProg.lean LOADS. Nothing in Lean hashes anything: it is a label: what it is worth is what the hold of that sum in a sandbox is worth. -/
noncomputable def Try.pinned : Pinned := { name := "ythgjacfikicgnaa", sum := "e5f7411426d269cba063f378d41a17a0bd0378d5c612ab1841180cd540268fbf", checked := Try.checked }
namespace Rows
def none {H : Type} : Left H := { results := [], args := [] }

/-- 'azulejolaw01.FixWithin': WHATEVER THE INPUT: true; the input reads as it did. -/
def fixWithinSpec : ChangeSpec := { name := "fixWithin", fn := fun _ => fun
  | [d1, d2] => { results := [.lit (.bool true)], args := [d1, d2] }
  | _ => none }
def fixWithinRow : OpenClaim := { program := "ythgjacfikicgnaa", sum := "e5f7411426d269cba063f378d41a17a0bd0378d5c612ab1841180cd540268fbf", func := "azulejo/azulejolaw01.FixWithin", spec := "fixWithin", apart := false }
def FixWithinSaid : Prop := fixWithinRow.holds Try.pinned (OpenSpec.ofChange fixWithinSpec)

/-- ITS FALSE NEIGHBOUR: 'it returns false'. Refute it at one input. -/
def fixWithinWrong : ChangeSpec := { name := "fixWithin", fn := fun _ => fun
  | [d1, d2] => { results := [.lit (.bool false)], args := [d1, d2] }
  | _ => none }
def FixWithinWrongFalsely : Prop := fixWithinRow.holds Try.pinned (OpenSpec.ofChange fixWithinWrong)

/-- 'azulejolaw01.FixQuotients': WHATEVER THE INPUT: true; the input reads as it did. -/
def fixQuotientsSpec : ChangeSpec := { name := "fixQuotients", fn := fun _ => fun
  | [d1, d2, d3, d4] => { results := [.lit (.bool true)], args := [d1, d2, d3, d4] }
  | _ => none }
def fixQuotientsRow : OpenClaim := { program := "ythgjacfikicgnaa", sum := "e5f7411426d269cba063f378d41a17a0bd0378d5c612ab1841180cd540268fbf", func := "azulejo/azulejolaw01.FixQuotients", spec := "fixQuotients", recurses := true, apart := false }
def FixQuotientsSaid : Prop := fixQuotientsRow.holds Try.pinned (OpenSpec.ofChange fixQuotientsSpec)

/-- ITS FALSE NEIGHBOUR: 'it returns false'. Refute it at one input. -/
def fixQuotientsWrong : ChangeSpec := { name := "fixQuotients", fn := fun _ => fun
  | [d1, d2, d3, d4] => { results := [.lit (.bool false)], args := [d1, d2, d3, d4] }
  | _ => none }
def FixQuotientsWrongFalsely : Prop := fixQuotientsRow.holds Try.pinned (OpenSpec.ofChange fixQuotientsWrong)

/-- 'azulejolaw01.FixSums': WHATEVER THE INPUT: true; the input reads as it did. -/
def fixSumsSpec : ChangeSpec := { name := "fixSums", fn := fun _ => fun
  | [d1, d2, d3, d4] => { results := [.lit (.bool true)], args := [d1, d2, d3, d4] }
  | _ => none }
def fixSumsRow : OpenClaim := { program := "ythgjacfikicgnaa", sum := "e5f7411426d269cba063f378d41a17a0bd0378d5c612ab1841180cd540268fbf", func := "azulejo/azulejolaw01.FixSums", spec := "fixSums", recurses := true, apart := false }
def FixSumsSaid : Prop := fixSumsRow.holds Try.pinned (OpenSpec.ofChange fixSumsSpec)

/-- ITS FALSE NEIGHBOUR: 'it returns false'. Refute it at one input. -/
def fixSumsWrong : ChangeSpec := { name := "fixSums", fn := fun _ => fun
  | [d1, d2, d3, d4] => { results := [.lit (.bool false)], args := [d1, d2, d3, d4] }
  | _ => none }
def FixSumsWrongFalsely : Prop := fixSumsRow.holds Try.pinned (OpenSpec.ofChange fixSumsWrong)

/-- 'azulejolaw01.FixHalves': WHATEVER THE INPUT: true; the input reads as it did. -/
def fixHalvesSpec : ChangeSpec := { name := "fixHalves", fn := fun _ => fun
  | [d1, d2, d3] => { results := [.lit (.bool true)], args := [d1, d2, d3] }
  | _ => none }
def fixHalvesRow : OpenClaim := { program := "ythgjacfikicgnaa", sum := "e5f7411426d269cba063f378d41a17a0bd0378d5c612ab1841180cd540268fbf", func := "azulejo/azulejolaw01.FixHalves", spec := "fixHalves", apart := false }
def FixHalvesSaid : Prop := fixHalvesRow.holds Try.pinned (OpenSpec.ofChange fixHalvesSpec)

/-- ITS FALSE NEIGHBOUR: 'it returns false'. Refute it at one input. -/
def fixHalvesWrong : ChangeSpec := { name := "fixHalves", fn := fun _ => fun
  | [d1, d2, d3] => { results := [.lit (.bool false)], args := [d1, d2, d3] }
  | _ => none }
def FixHalvesWrongFalsely : Prop := fixHalvesRow.holds Try.pinned (OpenSpec.ofChange fixHalvesWrong)

/-- 'azulejolaw01.FixOrder': WHATEVER THE INPUT: true; the input reads as it did. -/
def fixOrderSpec : ChangeSpec := { name := "fixOrder", fn := fun _ => fun
  | [d1, d2, d3] => { results := [.lit (.bool true)], args := [d1, d2, d3] }
  | _ => none }
def fixOrderRow : OpenClaim := { program := "ythgjacfikicgnaa", sum := "e5f7411426d269cba063f378d41a17a0bd0378d5c612ab1841180cd540268fbf", func := "azulejo/azulejolaw01.FixOrder", spec := "fixOrder", apart := false }
def FixOrderSaid : Prop := fixOrderRow.holds Try.pinned (OpenSpec.ofChange fixOrderSpec)

/-- ITS FALSE NEIGHBOUR: 'it returns false'. Refute it at one input. -/
def fixOrderWrong : ChangeSpec := { name := "fixOrder", fn := fun _ => fun
  | [d1, d2, d3] => { results := [.lit (.bool false)], args := [d1, d2, d3] }
  | _ => none }
def FixOrderWrongFalsely : Prop := fixOrderRow.holds Try.pinned (OpenSpec.ofChange fixOrderWrong)

/-- 'azulejolaw03.EdgeShared': WHATEVER THE INPUT: true; the input reads as it did. -/
def edgeSharedSpec : ChangeSpec := { name := "edgeShared", fn := fun _ => fun
  | [d1, d2, d3, d4, d5, d6] => { results := [.lit (.bool true)], args := [d1, d2, d3, d4, d5, d6] }
  | _ => none }
def edgeSharedRow : OpenClaim := { program := "ythgjacfikicgnaa", sum := "e5f7411426d269cba063f378d41a17a0bd0378d5c612ab1841180cd540268fbf", func := "azulejo/azulejolaw03.EdgeShared", spec := "edgeShared", unfollowed := true, recurses := true, apart := false }
def EdgeSharedSaid : Prop := edgeSharedRow.holds Try.pinned (OpenSpec.ofChange edgeSharedSpec)

/-- ITS FALSE NEIGHBOUR: 'it returns false'. Refute it at one input. -/
def edgeSharedWrong : ChangeSpec := { name := "edgeShared", fn := fun _ => fun
  | [d1, d2, d3, d4, d5, d6] => { results := [.lit (.bool false)], args := [d1, d2, d3, d4, d5, d6] }
  | _ => none }
def EdgeSharedWrongFalsely : Prop := edgeSharedRow.holds Try.pinned (OpenSpec.ofChange edgeSharedWrong)

/-- 'azulejolaw03.EdgeFans': WHATEVER THE INPUT: true; the input reads as it did. -/
def edgeFansSpec : ChangeSpec := { name := "edgeFans", fn := fun _ => fun
  | [d1, d2, d3, d4, d5] => { results := [.lit (.bool true)], args := [d1, d2, d3, d4, d5] }
  | _ => none }
def edgeFansRow : OpenClaim := { program := "ythgjacfikicgnaa", sum := "e5f7411426d269cba063f378d41a17a0bd0378d5c612ab1841180cd540268fbf", func := "azulejo/azulejolaw03.EdgeFans", spec := "edgeFans", apart := false }
def EdgeFansSaid : Prop := edgeFansRow.holds Try.pinned (OpenSpec.ofChange edgeFansSpec)

/-- ITS FALSE NEIGHBOUR: 'it returns false'. Refute it at one input. -/
def edgeFansWrong : ChangeSpec := { name := "edgeFans", fn := fun _ => fun
  | [d1, d2, d3, d4, d5] => { results := [.lit (.bool false)], args := [d1, d2, d3, d4, d5] }
  | _ => none }
def EdgeFansWrongFalsely : Prop := edgeFansRow.holds Try.pinned (OpenSpec.ofChange edgeFansWrong)

/-- 'azulejolaw03.EdgeMoves': WHATEVER THE INPUT: true; the input reads as it did. -/
def edgeMovesSpec : ChangeSpec := { name := "edgeMoves", fn := fun _ => fun
  | [d1, d2, d3, d4, d5] => { results := [.lit (.bool true)], args := [d1, d2, d3, d4, d5] }
  | _ => none }
def edgeMovesRow : OpenClaim := { program := "ythgjacfikicgnaa", sum := "e5f7411426d269cba063f378d41a17a0bd0378d5c612ab1841180cd540268fbf", func := "azulejo/azulejolaw03.EdgeMoves", spec := "edgeMoves", apart := false }
def EdgeMovesSaid : Prop := edgeMovesRow.holds Try.pinned (OpenSpec.ofChange edgeMovesSpec)

/-- ITS FALSE NEIGHBOUR: 'it returns false'. Refute it at one input. -/
def edgeMovesWrong : ChangeSpec := { name := "edgeMoves", fn := fun _ => fun
  | [d1, d2, d3, d4, d5] => { results := [.lit (.bool false)], args := [d1, d2, d3, d4, d5] }
  | _ => none }
def EdgeMovesWrongFalsely : Prop := edgeMovesRow.holds Try.pinned (OpenSpec.ofChange edgeMovesWrong)

/-- 'azulejolaw03.EdgeTurns': WHATEVER THE INPUT: true; the input reads as it did. -/
def edgeTurnsSpec : ChangeSpec := { name := "edgeTurns", fn := fun _ => fun
  | [d1, d2, d3] => { results := [.lit (.bool true)], args := [d1, d2, d3] }
  | _ => none }
def edgeTurnsRow : OpenClaim := { program := "ythgjacfikicgnaa", sum := "e5f7411426d269cba063f378d41a17a0bd0378d5c612ab1841180cd540268fbf", func := "azulejo/azulejolaw03.EdgeTurns", spec := "edgeTurns", apart := false }
def EdgeTurnsSaid : Prop := edgeTurnsRow.holds Try.pinned (OpenSpec.ofChange edgeTurnsSpec)

/-- ITS FALSE NEIGHBOUR: 'it returns false'. Refute it at one input. -/
def edgeTurnsWrong : ChangeSpec := { name := "edgeTurns", fn := fun _ => fun
  | [d1, d2, d3] => { results := [.lit (.bool false)], args := [d1, d2, d3] }
  | _ => none }
def EdgeTurnsWrongFalsely : Prop := edgeTurnsRow.holds Try.pinned (OpenSpec.ofChange edgeTurnsWrong)

/-- 'azulejolaw03.EdgeBoxes': WHATEVER THE INPUT: true; the input reads as it did. -/
def edgeBoxesSpec : ChangeSpec := { name := "edgeBoxes", fn := fun _ => fun
  | [d1, d2, d3] => { results := [.lit (.bool true)], args := [d1, d2, d3] }
  | _ => none }
def edgeBoxesRow : OpenClaim := { program := "ythgjacfikicgnaa", sum := "e5f7411426d269cba063f378d41a17a0bd0378d5c612ab1841180cd540268fbf", func := "azulejo/azulejolaw03.EdgeBoxes", spec := "edgeBoxes", apart := false }
def EdgeBoxesSaid : Prop := edgeBoxesRow.holds Try.pinned (OpenSpec.ofChange edgeBoxesSpec)

/-- ITS FALSE NEIGHBOUR: 'it returns false'. Refute it at one input. -/
def edgeBoxesWrong : ChangeSpec := { name := "edgeBoxes", fn := fun _ => fun
  | [d1, d2, d3] => { results := [.lit (.bool false)], args := [d1, d2, d3] }
  | _ => none }
def EdgeBoxesWrongFalsely : Prop := edgeBoxesRow.holds Try.pinned (OpenSpec.ofChange edgeBoxesWrong)

/-- 'azulejolaw03.EdgeSides': WHATEVER THE INPUT: true; the input reads as it did. -/
def edgeSidesSpec : ChangeSpec := { name := "edgeSides", fn := fun _ => fun
  | [d1, d2, d3, d4, d5] => { results := [.lit (.bool true)], args := [d1, d2, d3, d4, d5] }
  | _ => none }
def edgeSidesRow : OpenClaim := { program := "ythgjacfikicgnaa", sum := "e5f7411426d269cba063f378d41a17a0bd0378d5c612ab1841180cd540268fbf", func := "azulejo/azulejolaw03.EdgeSides", spec := "edgeSides", unfollowed := true, recurses := true, apart := false }
def EdgeSidesSaid : Prop := edgeSidesRow.holds Try.pinned (OpenSpec.ofChange edgeSidesSpec)

/-- ITS FALSE NEIGHBOUR: 'it returns false'. Refute it at one input. -/
def edgeSidesWrong : ChangeSpec := { name := "edgeSides", fn := fun _ => fun
  | [d1, d2, d3, d4, d5] => { results := [.lit (.bool false)], args := [d1, d2, d3, d4, d5] }
  | _ => none }
def EdgeSidesWrongFalsely : Prop := edgeSidesRow.holds Try.pinned (OpenSpec.ofChange edgeSidesWrong)

/-- 'azulejolaw16.BinBoxes': WHATEVER THE INPUT: true; the input reads as it did. -/
def binBoxesSpec : ChangeSpec := { name := "binBoxes", fn := fun _ => fun
  | [d1, d2, d3, d4, d5, d6, d7] => { results := [.lit (.bool true)], args := [d1, d2, d3, d4, d5, d6, d7] }
  | _ => none }
def binBoxesRow : OpenClaim := { program := "ythgjacfikicgnaa", sum := "e5f7411426d269cba063f378d41a17a0bd0378d5c612ab1841180cd540268fbf", func := "azulejo/azulejolaw16.BinBoxes", spec := "binBoxes", apart := false }
def BinBoxesSaid : Prop := binBoxesRow.holds Try.pinned (OpenSpec.ofChange binBoxesSpec)

/-- ITS FALSE NEIGHBOUR: 'it returns false'. Refute it at one input. -/
def binBoxesWrong : ChangeSpec := { name := "binBoxes", fn := fun _ => fun
  | [d1, d2, d3, d4, d5, d6, d7] => { results := [.lit (.bool false)], args := [d1, d2, d3, d4, d5, d6, d7] }
  | _ => none }
def BinBoxesWrongFalsely : Prop := binBoxesRow.holds Try.pinned (OpenSpec.ofChange binBoxesWrong)

/-- 'azulejolaw16.BinIn': WHATEVER THE INPUT: true; the input reads as it did. -/
def binInSpec : ChangeSpec := { name := "binIn", fn := fun _ => fun
  | [d1, d2, d3] => { results := [.lit (.bool true)], args := [d1, d2, d3] }
  | _ => none }
def binInRow : OpenClaim := { program := "ythgjacfikicgnaa", sum := "e5f7411426d269cba063f378d41a17a0bd0378d5c612ab1841180cd540268fbf", func := "azulejo/azulejolaw16.BinIn", spec := "binIn", apart := false }
def BinInSaid : Prop := binInRow.holds Try.pinned (OpenSpec.ofChange binInSpec)

/-- ITS FALSE NEIGHBOUR: 'it returns false'. Refute it at one input. -/
def binInWrong : ChangeSpec := { name := "binIn", fn := fun _ => fun
  | [d1, d2, d3] => { results := [.lit (.bool false)], args := [d1, d2, d3] }
  | _ => none }
def BinInWrongFalsely : Prop := binInRow.holds Try.pinned (OpenSpec.ofChange binInWrong)

/-- 'azulejolaw16.BinOwn': WHATEVER THE INPUT: true; the input reads as it did. -/
def binOwnSpec : ChangeSpec := { name := "binOwn", fn := fun _ => fun
  | [d1, d2, d3] => { results := [.lit (.bool true)], args := [d1, d2, d3] }
  | _ => none }
def binOwnRow : OpenClaim := { program := "ythgjacfikicgnaa", sum := "e5f7411426d269cba063f378d41a17a0bd0378d5c612ab1841180cd540268fbf", func := "azulejo/azulejolaw16.BinOwn", spec := "binOwn", apart := false }
def BinOwnSaid : Prop := binOwnRow.holds Try.pinned (OpenSpec.ofChange binOwnSpec)

/-- ITS FALSE NEIGHBOUR: 'it returns false'. Refute it at one input. -/
def binOwnWrong : ChangeSpec := { name := "binOwn", fn := fun _ => fun
  | [d1, d2, d3] => { results := [.lit (.bool false)], args := [d1, d2, d3] }
  | _ => none }
def BinOwnWrongFalsely : Prop := binOwnRow.holds Try.pinned (OpenSpec.ofChange binOwnWrong)

/-- 'azulejolaw09.StateTests': WHATEVER THE INPUT: true; the input reads as it did. -/
def stateTestsSpec : ChangeSpec := { name := "stateTests", fn := fun _ => fun
  | [d1, d2, d3, d4, d5, d6, d7] => { results := [.lit (.bool true)], args := [d1, d2, d3, d4, d5, d6, d7] }
  | _ => none }
def stateTestsRow : OpenClaim := { program := "ythgjacfikicgnaa", sum := "e5f7411426d269cba063f378d41a17a0bd0378d5c612ab1841180cd540268fbf", func := "azulejo/azulejolaw09.StateTests", spec := "stateTests", apart := false }
def StateTestsSaid : Prop := stateTestsRow.holds Try.pinned (OpenSpec.ofChange stateTestsSpec)

/-- ITS FALSE NEIGHBOUR: 'it returns false'. Refute it at one input. -/
def stateTestsWrong : ChangeSpec := { name := "stateTests", fn := fun _ => fun
  | [d1, d2, d3, d4, d5, d6, d7] => { results := [.lit (.bool false)], args := [d1, d2, d3, d4, d5, d6, d7] }
  | _ => none }
def StateTestsWrongFalsely : Prop := stateTestsRow.holds Try.pinned (OpenSpec.ofChange stateTestsWrong)

/-- 'azulejolaw09.StateOpposites': WHATEVER THE INPUT: true; the input reads as it did. -/
def stateOppositesSpec : ChangeSpec := { name := "stateOpposites", fn := fun _ => fun
  | [d1, d2, d3, d4, d5] => { results := [.lit (.bool true)], args := [d1, d2, d3, d4, d5] }
  | _ => none }
def stateOppositesRow : OpenClaim := { program := "ythgjacfikicgnaa", sum := "e5f7411426d269cba063f378d41a17a0bd0378d5c612ab1841180cd540268fbf", func := "azulejo/azulejolaw09.StateOpposites", spec := "stateOpposites", apart := false }
def StateOppositesSaid : Prop := stateOppositesRow.holds Try.pinned (OpenSpec.ofChange stateOppositesSpec)

/-- ITS FALSE NEIGHBOUR: 'it returns false'. Refute it at one input. -/
def stateOppositesWrong : ChangeSpec := { name := "stateOpposites", fn := fun _ => fun
  | [d1, d2, d3, d4, d5] => { results := [.lit (.bool false)], args := [d1, d2, d3, d4, d5] }
  | _ => none }
def StateOppositesWrongFalsely : Prop := stateOppositesRow.holds Try.pinned (OpenSpec.ofChange stateOppositesWrong)

/-- 'azulejolaw02.VecTimes': WHATEVER THE INPUT: true; the input reads as it did. -/
def vecTimesSpec : ChangeSpec := { name := "vecTimes", fn := fun _ => fun
  | [d1, d2, d3] => { results := [.lit (.bool true)], args := [d1, d2, d3] }
  | _ => none }
def vecTimesRow : OpenClaim := { program := "ythgjacfikicgnaa", sum := "e5f7411426d269cba063f378d41a17a0bd0378d5c612ab1841180cd540268fbf", func := "azulejo/azulejolaw02.VecTimes", spec := "vecTimes", unfollowed := true, recurses := true, apart := false }
def VecTimesSaid : Prop := vecTimesRow.holds Try.pinned (OpenSpec.ofChange vecTimesSpec)

/-- ITS FALSE NEIGHBOUR: 'it returns false'. Refute it at one input. -/
def vecTimesWrong : ChangeSpec := { name := "vecTimes", fn := fun _ => fun
  | [d1, d2, d3] => { results := [.lit (.bool false)], args := [d1, d2, d3] }
  | _ => none }
def VecTimesWrongFalsely : Prop := vecTimesRow.holds Try.pinned (OpenSpec.ofChange vecTimesWrong)

/-- 'azulejolaw02.VecUnits': WHATEVER THE INPUT: true; the input reads as it did. -/
def vecUnitsSpec : ChangeSpec := { name := "vecUnits", fn := fun _ => fun
  | [d1, d2] => { results := [.lit (.bool true)], args := [d1, d2] }
  | _ => none }
def vecUnitsRow : OpenClaim := { program := "ythgjacfikicgnaa", sum := "e5f7411426d269cba063f378d41a17a0bd0378d5c612ab1841180cd540268fbf", func := "azulejo/azulejolaw02.VecUnits", spec := "vecUnits", unfollowed := true, recurses := true, apart := false }
def VecUnitsSaid : Prop := vecUnitsRow.holds Try.pinned (OpenSpec.ofChange vecUnitsSpec)

/-- ITS FALSE NEIGHBOUR: 'it returns false'. Refute it at one input. -/
def vecUnitsWrong : ChangeSpec := { name := "vecUnits", fn := fun _ => fun
  | [d1, d2] => { results := [.lit (.bool false)], args := [d1, d2] }
  | _ => none }
def VecUnitsWrongFalsely : Prop := vecUnitsRow.holds Try.pinned (OpenSpec.ofChange vecUnitsWrong)

/-- 'azulejolaw02.VecOrders': WHATEVER THE INPUT: true; the input reads as it did. -/
def vecOrdersSpec : ChangeSpec := { name := "vecOrders", fn := fun _ => fun
  | [d1, d2, d3] => { results := [.lit (.bool true)], args := [d1, d2, d3] }
  | _ => none }
def vecOrdersRow : OpenClaim := { program := "ythgjacfikicgnaa", sum := "e5f7411426d269cba063f378d41a17a0bd0378d5c612ab1841180cd540268fbf", func := "azulejo/azulejolaw02.VecOrders", spec := "vecOrders", unfollowed := true, recurses := true, apart := false }
def VecOrdersSaid : Prop := vecOrdersRow.holds Try.pinned (OpenSpec.ofChange vecOrdersSpec)

/-- ITS FALSE NEIGHBOUR: 'it returns false'. Refute it at one input. -/
def vecOrdersWrong : ChangeSpec := { name := "vecOrders", fn := fun _ => fun
  | [d1, d2, d3] => { results := [.lit (.bool false)], args := [d1, d2, d3] }
  | _ => none }
def VecOrdersWrongFalsely : Prop := vecOrdersRow.holds Try.pinned (OpenSpec.ofChange vecOrdersWrong)

/-- 'azulejolaw02.VecPairs': WHATEVER THE INPUT: true; the input reads as it did. -/
def vecPairsSpec : ChangeSpec := { name := "vecPairs", fn := fun _ => fun
  | [d1, d2, d3, d4] => { results := [.lit (.bool true)], args := [d1, d2, d3, d4] }
  | _ => none }
def vecPairsRow : OpenClaim := { program := "ythgjacfikicgnaa", sum := "e5f7411426d269cba063f378d41a17a0bd0378d5c612ab1841180cd540268fbf", func := "azulejo/azulejolaw02.VecPairs", spec := "vecPairs", unfollowed := true, recurses := true, apart := false }
def VecPairsSaid : Prop := vecPairsRow.holds Try.pinned (OpenSpec.ofChange vecPairsSpec)

/-- ITS FALSE NEIGHBOUR: 'it returns false'. Refute it at one input. -/
def vecPairsWrong : ChangeSpec := { name := "vecPairs", fn := fun _ => fun
  | [d1, d2, d3, d4] => { results := [.lit (.bool false)], args := [d1, d2, d3, d4] }
  | _ => none }
def VecPairsWrongFalsely : Prop := vecPairsRow.holds Try.pinned (OpenSpec.ofChange vecPairsWrong)

/- THE SECOND FORM. 'bulk': how many values and letters a reading holds, each counted each time it is reached (what is shared counts as often as it is met; a slice's spare places count too). A statement '..UptoSaid' is the law's where the arguments, and the package variables that the reading takes, are together of bulk at most 1048576: NARROWER than '..Said'. Prove '..Said' where nothing that the law and all that it calls make is longer than what came in: it says more and counts as full. Else prove '..UptoSaid'. A law counts once. -/
mutual
def uptoBulk {H : Type} : DataW H → Nat
  | .lit (.string bytes) => bytes.length + 1
  | .lit _ => 1
  | .nil => 1
  | .ptr d => uptoBulk d + 1
  | .slice elems spare => uptoBulkAll elems + uptoBulkAll spare + 1
  | .agg parts => uptoBulkAll parts + 1
  | .iface _ d => uptoBulk d + 1
  | .map entries => uptoBulkEntries entries + 1
  | .held _ => 1
def uptoBulkAll {H : Type} : List (DataW H) → Nat
  | [] => 0
  | d :: r => uptoBulk d + uptoBulkAll r
def uptoBulkEntries {H : Type} : List (Lit × DataW H) → Nat
  | [] => 0
  | x :: r => uptoBulkEntry x + uptoBulkEntries r
def uptoBulkEntry {H : Type} : Lit × DataW H → Nat
  | (.string bytes, d) => bytes.length + uptoBulk d + 1
  | (_, d) => uptoBulk d + 1
 end
def uptoSmall : (H : Type) → List (DataW H) → Bool := fun _ ds => decide (uptoBulkAll ds ≤ 1048576)
def OpenSpec.upto (s : _root_.Go.ChangeSpec) : _root_.Go.OpenSpec := { _root_.Go.OpenSpec.ofChange s with cond := some uptoSmall }

/-- 'azulejolaw01.FixWithin', WHERE WHAT IT READS IS OF BULK AT MOST 1048576: true; the input reads as it did. -/
def fixWithinUptoRow : OpenClaim := { program := "ythgjacfikicgnaa", sum := "e5f7411426d269cba063f378d41a17a0bd0378d5c612ab1841180cd540268fbf", func := "azulejo/azulejolaw01.FixWithin", spec := "fixWithin", apart := false, narrowed := true }
def FixWithinUptoSaid : Prop := fixWithinUptoRow.holds Try.pinned (OpenSpec.upto fixWithinSpec)

/-- 'azulejolaw01.FixQuotients', WHERE WHAT IT READS IS OF BULK AT MOST 1048576: true; the input reads as it did. -/
def fixQuotientsUptoRow : OpenClaim := { program := "ythgjacfikicgnaa", sum := "e5f7411426d269cba063f378d41a17a0bd0378d5c612ab1841180cd540268fbf", func := "azulejo/azulejolaw01.FixQuotients", spec := "fixQuotients", recurses := true, apart := false, narrowed := true }
def FixQuotientsUptoSaid : Prop := fixQuotientsUptoRow.holds Try.pinned (OpenSpec.upto fixQuotientsSpec)

/-- 'azulejolaw01.FixSums', WHERE WHAT IT READS IS OF BULK AT MOST 1048576: true; the input reads as it did. -/
def fixSumsUptoRow : OpenClaim := { program := "ythgjacfikicgnaa", sum := "e5f7411426d269cba063f378d41a17a0bd0378d5c612ab1841180cd540268fbf", func := "azulejo/azulejolaw01.FixSums", spec := "fixSums", recurses := true, apart := false, narrowed := true }
def FixSumsUptoSaid : Prop := fixSumsUptoRow.holds Try.pinned (OpenSpec.upto fixSumsSpec)

/-- 'azulejolaw01.FixHalves', WHERE WHAT IT READS IS OF BULK AT MOST 1048576: true; the input reads as it did. -/
def fixHalvesUptoRow : OpenClaim := { program := "ythgjacfikicgnaa", sum := "e5f7411426d269cba063f378d41a17a0bd0378d5c612ab1841180cd540268fbf", func := "azulejo/azulejolaw01.FixHalves", spec := "fixHalves", apart := false, narrowed := true }
def FixHalvesUptoSaid : Prop := fixHalvesUptoRow.holds Try.pinned (OpenSpec.upto fixHalvesSpec)

/-- 'azulejolaw01.FixOrder', WHERE WHAT IT READS IS OF BULK AT MOST 1048576: true; the input reads as it did. -/
def fixOrderUptoRow : OpenClaim := { program := "ythgjacfikicgnaa", sum := "e5f7411426d269cba063f378d41a17a0bd0378d5c612ab1841180cd540268fbf", func := "azulejo/azulejolaw01.FixOrder", spec := "fixOrder", apart := false, narrowed := true }
def FixOrderUptoSaid : Prop := fixOrderUptoRow.holds Try.pinned (OpenSpec.upto fixOrderSpec)

/-- 'azulejolaw03.EdgeShared', WHERE WHAT IT READS IS OF BULK AT MOST 1048576: true; the input reads as it did. -/
def edgeSharedUptoRow : OpenClaim := { program := "ythgjacfikicgnaa", sum := "e5f7411426d269cba063f378d41a17a0bd0378d5c612ab1841180cd540268fbf", func := "azulejo/azulejolaw03.EdgeShared", spec := "edgeShared", unfollowed := true, recurses := true, apart := false, narrowed := true }
def EdgeSharedUptoSaid : Prop := edgeSharedUptoRow.holds Try.pinned (OpenSpec.upto edgeSharedSpec)

/-- 'azulejolaw03.EdgeFans', WHERE WHAT IT READS IS OF BULK AT MOST 1048576: true; the input reads as it did. -/
def edgeFansUptoRow : OpenClaim := { program := "ythgjacfikicgnaa", sum := "e5f7411426d269cba063f378d41a17a0bd0378d5c612ab1841180cd540268fbf", func := "azulejo/azulejolaw03.EdgeFans", spec := "edgeFans", apart := false, narrowed := true }
def EdgeFansUptoSaid : Prop := edgeFansUptoRow.holds Try.pinned (OpenSpec.upto edgeFansSpec)

/-- 'azulejolaw03.EdgeMoves', WHERE WHAT IT READS IS OF BULK AT MOST 1048576: true; the input reads as it did. -/
def edgeMovesUptoRow : OpenClaim := { program := "ythgjacfikicgnaa", sum := "e5f7411426d269cba063f378d41a17a0bd0378d5c612ab1841180cd540268fbf", func := "azulejo/azulejolaw03.EdgeMoves", spec := "edgeMoves", apart := false, narrowed := true }
def EdgeMovesUptoSaid : Prop := edgeMovesUptoRow.holds Try.pinned (OpenSpec.upto edgeMovesSpec)

/-- 'azulejolaw03.EdgeTurns', WHERE WHAT IT READS IS OF BULK AT MOST 1048576: true; the input reads as it did. -/
def edgeTurnsUptoRow : OpenClaim := { program := "ythgjacfikicgnaa", sum := "e5f7411426d269cba063f378d41a17a0bd0378d5c612ab1841180cd540268fbf", func := "azulejo/azulejolaw03.EdgeTurns", spec := "edgeTurns", apart := false, narrowed := true }
def EdgeTurnsUptoSaid : Prop := edgeTurnsUptoRow.holds Try.pinned (OpenSpec.upto edgeTurnsSpec)

/-- 'azulejolaw03.EdgeBoxes', WHERE WHAT IT READS IS OF BULK AT MOST 1048576: true; the input reads as it did. -/
def edgeBoxesUptoRow : OpenClaim := { program := "ythgjacfikicgnaa", sum := "e5f7411426d269cba063f378d41a17a0bd0378d5c612ab1841180cd540268fbf", func := "azulejo/azulejolaw03.EdgeBoxes", spec := "edgeBoxes", apart := false, narrowed := true }
def EdgeBoxesUptoSaid : Prop := edgeBoxesUptoRow.holds Try.pinned (OpenSpec.upto edgeBoxesSpec)

/-- 'azulejolaw03.EdgeSides', WHERE WHAT IT READS IS OF BULK AT MOST 1048576: true; the input reads as it did. -/
def edgeSidesUptoRow : OpenClaim := { program := "ythgjacfikicgnaa", sum := "e5f7411426d269cba063f378d41a17a0bd0378d5c612ab1841180cd540268fbf", func := "azulejo/azulejolaw03.EdgeSides", spec := "edgeSides", unfollowed := true, recurses := true, apart := false, narrowed := true }
def EdgeSidesUptoSaid : Prop := edgeSidesUptoRow.holds Try.pinned (OpenSpec.upto edgeSidesSpec)

/-- 'azulejolaw16.BinBoxes', WHERE WHAT IT READS IS OF BULK AT MOST 1048576: true; the input reads as it did. -/
def binBoxesUptoRow : OpenClaim := { program := "ythgjacfikicgnaa", sum := "e5f7411426d269cba063f378d41a17a0bd0378d5c612ab1841180cd540268fbf", func := "azulejo/azulejolaw16.BinBoxes", spec := "binBoxes", apart := false, narrowed := true }
def BinBoxesUptoSaid : Prop := binBoxesUptoRow.holds Try.pinned (OpenSpec.upto binBoxesSpec)

/-- 'azulejolaw16.BinIn', WHERE WHAT IT READS IS OF BULK AT MOST 1048576: true; the input reads as it did. -/
def binInUptoRow : OpenClaim := { program := "ythgjacfikicgnaa", sum := "e5f7411426d269cba063f378d41a17a0bd0378d5c612ab1841180cd540268fbf", func := "azulejo/azulejolaw16.BinIn", spec := "binIn", apart := false, narrowed := true }
def BinInUptoSaid : Prop := binInUptoRow.holds Try.pinned (OpenSpec.upto binInSpec)

/-- 'azulejolaw16.BinOwn', WHERE WHAT IT READS IS OF BULK AT MOST 1048576: true; the input reads as it did. -/
def binOwnUptoRow : OpenClaim := { program := "ythgjacfikicgnaa", sum := "e5f7411426d269cba063f378d41a17a0bd0378d5c612ab1841180cd540268fbf", func := "azulejo/azulejolaw16.BinOwn", spec := "binOwn", apart := false, narrowed := true }
def BinOwnUptoSaid : Prop := binOwnUptoRow.holds Try.pinned (OpenSpec.upto binOwnSpec)

/-- 'azulejolaw09.StateTests', WHERE WHAT IT READS IS OF BULK AT MOST 1048576: true; the input reads as it did. -/
def stateTestsUptoRow : OpenClaim := { program := "ythgjacfikicgnaa", sum := "e5f7411426d269cba063f378d41a17a0bd0378d5c612ab1841180cd540268fbf", func := "azulejo/azulejolaw09.StateTests", spec := "stateTests", apart := false, narrowed := true }
def StateTestsUptoSaid : Prop := stateTestsUptoRow.holds Try.pinned (OpenSpec.upto stateTestsSpec)

/-- 'azulejolaw09.StateOpposites', WHERE WHAT IT READS IS OF BULK AT MOST 1048576: true; the input reads as it did. -/
def stateOppositesUptoRow : OpenClaim := { program := "ythgjacfikicgnaa", sum := "e5f7411426d269cba063f378d41a17a0bd0378d5c612ab1841180cd540268fbf", func := "azulejo/azulejolaw09.StateOpposites", spec := "stateOpposites", apart := false, narrowed := true }
def StateOppositesUptoSaid : Prop := stateOppositesUptoRow.holds Try.pinned (OpenSpec.upto stateOppositesSpec)

/-- 'azulejolaw02.VecTimes', WHERE WHAT IT READS IS OF BULK AT MOST 1048576: true; the input reads as it did. -/
def vecTimesUptoRow : OpenClaim := { program := "ythgjacfikicgnaa", sum := "e5f7411426d269cba063f378d41a17a0bd0378d5c612ab1841180cd540268fbf", func := "azulejo/azulejolaw02.VecTimes", spec := "vecTimes", unfollowed := true, recurses := true, apart := false, narrowed := true }
def VecTimesUptoSaid : Prop := vecTimesUptoRow.holds Try.pinned (OpenSpec.upto vecTimesSpec)

/-- 'azulejolaw02.VecUnits', WHERE WHAT IT READS IS OF BULK AT MOST 1048576: true; the input reads as it did. -/
def vecUnitsUptoRow : OpenClaim := { program := "ythgjacfikicgnaa", sum := "e5f7411426d269cba063f378d41a17a0bd0378d5c612ab1841180cd540268fbf", func := "azulejo/azulejolaw02.VecUnits", spec := "vecUnits", unfollowed := true, recurses := true, apart := false, narrowed := true }
def VecUnitsUptoSaid : Prop := vecUnitsUptoRow.holds Try.pinned (OpenSpec.upto vecUnitsSpec)

/-- 'azulejolaw02.VecOrders', WHERE WHAT IT READS IS OF BULK AT MOST 1048576: true; the input reads as it did. -/
def vecOrdersUptoRow : OpenClaim := { program := "ythgjacfikicgnaa", sum := "e5f7411426d269cba063f378d41a17a0bd0378d5c612ab1841180cd540268fbf", func := "azulejo/azulejolaw02.VecOrders", spec := "vecOrders", unfollowed := true, recurses := true, apart := false, narrowed := true }
def VecOrdersUptoSaid : Prop := vecOrdersUptoRow.holds Try.pinned (OpenSpec.upto vecOrdersSpec)

/-- 'azulejolaw02.VecPairs', WHERE WHAT IT READS IS OF BULK AT MOST 1048576: true; the input reads as it did. -/
def vecPairsUptoRow : OpenClaim := { program := "ythgjacfikicgnaa", sum := "e5f7411426d269cba063f378d41a17a0bd0378d5c612ab1841180cd540268fbf", func := "azulejo/azulejolaw02.VecPairs", spec := "vecPairs", unfollowed := true, recurses := true, apart := false, narrowed := true }
def VecPairsUptoSaid : Prop := vecPairsUptoRow.holds Try.pinned (OpenSpec.upto vecPairsSpec)

end Rows
end Go.Proofs.Ythgjacfikicgnaa
