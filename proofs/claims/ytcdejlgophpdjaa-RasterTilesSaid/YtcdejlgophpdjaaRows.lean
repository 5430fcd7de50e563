/-
  No cell of these rows narrows 'for every input' (looked for: loops, veiled, ifaces, maps, wideKeys, modest, calm, conditions, laid).
  DERIVED. THE GIVEN ROWS OF THIS SEAT. 23 by the template 'for every input the law returns true; each argument reads behind the call as it read before'; 0 by the template 'total and deterministic' (their statements: YtcdejlgophpdjaaTotals.lean).
  GIVEN WITH THE SEED: the statements are not yours to turn. If you find one false, say at which input.
  Laid BY PROGRAM, IN A SANDBOX (cutbox-rows.mjs): the forced cells as the released guide's own fill.sh prints them over the translation 7e1e5a10f1fa9db6… (all of the seat's roots in one cut). By AI agents, Wed Nov 11 2026. No macro, syntax, notation, axiom, sorry.
-/
import Derived.Test.YtcdejlgophpdjaaChecked
import GoSem.Claim
import GoSem.ClaimJoined
import GoSem.ClaimMapViews
import Derived.JoinedTies
import Derived.KernelRfl
namespace Go.Proofs.Ytcdejlgophpdjaa
/- THE CELL 'sum', in the pinned program and in every row, IS THE sha256 OF THE DUMP (.gsa) THAT YtcdejlgophpdjaaProg.lean LOADS. Nothing in Lean hashes anything: it is a label: what it is worth is what the hold of that sum in a sandbox is worth. -/
noncomputable def Try.pinned : Pinned := { name := "ytcdejlgophpdjaa", sum := "7e1e5a10f1fa9db658b9d033e30882f7b697642b584f8fc9bbdf15aa034366ed", checked := Try.checked }
namespace Rows
def none {H : Type} : Left H := { results := [], args := [] }

/-- 'azulejolaw16.BinCovers': WHATEVER THE INPUT: true; the input reads as it did. -/
def binCoversSpec : ChangeSpec := { name := "binCovers", fn := fun _ => fun
  | [d1, d2, d3, d4, d5] => { results := [.lit (.bool true)], args := [d1, d2, d3, d4, d5] }
  | _ => none }
def binCoversRow : OpenClaim := { program := "ytcdejlgophpdjaa", sum := "7e1e5a10f1fa9db658b9d033e30882f7b697642b584f8fc9bbdf15aa034366ed", func := "azulejo/azulejolaw16.BinCovers", spec := "binCovers", plainKeys := false, apart := false }
def BinCoversSaid : Prop := binCoversRow.holds Try.pinned (OpenSpec.ofChange binCoversSpec)

/-- ITS FALSE NEIGHBOUR: 'it returns false'. Refute it at one input. -/
def binCoversWrong : ChangeSpec := { name := "binCovers", fn := fun _ => fun
  | [d1, d2, d3, d4, d5] => { results := [.lit (.bool false)], args := [d1, d2, d3, d4, d5] }
  | _ => none }
def BinCoversWrongFalsely : Prop := binCoversRow.holds Try.pinned (OpenSpec.ofChange binCoversWrong)

/-- 'azulejolaw20.FrameNew': WHATEVER THE INPUT: true; the input reads as it did. -/
def frameNewSpec : ChangeSpec := { name := "frameNew", fn := fun _ => fun
  | [d1, d2, d3, d4, d5] => { results := [.lit (.bool true)], args := [d1, d2, d3, d4, d5] }
  | _ => none }
def frameNewRow : OpenClaim := { program := "ytcdejlgophpdjaa", sum := "7e1e5a10f1fa9db658b9d033e30882f7b697642b584f8fc9bbdf15aa034366ed", func := "azulejo/azulejolaw20.FrameNew", spec := "frameNew", plainKeys := false, apart := false }
def FrameNewSaid : Prop := frameNewRow.holds Try.pinned (OpenSpec.ofChange frameNewSpec)

/-- ITS FALSE NEIGHBOUR: 'it returns false'. Refute it at one input. -/
def frameNewWrong : ChangeSpec := { name := "frameNew", fn := fun _ => fun
  | [d1, d2, d3, d4, d5] => { results := [.lit (.bool false)], args := [d1, d2, d3, d4, d5] }
  | _ => none }
def FrameNewWrongFalsely : Prop := frameNewRow.holds Try.pinned (OpenSpec.ofChange frameNewWrong)

/-- 'azulejolaw18.RasterCells': WHATEVER THE INPUT: true; the input reads as it did. -/
def rasterCellsSpec : ChangeSpec := { name := "rasterCells", fn := fun _ => fun
  | [d1, d2] => { results := [.lit (.bool true)], args := [d1, d2] }
  | _ => none }
def rasterCellsRow : OpenClaim := { program := "ytcdejlgophpdjaa", sum := "7e1e5a10f1fa9db658b9d033e30882f7b697642b584f8fc9bbdf15aa034366ed", func := "azulejo/azulejolaw18.RasterCells", spec := "rasterCells", unfollowed := true, recurses := true, plainKeys := false, apart := false }
def RasterCellsSaid : Prop := rasterCellsRow.holds Try.pinned (OpenSpec.ofChange rasterCellsSpec)

/-- ITS FALSE NEIGHBOUR: 'it returns false'. Refute it at one input. -/
def rasterCellsWrong : ChangeSpec := { name := "rasterCells", fn := fun _ => fun
  | [d1, d2] => { results := [.lit (.bool false)], args := [d1, d2] }
  | _ => none }
def RasterCellsWrongFalsely : Prop := rasterCellsRow.holds Try.pinned (OpenSpec.ofChange rasterCellsWrong)

/-- 'azulejolaw18.RasterStops': WHATEVER THE INPUT: true; the input reads as it did. -/
def rasterStopsSpec : ChangeSpec := { name := "rasterStops", fn := fun _ => fun
  | [d1, d2, d3] => { results := [.lit (.bool true)], args := [d1, d2, d3] }
  | _ => none }
def rasterStopsRow : OpenClaim := { program := "ytcdejlgophpdjaa", sum := "7e1e5a10f1fa9db658b9d033e30882f7b697642b584f8fc9bbdf15aa034366ed", func := "azulejo/azulejolaw18.RasterStops", spec := "rasterStops", unfollowed := true, recurses := true, plainKeys := false, apart := false }
def RasterStopsSaid : Prop := rasterStopsRow.holds Try.pinned (OpenSpec.ofChange rasterStopsSpec)

/-- ITS FALSE NEIGHBOUR: 'it returns false'. Refute it at one input. -/
def rasterStopsWrong : ChangeSpec := { name := "rasterStops", fn := fun _ => fun
  | [d1, d2, d3] => { results := [.lit (.bool false)], args := [d1, d2, d3] }
  | _ => none }
def RasterStopsWrongFalsely : Prop := rasterStopsRow.holds Try.pinned (OpenSpec.ofChange rasterStopsWrong)

/-- 'azulejolaw18.RasterParts': WHATEVER THE INPUT: true; the input reads as it did. -/
def rasterPartsSpec : ChangeSpec := { name := "rasterParts", fn := fun _ => fun
  | [d1, d2, d3, d4, d5] => { results := [.lit (.bool true)], args := [d1, d2, d3, d4, d5] }
  | _ => none }
def rasterPartsRow : OpenClaim := { program := "ytcdejlgophpdjaa", sum := "7e1e5a10f1fa9db658b9d033e30882f7b697642b584f8fc9bbdf15aa034366ed", func := "azulejo/azulejolaw18.RasterParts", spec := "rasterParts", unfollowed := true, recurses := true, plainKeys := false, apart := false }
def RasterPartsSaid : Prop := rasterPartsRow.holds Try.pinned (OpenSpec.ofChange rasterPartsSpec)

/-- ITS FALSE NEIGHBOUR: 'it returns false'. Refute it at one input. -/
def rasterPartsWrong : ChangeSpec := { name := "rasterParts", fn := fun _ => fun
  | [d1, d2, d3, d4, d5] => { results := [.lit (.bool false)], args := [d1, d2, d3, d4, d5] }
  | _ => none }
def RasterPartsWrongFalsely : Prop := rasterPartsRow.holds Try.pinned (OpenSpec.ofChange rasterPartsWrong)

/-- 'azulejolaw18.RasterRaw': WHATEVER THE INPUT: true; the input reads as it did. -/
def rasterRawSpec : ChangeSpec := { name := "rasterRaw", fn := fun _ => fun
  | [d1, d2] => { results := [.lit (.bool true)], args := [d1, d2] }
  | _ => none }
def rasterRawRow : OpenClaim := { program := "ytcdejlgophpdjaa", sum := "7e1e5a10f1fa9db658b9d033e30882f7b697642b584f8fc9bbdf15aa034366ed", func := "azulejo/azulejolaw18.RasterRaw", spec := "rasterRaw", unfollowed := true, recurses := true, plainKeys := false, apart := false }
def RasterRawSaid : Prop := rasterRawRow.holds Try.pinned (OpenSpec.ofChange rasterRawSpec)

/-- ITS FALSE NEIGHBOUR: 'it returns false'. Refute it at one input. -/
def rasterRawWrong : ChangeSpec := { name := "rasterRaw", fn := fun _ => fun
  | [d1, d2] => { results := [.lit (.bool false)], args := [d1, d2] }
  | _ => none }
def RasterRawWrongFalsely : Prop := rasterRawRow.holds Try.pinned (OpenSpec.ofChange rasterRawWrong)

/-- 'azulejolaw18.RasterFans': WHATEVER THE INPUT: true; the input reads as it did. -/
def rasterFansSpec : ChangeSpec := { name := "rasterFans", fn := fun _ => fun
  | [d1, d2, d3] => { results := [.lit (.bool true)], args := [d1, d2, d3] }
  | _ => none }
def rasterFansRow : OpenClaim := { program := "ytcdejlgophpdjaa", sum := "7e1e5a10f1fa9db658b9d033e30882f7b697642b584f8fc9bbdf15aa034366ed", func := "azulejo/azulejolaw18.RasterFans", spec := "rasterFans", unfollowed := true, recurses := true, plainKeys := false, apart := false }
def RasterFansSaid : Prop := rasterFansRow.holds Try.pinned (OpenSpec.ofChange rasterFansSpec)

/-- ITS FALSE NEIGHBOUR: 'it returns false'. Refute it at one input. -/
def rasterFansWrong : ChangeSpec := { name := "rasterFans", fn := fun _ => fun
  | [d1, d2, d3] => { results := [.lit (.bool false)], args := [d1, d2, d3] }
  | _ => none }
def RasterFansWrongFalsely : Prop := rasterFansRow.holds Try.pinned (OpenSpec.ofChange rasterFansWrong)

/-- 'azulejolaw09.StateAny': WHATEVER THE INPUT: true; the input reads as it did. -/
def stateAnySpec : ChangeSpec := { name := "stateAny", fn := fun _ => fun
  | [d1, d2, d3, d4, d5] => { results := [.lit (.bool true)], args := [d1, d2, d3, d4, d5] }
  | _ => none }
def stateAnyRow : OpenClaim := { program := "ytcdejlgophpdjaa", sum := "7e1e5a10f1fa9db658b9d033e30882f7b697642b584f8fc9bbdf15aa034366ed", func := "azulejo/azulejolaw09.StateAny", spec := "stateAny", plainKeys := false, apart := false }
def StateAnySaid : Prop := stateAnyRow.holds Try.pinned (OpenSpec.ofChange stateAnySpec)

/-- ITS FALSE NEIGHBOUR: 'it returns false'. Refute it at one input. -/
def stateAnyWrong : ChangeSpec := { name := "stateAny", fn := fun _ => fun
  | [d1, d2, d3, d4, d5] => { results := [.lit (.bool false)], args := [d1, d2, d3, d4, d5] }
  | _ => none }
def StateAnyWrongFalsely : Prop := stateAnyRow.holds Try.pinned (OpenSpec.ofChange stateAnyWrong)

/-- 'azulejolaw20.FrameTells': WHATEVER THE INPUT: true; the input reads as it did. -/
def frameTellsSpec : ChangeSpec := { name := "frameTells", fn := fun _ => fun
  | [d] => { results := [.lit (.bool true)], args := [d] }
  | _ => none }
def frameTellsRow : OpenClaim := { program := "ytcdejlgophpdjaa", sum := "7e1e5a10f1fa9db658b9d033e30882f7b697642b584f8fc9bbdf15aa034366ed", func := "azulejo/azulejolaw20.FrameTells", spec := "frameTells", plainKeys := false, apart := false }
def FrameTellsSaid : Prop := frameTellsRow.holds Try.pinned (OpenSpec.ofChange frameTellsSpec)

/-- ITS FALSE NEIGHBOUR: 'it returns false'. Refute it at one input. -/
def frameTellsWrong : ChangeSpec := { name := "frameTells", fn := fun _ => fun
  | [d] => { results := [.lit (.bool false)], args := [d] }
  | _ => none }
def FrameTellsWrongFalsely : Prop := frameTellsRow.holds Try.pinned (OpenSpec.ofChange frameTellsWrong)

/-- 'azulejolaw09.StateBack': WHATEVER THE INPUT: true; the input reads as it did. -/
def stateBackSpec : ChangeSpec := { name := "stateBack", fn := fun _ => fun
  | [d] => { results := [.lit (.bool true)], args := [d] }
  | _ => none }
def stateBackRow : OpenClaim := { program := "ytcdejlgophpdjaa", sum := "7e1e5a10f1fa9db658b9d033e30882f7b697642b584f8fc9bbdf15aa034366ed", func := "azulejo/azulejolaw09.StateBack", spec := "stateBack", plainKeys := false, apart := false }
def StateBackSaid : Prop := stateBackRow.holds Try.pinned (OpenSpec.ofChange stateBackSpec)

/-- ITS FALSE NEIGHBOUR: 'it returns false'. Refute it at one input. -/
def stateBackWrong : ChangeSpec := { name := "stateBack", fn := fun _ => fun
  | [d] => { results := [.lit (.bool false)], args := [d] }
  | _ => none }
def StateBackWrongFalsely : Prop := stateBackRow.holds Try.pinned (OpenSpec.ofChange stateBackWrong)

/-- 'azulejolaw20.FramePixels': WHATEVER THE INPUT: true; the input reads as it did. -/
def framePixelsSpec : ChangeSpec := { name := "framePixels", fn := fun _ => fun
  | [d1, d2, d3, d4, d5] => { results := [.lit (.bool true)], args := [d1, d2, d3, d4, d5] }
  | _ => none }
def framePixelsRow : OpenClaim := { program := "ytcdejlgophpdjaa", sum := "7e1e5a10f1fa9db658b9d033e30882f7b697642b584f8fc9bbdf15aa034366ed", func := "azulejo/azulejolaw20.FramePixels", spec := "framePixels", plainKeys := false, apart := false }
def FramePixelsSaid : Prop := framePixelsRow.holds Try.pinned (OpenSpec.ofChange framePixelsSpec)

/-- ITS FALSE NEIGHBOUR: 'it returns false'. Refute it at one input. -/
def framePixelsWrong : ChangeSpec := { name := "framePixels", fn := fun _ => fun
  | [d1, d2, d3, d4, d5] => { results := [.lit (.bool false)], args := [d1, d2, d3, d4, d5] }
  | _ => none }
def FramePixelsWrongFalsely : Prop := framePixelsRow.holds Try.pinned (OpenSpec.ofChange framePixelsWrong)

/-- 'azulejolaw21.TileAll': WHATEVER THE INPUT: true; the input reads as it did. -/
def tileAllSpec : ChangeSpec := { name := "tileAll", fn := fun _ => fun
  | [d1, d2, d3] => { results := [.lit (.bool true)], args := [d1, d2, d3] }
  | _ => none }
def tileAllRow : OpenClaim := { program := "ytcdejlgophpdjaa", sum := "7e1e5a10f1fa9db658b9d033e30882f7b697642b584f8fc9bbdf15aa034366ed", func := "azulejo/azulejolaw21.TileAll", spec := "tileAll", unfollowed := true, recurses := true, plainKeys := false, apart := false }
def TileAllSaid : Prop := tileAllRow.holds Try.pinned (OpenSpec.ofChange tileAllSpec)

/-- ITS FALSE NEIGHBOUR: 'it returns false'. Refute it at one input. -/
def tileAllWrong : ChangeSpec := { name := "tileAll", fn := fun _ => fun
  | [d1, d2, d3] => { results := [.lit (.bool false)], args := [d1, d2, d3] }
  | _ => none }
def TileAllWrongFalsely : Prop := tileAllRow.holds Try.pinned (OpenSpec.ofChange tileAllWrong)

/-- 'azulejolaw21.TileLoads': WHATEVER THE INPUT: true; the input reads as it did. -/
def tileLoadsSpec : ChangeSpec := { name := "tileLoads", fn := fun _ => fun
  | [d1, d2, d3] => { results := [.lit (.bool true)], args := [d1, d2, d3] }
  | _ => none }
def tileLoadsRow : OpenClaim := { program := "ytcdejlgophpdjaa", sum := "7e1e5a10f1fa9db658b9d033e30882f7b697642b584f8fc9bbdf15aa034366ed", func := "azulejo/azulejolaw21.TileLoads", spec := "tileLoads", unfollowed := true, recurses := true, plainKeys := false, apart := false }
def TileLoadsSaid : Prop := tileLoadsRow.holds Try.pinned (OpenSpec.ofChange tileLoadsSpec)

/-- ITS FALSE NEIGHBOUR: 'it returns false'. Refute it at one input. -/
def tileLoadsWrong : ChangeSpec := { name := "tileLoads", fn := fun _ => fun
  | [d1, d2, d3] => { results := [.lit (.bool false)], args := [d1, d2, d3] }
  | _ => none }
def TileLoadsWrongFalsely : Prop := tileLoadsRow.holds Try.pinned (OpenSpec.ofChange tileLoadsWrong)

/-- 'azulejolaw21.TileStores': WHATEVER THE INPUT: true; the input reads as it did. -/
def tileStoresSpec : ChangeSpec := { name := "tileStores", fn := fun _ => fun
  | [d1, d2, d3, d4, d5] => { results := [.lit (.bool true)], args := [d1, d2, d3, d4, d5] }
  | _ => none }
def tileStoresRow : OpenClaim := { program := "ytcdejlgophpdjaa", sum := "7e1e5a10f1fa9db658b9d033e30882f7b697642b584f8fc9bbdf15aa034366ed", func := "azulejo/azulejolaw21.TileStores", spec := "tileStores", unfollowed := true, recurses := true, plainKeys := false, apart := false }
def TileStoresSaid : Prop := tileStoresRow.holds Try.pinned (OpenSpec.ofChange tileStoresSpec)

/-- ITS FALSE NEIGHBOUR: 'it returns false'. Refute it at one input. -/
def tileStoresWrong : ChangeSpec := { name := "tileStores", fn := fun _ => fun
  | [d1, d2, d3, d4, d5] => { results := [.lit (.bool false)], args := [d1, d2, d3, d4, d5] }
  | _ => none }
def TileStoresWrongFalsely : Prop := tileStoresRow.holds Try.pinned (OpenSpec.ofChange tileStoresWrong)

/-- 'azulejolaw21.TileRight': WHATEVER THE INPUT: true; the input reads as it did. -/
def tileRightSpec : ChangeSpec := { name := "tileRight", fn := fun _ => fun
  | [d1, d2, d3, d4] => { results := [.lit (.bool true)], args := [d1, d2, d3, d4] }
  | _ => none }
def tileRightRow : OpenClaim := { program := "ytcdejlgophpdjaa", sum := "7e1e5a10f1fa9db658b9d033e30882f7b697642b584f8fc9bbdf15aa034366ed", func := "azulejo/azulejolaw21.TileRight", spec := "tileRight", unfollowed := true, recurses := true, plainKeys := false, apart := false }
def TileRightSaid : Prop := tileRightRow.holds Try.pinned (OpenSpec.ofChange tileRightSpec)

/-- ITS FALSE NEIGHBOUR: 'it returns false'. Refute it at one input. -/
def tileRightWrong : ChangeSpec := { name := "tileRight", fn := fun _ => fun
  | [d1, d2, d3, d4] => { results := [.lit (.bool false)], args := [d1, d2, d3, d4] }
  | _ => none }
def TileRightWrongFalsely : Prop := tileRightRow.holds Try.pinned (OpenSpec.ofChange tileRightWrong)

/-- 'azulejolaw20.FrameShapes': WHATEVER THE INPUT: true; the input reads as it did. -/
def frameShapesSpec : ChangeSpec := { name := "frameShapes", fn := fun _ => fun
  | [d1, d2, d3, d4] => { results := [.lit (.bool true)], args := [d1, d2, d3, d4] }
  | _ => none }
def frameShapesRow : OpenClaim := { program := "ytcdejlgophpdjaa", sum := "7e1e5a10f1fa9db658b9d033e30882f7b697642b584f8fc9bbdf15aa034366ed", func := "azulejo/azulejolaw20.FrameShapes", spec := "frameShapes", plainKeys := false, apart := false }
def FrameShapesSaid : Prop := frameShapesRow.holds Try.pinned (OpenSpec.ofChange frameShapesSpec)

/-- ITS FALSE NEIGHBOUR: 'it returns false'. Refute it at one input. -/
def frameShapesWrong : ChangeSpec := { name := "frameShapes", fn := fun _ => fun
  | [d1, d2, d3, d4] => { results := [.lit (.bool false)], args := [d1, d2, d3, d4] }
  | _ => none }
def FrameShapesWrongFalsely : Prop := frameShapesRow.holds Try.pinned (OpenSpec.ofChange frameShapesWrong)

/-- 'azulejolaw18.RasterTiles': WHATEVER THE INPUT: true; the input reads as it did. -/
def rasterTilesSpec : ChangeSpec := { name := "rasterTiles", fn := fun _ => fun
  | [d1, d2, d3, d4] => { results := [.lit (.bool true)], args := [d1, d2, d3, d4] }
  | _ => none }
def rasterTilesRow : OpenClaim := { program := "ytcdejlgophpdjaa", sum := "7e1e5a10f1fa9db658b9d033e30882f7b697642b584f8fc9bbdf15aa034366ed", func := "azulejo/azulejolaw18.RasterTiles", spec := "rasterTiles", unfollowed := true, recurses := true, plainKeys := false, apart := false }
def RasterTilesSaid : Prop := rasterTilesRow.holds Try.pinned (OpenSpec.ofChange rasterTilesSpec)

/-- ITS FALSE NEIGHBOUR: 'it returns false'. Refute it at one input. -/
def rasterTilesWrong : ChangeSpec := { name := "rasterTiles", fn := fun _ => fun
  | [d1, d2, d3, d4] => { results := [.lit (.bool false)], args := [d1, d2, d3, d4] }
  | _ => none }
def RasterTilesWrongFalsely : Prop := rasterTilesRow.holds Try.pinned (OpenSpec.ofChange rasterTilesWrong)

/-- 'azulejolaw08.VmRuns': WHATEVER THE INPUT: true; the input reads as it did. -/
def vmRunsSpec : ChangeSpec := { name := "vmRuns", fn := fun _ => fun
  | [d1, d2, d3] => { results := [.lit (.bool true)], args := [d1, d2, d3] }
  | _ => none }
def vmRunsRow : OpenClaim := { program := "ytcdejlgophpdjaa", sum := "7e1e5a10f1fa9db658b9d033e30882f7b697642b584f8fc9bbdf15aa034366ed", func := "azulejo/azulejolaw08.VmRuns", spec := "vmRuns", unfollowed := true, recurses := true, plainKeys := false, apart := false }
def VmRunsSaid : Prop := vmRunsRow.holds Try.pinned (OpenSpec.ofChange vmRunsSpec)

/-- ITS FALSE NEIGHBOUR: 'it returns false'. Refute it at one input. -/
def vmRunsWrong : ChangeSpec := { name := "vmRuns", fn := fun _ => fun
  | [d1, d2, d3] => { results := [.lit (.bool false)], args := [d1, d2, d3] }
  | _ => none }
def VmRunsWrongFalsely : Prop := vmRunsRow.holds Try.pinned (OpenSpec.ofChange vmRunsWrong)

/-- 'azulejolaw08.VmNone': WHATEVER THE INPUT: true; the input reads as it did. -/
def vmNoneSpec : ChangeSpec := { name := "vmNone", fn := fun _ => fun
  | [d1, d2, d3, d4, d5, d6] => { results := [.lit (.bool true)], args := [d1, d2, d3, d4, d5, d6] }
  | _ => none }
def vmNoneRow : OpenClaim := { program := "ytcdejlgophpdjaa", sum := "7e1e5a10f1fa9db658b9d033e30882f7b697642b584f8fc9bbdf15aa034366ed", func := "azulejo/azulejolaw08.VmNone", spec := "vmNone", unfollowed := true, recurses := true, plainKeys := false, apart := false }
def VmNoneSaid : Prop := vmNoneRow.holds Try.pinned (OpenSpec.ofChange vmNoneSpec)

/-- ITS FALSE NEIGHBOUR: 'it returns false'. Refute it at one input. -/
def vmNoneWrong : ChangeSpec := { name := "vmNone", fn := fun _ => fun
  | [d1, d2, d3, d4, d5, d6] => { results := [.lit (.bool false)], args := [d1, d2, d3, d4, d5, d6] }
  | _ => none }
def VmNoneWrongFalsely : Prop := vmNoneRow.holds Try.pinned (OpenSpec.ofChange vmNoneWrong)

/-- 'azulejolaw08.VmJoins': WHATEVER THE INPUT: true; the input reads as it did. -/
def vmJoinsSpec : ChangeSpec := { name := "vmJoins", fn := fun _ => fun
  | [d1, d2, d3] => { results := [.lit (.bool true)], args := [d1, d2, d3] }
  | _ => none }
def vmJoinsRow : OpenClaim := { program := "ytcdejlgophpdjaa", sum := "7e1e5a10f1fa9db658b9d033e30882f7b697642b584f8fc9bbdf15aa034366ed", func := "azulejo/azulejolaw08.VmJoins", spec := "vmJoins", unfollowed := true, recurses := true, plainKeys := false, apart := false }
def VmJoinsSaid : Prop := vmJoinsRow.holds Try.pinned (OpenSpec.ofChange vmJoinsSpec)

/-- ITS FALSE NEIGHBOUR: 'it returns false'. Refute it at one input. -/
def vmJoinsWrong : ChangeSpec := { name := "vmJoins", fn := fun _ => fun
  | [d1, d2, d3] => { results := [.lit (.bool false)], args := [d1, d2, d3] }
  | _ => none }
def VmJoinsWrongFalsely : Prop := vmJoinsRow.holds Try.pinned (OpenSpec.ofChange vmJoinsWrong)

/-- 'azulejolaw08.VmLoops': WHATEVER THE INPUT: true; the input reads as it did. -/
def vmLoopsSpec : ChangeSpec := { name := "vmLoops", fn := fun _ => fun
  | [d1, d2, d3] => { results := [.lit (.bool true)], args := [d1, d2, d3] }
  | _ => none }
def vmLoopsRow : OpenClaim := { program := "ytcdejlgophpdjaa", sum := "7e1e5a10f1fa9db658b9d033e30882f7b697642b584f8fc9bbdf15aa034366ed", func := "azulejo/azulejolaw08.VmLoops", spec := "vmLoops", unfollowed := true, recurses := true, plainKeys := false, apart := false }
def VmLoopsSaid : Prop := vmLoopsRow.holds Try.pinned (OpenSpec.ofChange vmLoopsSpec)

/-- ITS FALSE NEIGHBOUR: 'it returns false'. Refute it at one input. -/
def vmLoopsWrong : ChangeSpec := { name := "vmLoops", fn := fun _ => fun
  | [d1, d2, d3] => { results := [.lit (.bool false)], args := [d1, d2, d3] }
  | _ => none }
def VmLoopsWrongFalsely : Prop := vmLoopsRow.holds Try.pinned (OpenSpec.ofChange vmLoopsWrong)

/-- 'azulejolaw08.VmPlaces': WHATEVER THE INPUT: true; the input reads as it did. -/
def vmPlacesSpec : ChangeSpec := { name := "vmPlaces", fn := fun _ => fun
  | [d1, d2, d3, d4, d5, d6, d7] => { results := [.lit (.bool true)], args := [d1, d2, d3, d4, d5, d6, d7] }
  | _ => none }
def vmPlacesRow : OpenClaim := { program := "ytcdejlgophpdjaa", sum := "7e1e5a10f1fa9db658b9d033e30882f7b697642b584f8fc9bbdf15aa034366ed", func := "azulejo/azulejolaw08.VmPlaces", spec := "vmPlaces", unfollowed := true, recurses := true, plainKeys := false, apart := false }
def VmPlacesSaid : Prop := vmPlacesRow.holds Try.pinned (OpenSpec.ofChange vmPlacesSpec)

/-- ITS FALSE NEIGHBOUR: 'it returns false'. Refute it at one input. -/
def vmPlacesWrong : ChangeSpec := { name := "vmPlaces", fn := fun _ => fun
  | [d1, d2, d3, d4, d5, d6, d7] => { results := [.lit (.bool false)], args := [d1, d2, d3, d4, d5, d6, d7] }
  | _ => none }
def VmPlacesWrongFalsely : Prop := vmPlacesRow.holds Try.pinned (OpenSpec.ofChange vmPlacesWrong)

/-- 'azulejolaw08.VmColours': WHATEVER THE INPUT: true; the input reads as it did. -/
def vmColoursSpec : ChangeSpec := { name := "vmColours", fn := fun _ => fun
  | [d1, d2, d3, d4, d5, d6, d7] => { results := [.lit (.bool true)], args := [d1, d2, d3, d4, d5, d6, d7] }
  | _ => none }
def vmColoursRow : OpenClaim := { program := "ytcdejlgophpdjaa", sum := "7e1e5a10f1fa9db658b9d033e30882f7b697642b584f8fc9bbdf15aa034366ed", func := "azulejo/azulejolaw08.VmColours", spec := "vmColours", unfollowed := true, recurses := true, plainKeys := false, apart := false }
def VmColoursSaid : Prop := vmColoursRow.holds Try.pinned (OpenSpec.ofChange vmColoursSpec)

/-- ITS FALSE NEIGHBOUR: 'it returns false'. Refute it at one input. -/
def vmColoursWrong : ChangeSpec := { name := "vmColours", fn := fun _ => fun
  | [d1, d2, d3, d4, d5, d6, d7] => { results := [.lit (.bool false)], args := [d1, d2, d3, d4, d5, d6, d7] }
  | _ => none }
def VmColoursWrongFalsely : Prop := vmColoursRow.holds Try.pinned (OpenSpec.ofChange vmColoursWrong)

/- THE SECOND FORM. 'bulk': how many values and letters a reading holds, each counted each time it is reached (what is shared counts as often as it is met; a slice's spare places count too). A statement '..UptoSaid' is the law's where the arguments, and the package variables that the reading takes, are together of bulk at most 1048576: NARROWER than '..Said'. Prove '..Said' where nothing that the law and all that it calls make is longer than what came in: it says more and counts as full. Else prove '..UptoSaid'. A law counts once. -/
mutual
def uptoBulk {H : Type} : DataW H → Nat
  | .lit (.string bytes) => bytes.length + 1
  | .lit _ => 1
  | .nil => 1
  | .ptr d => uptoBulk d + 1
  | .slice elems spare => uptoBulkAll elems + uptoBulkAll spare + 1
  | .agg parts => uptoBulkAll parts + 1
  | .iface _ d => uptoBulk d + 1
  | .map entries => uptoBulkEntries entries + 1
  | .held _ => 1
def uptoBulkAll {H : Type} : List (DataW H) → Nat
  | [] => 0
  | d :: r => uptoBulk d + uptoBulkAll r
def uptoBulkEntries {H : Type} : List (Lit × DataW H) → Nat
  | [] => 0
  | x :: r => uptoBulkEntry x + uptoBulkEntries r
def uptoBulkEntry {H : Type} : Lit × DataW H → Nat
  | (.string bytes, d) => bytes.length + uptoBulk d + 1
  | (_, d) => uptoBulk d + 1
 end
def uptoSmall : (H : Type) → List (DataW H) → Bool := fun _ ds => decide (uptoBulkAll ds ≤ 1048576)
def OpenSpec.upto (s : _root_.Go.ChangeSpec) : _root_.Go.OpenSpec := { _root_.Go.OpenSpec.ofChange s with cond := some uptoSmall }

/-- 'azulejolaw16.BinCovers', WHERE WHAT IT READS IS OF BULK AT MOST 1048576: true; the input reads as it did. -/
def binCoversUptoRow : OpenClaim := { program := "ytcdejlgophpdjaa", sum := "7e1e5a10f1fa9db658b9d033e30882f7b697642b584f8fc9bbdf15aa034366ed", func := "azulejo/azulejolaw16.BinCovers", spec := "binCovers", plainKeys := false, apart := false, narrowed := true }
def BinCoversUptoSaid : Prop := binCoversUptoRow.holds Try.pinned (OpenSpec.upto binCoversSpec)

/-- 'azulejolaw20.FrameNew', WHERE WHAT IT READS IS OF BULK AT MOST 1048576: true; the input reads as it did. -/
def frameNewUptoRow : OpenClaim := { program := "ytcdejlgophpdjaa", sum := "7e1e5a10f1fa9db658b9d033e30882f7b697642b584f8fc9bbdf15aa034366ed", func := "azulejo/azulejolaw20.FrameNew", spec := "frameNew", plainKeys := false, apart := false, narrowed := true }
def FrameNewUptoSaid : Prop := frameNewUptoRow.holds Try.pinned (OpenSpec.upto frameNewSpec)

/-- 'azulejolaw18.RasterCells', WHERE WHAT IT READS IS OF BULK AT MOST 1048576: true; the input reads as it did. -/
def rasterCellsUptoRow : OpenClaim := { program := "ytcdejlgophpdjaa", sum := "7e1e5a10f1fa9db658b9d033e30882f7b697642b584f8fc9bbdf15aa034366ed", func := "azulejo/azulejolaw18.RasterCells", spec := "rasterCells", unfollowed := true, recurses := true, plainKeys := false, apart := false, narrowed := true }
def RasterCellsUptoSaid : Prop := rasterCellsUptoRow.holds Try.pinned (OpenSpec.upto rasterCellsSpec)

/-- 'azulejolaw18.RasterStops', WHERE WHAT IT READS IS OF BULK AT MOST 1048576: true; the input reads as it did. -/
def rasterStopsUptoRow : OpenClaim := { program := "ytcdejlgophpdjaa", sum := "7e1e5a10f1fa9db658b9d033e30882f7b697642b584f8fc9bbdf15aa034366ed", func := "azulejo/azulejolaw18.RasterStops", spec := "rasterStops", unfollowed := true, recurses := true, plainKeys := false, apart := false, narrowed := true }
def RasterStopsUptoSaid : Prop := rasterStopsUptoRow.holds Try.pinned (OpenSpec.upto rasterStopsSpec)

/-- 'azulejolaw18.RasterParts', WHERE WHAT IT READS IS OF BULK AT MOST 1048576: true; the input reads as it did. -/
def rasterPartsUptoRow : OpenClaim := { program := "ytcdejlgophpdjaa", sum := "7e1e5a10f1fa9db658b9d033e30882f7b697642b584f8fc9bbdf15aa034366ed", func := "azulejo/azulejolaw18.RasterParts", spec := "rasterParts", unfollowed := true, recurses := true, plainKeys := false, apart := false, narrowed := true }
def RasterPartsUptoSaid : Prop := rasterPartsUptoRow.holds Try.pinned (OpenSpec.upto rasterPartsSpec)

/-- 'azulejolaw18.RasterRaw', WHERE WHAT IT READS IS OF BULK AT MOST 1048576: true; the input reads as it did. -/
def rasterRawUptoRow : OpenClaim := { program := "ytcdejlgophpdjaa", sum := "7e1e5a10f1fa9db658b9d033e30882f7b697642b584f8fc9bbdf15aa034366ed", func := "azulejo/azulejolaw18.RasterRaw", spec := "rasterRaw", unfollowed := true, recurses := true, plainKeys := false, apart := false, narrowed := true }
def RasterRawUptoSaid : Prop := rasterRawUptoRow.holds Try.pinned (OpenSpec.upto rasterRawSpec)

/-- 'azulejolaw18.RasterFans', WHERE WHAT IT READS IS OF BULK AT MOST 1048576: true; the input reads as it did. -/
def rasterFansUptoRow : OpenClaim := { program := "ytcdejlgophpdjaa", sum := "7e1e5a10f1fa9db658b9d033e30882f7b697642b584f8fc9bbdf15aa034366ed", func := "azulejo/azulejolaw18.RasterFans", spec := "rasterFans", unfollowed := true, recurses := true, plainKeys := false, apart := false, narrowed := true }
def RasterFansUptoSaid : Prop := rasterFansUptoRow.holds Try.pinned (OpenSpec.upto rasterFansSpec)

/-- 'azulejolaw09.StateAny', WHERE WHAT IT READS IS OF BULK AT MOST 1048576: true; the input reads as it did. -/
def stateAnyUptoRow : OpenClaim := { program := "ytcdejlgophpdjaa", sum := "7e1e5a10f1fa9db658b9d033e30882f7b697642b584f8fc9bbdf15aa034366ed", func := "azulejo/azulejolaw09.StateAny", spec := "stateAny", plainKeys := false, apart := false, narrowed := true }
def StateAnyUptoSaid : Prop := stateAnyUptoRow.holds Try.pinned (OpenSpec.upto stateAnySpec)

/-- 'azulejolaw20.FrameTells', WHERE WHAT IT READS IS OF BULK AT MOST 1048576: true; the input reads as it did. -/
def frameTellsUptoRow : OpenClaim := { program := "ytcdejlgophpdjaa", sum := "7e1e5a10f1fa9db658b9d033e30882f7b697642b584f8fc9bbdf15aa034366ed", func := "azulejo/azulejolaw20.FrameTells", spec := "frameTells", plainKeys := false, apart := false, narrowed := true }
def FrameTellsUptoSaid : Prop := frameTellsUptoRow.holds Try.pinned (OpenSpec.upto frameTellsSpec)

/-- 'azulejolaw09.StateBack', WHERE WHAT IT READS IS OF BULK AT MOST 1048576: true; the input reads as it did. -/
def stateBackUptoRow : OpenClaim := { program := "ytcdejlgophpdjaa", sum := "7e1e5a10f1fa9db658b9d033e30882f7b697642b584f8fc9bbdf15aa034366ed", func := "azulejo/azulejolaw09.StateBack", spec := "stateBack", plainKeys := false, apart := false, narrowed := true }
def StateBackUptoSaid : Prop := stateBackUptoRow.holds Try.pinned (OpenSpec.upto stateBackSpec)

/-- 'azulejolaw20.FramePixels', WHERE WHAT IT READS IS OF BULK AT MOST 1048576: true; the input reads as it did. -/
def framePixelsUptoRow : OpenClaim := { program := "ytcdejlgophpdjaa", sum := "7e1e5a10f1fa9db658b9d033e30882f7b697642b584f8fc9bbdf15aa034366ed", func := "azulejo/azulejolaw20.FramePixels", spec := "framePixels", plainKeys := false, apart := false, narrowed := true }
def FramePixelsUptoSaid : Prop := framePixelsUptoRow.holds Try.pinned (OpenSpec.upto framePixelsSpec)

/-- 'azulejolaw21.TileAll', WHERE WHAT IT READS IS OF BULK AT MOST 1048576: true; the input reads as it did. -/
def tileAllUptoRow : OpenClaim := { program := "ytcdejlgophpdjaa", sum := "7e1e5a10f1fa9db658b9d033e30882f7b697642b584f8fc9bbdf15aa034366ed", func := "azulejo/azulejolaw21.TileAll", spec := "tileAll", unfollowed := true, recurses := true, plainKeys := false, apart := false, narrowed := true }
def TileAllUptoSaid : Prop := tileAllUptoRow.holds Try.pinned (OpenSpec.upto tileAllSpec)

/-- 'azulejolaw21.TileLoads', WHERE WHAT IT READS IS OF BULK AT MOST 1048576: true; the input reads as it did. -/
def tileLoadsUptoRow : OpenClaim := { program := "ytcdejlgophpdjaa", sum := "7e1e5a10f1fa9db658b9d033e30882f7b697642b584f8fc9bbdf15aa034366ed", func := "azulejo/azulejolaw21.TileLoads", spec := "tileLoads", unfollowed := true, recurses := true, plainKeys := false, apart := false, narrowed := true }
def TileLoadsUptoSaid : Prop := tileLoadsUptoRow.holds Try.pinned (OpenSpec.upto tileLoadsSpec)

/-- 'azulejolaw21.TileStores', WHERE WHAT IT READS IS OF BULK AT MOST 1048576: true; the input reads as it did. -/
def tileStoresUptoRow : OpenClaim := { program := "ytcdejlgophpdjaa", sum := "7e1e5a10f1fa9db658b9d033e30882f7b697642b584f8fc9bbdf15aa034366ed", func := "azulejo/azulejolaw21.TileStores", spec := "tileStores", unfollowed := true, recurses := true, plainKeys := false, apart := false, narrowed := true }
def TileStoresUptoSaid : Prop := tileStoresUptoRow.holds Try.pinned (OpenSpec.upto tileStoresSpec)

/-- 'azulejolaw21.TileRight', WHERE WHAT IT READS IS OF BULK AT MOST 1048576: true; the input reads as it did. -/
def tileRightUptoRow : OpenClaim := { program := "ytcdejlgophpdjaa", sum := "7e1e5a10f1fa9db658b9d033e30882f7b697642b584f8fc9bbdf15aa034366ed", func := "azulejo/azulejolaw21.TileRight", spec := "tileRight", unfollowed := true, recurses := true, plainKeys := false, apart := false, narrowed := true }
def TileRightUptoSaid : Prop := tileRightUptoRow.holds Try.pinned (OpenSpec.upto tileRightSpec)

/-- 'azulejolaw20.FrameShapes', WHERE WHAT IT READS IS OF BULK AT MOST 1048576: true; the input reads as it did. -/
def frameShapesUptoRow : OpenClaim := { program := "ytcdejlgophpdjaa", sum := "7e1e5a10f1fa9db658b9d033e30882f7b697642b584f8fc9bbdf15aa034366ed", func := "azulejo/azulejolaw20.FrameShapes", spec := "frameShapes", plainKeys := false, apart := false, narrowed := true }
def FrameShapesUptoSaid : Prop := frameShapesUptoRow.holds Try.pinned (OpenSpec.upto frameShapesSpec)

/-- 'azulejolaw18.RasterTiles', WHERE WHAT IT READS IS OF BULK AT MOST 1048576: true; the input reads as it did. -/
def rasterTilesUptoRow : OpenClaim := { program := "ytcdejlgophpdjaa", sum := "7e1e5a10f1fa9db658b9d033e30882f7b697642b584f8fc9bbdf15aa034366ed", func := "azulejo/azulejolaw18.RasterTiles", spec := "rasterTiles", unfollowed := true, recurses := true, plainKeys := false, apart := false, narrowed := true }
def RasterTilesUptoSaid : Prop := rasterTilesUptoRow.holds Try.pinned (OpenSpec.upto rasterTilesSpec)

/-- 'azulejolaw08.VmRuns', WHERE WHAT IT READS IS OF BULK AT MOST 1048576: true; the input reads as it did. -/
def vmRunsUptoRow : OpenClaim := { program := "ytcdejlgophpdjaa", sum := "7e1e5a10f1fa9db658b9d033e30882f7b697642b584f8fc9bbdf15aa034366ed", func := "azulejo/azulejolaw08.VmRuns", spec := "vmRuns", unfollowed := true, recurses := true, plainKeys := false, apart := false, narrowed := true }
def VmRunsUptoSaid : Prop := vmRunsUptoRow.holds Try.pinned (OpenSpec.upto vmRunsSpec)

/-- 'azulejolaw08.VmNone', WHERE WHAT IT READS IS OF BULK AT MOST 1048576: true; the input reads as it did. -/
def vmNoneUptoRow : OpenClaim := { program := "ytcdejlgophpdjaa", sum := "7e1e5a10f1fa9db658b9d033e30882f7b697642b584f8fc9bbdf15aa034366ed", func := "azulejo/azulejolaw08.VmNone", spec := "vmNone", unfollowed := true, recurses := true, plainKeys := false, apart := false, narrowed := true }
def VmNoneUptoSaid : Prop := vmNoneUptoRow.holds Try.pinned (OpenSpec.upto vmNoneSpec)

/-- 'azulejolaw08.VmJoins', WHERE WHAT IT READS IS OF BULK AT MOST 1048576: true; the input reads as it did. -/
def vmJoinsUptoRow : OpenClaim := { program := "ytcdejlgophpdjaa", sum := "7e1e5a10f1fa9db658b9d033e30882f7b697642b584f8fc9bbdf15aa034366ed", func := "azulejo/azulejolaw08.VmJoins", spec := "vmJoins", unfollowed := true, recurses := true, plainKeys := false, apart := false, narrowed := true }
def VmJoinsUptoSaid : Prop := vmJoinsUptoRow.holds Try.pinned (OpenSpec.upto vmJoinsSpec)

/-- 'azulejolaw08.VmLoops', WHERE WHAT IT READS IS OF BULK AT MOST 1048576: true; the input reads as it did. -/
def vmLoopsUptoRow : OpenClaim := { program := "ytcdejlgophpdjaa", sum := "7e1e5a10f1fa9db658b9d033e30882f7b697642b584f8fc9bbdf15aa034366ed", func := "azulejo/azulejolaw08.VmLoops", spec := "vmLoops", unfollowed := true, recurses := true, plainKeys := false, apart := false, narrowed := true }
def VmLoopsUptoSaid : Prop := vmLoopsUptoRow.holds Try.pinned (OpenSpec.upto vmLoopsSpec)

/-- 'azulejolaw08.VmPlaces', WHERE WHAT IT READS IS OF BULK AT MOST 1048576: true; the input reads as it did. -/
def vmPlacesUptoRow : OpenClaim := { program := "ytcdejlgophpdjaa", sum := "7e1e5a10f1fa9db658b9d033e30882f7b697642b584f8fc9bbdf15aa034366ed", func := "azulejo/azulejolaw08.VmPlaces", spec := "vmPlaces", unfollowed := true, recurses := true, plainKeys := false, apart := false, narrowed := true }
def VmPlacesUptoSaid : Prop := vmPlacesUptoRow.holds Try.pinned (OpenSpec.upto vmPlacesSpec)

/-- 'azulejolaw08.VmColours', WHERE WHAT IT READS IS OF BULK AT MOST 1048576: true; the input reads as it did. -/
def vmColoursUptoRow : OpenClaim := { program := "ytcdejlgophpdjaa", sum := "7e1e5a10f1fa9db658b9d033e30882f7b697642b584f8fc9bbdf15aa034366ed", func := "azulejo/azulejolaw08.VmColours", spec := "vmColours", unfollowed := true, recurses := true, plainKeys := false, apart := false, narrowed := true }
def VmColoursUptoSaid : Prop := vmColoursUptoRow.holds Try.pinned (OpenSpec.upto vmColoursSpec)

end Rows
end Go.Proofs.Ytcdejlgophpdjaa
