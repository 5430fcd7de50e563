/-
  Contracts of functions of the program, each run on the local memory (printed by a program of this session's own: wip/tools).
-/
import Derived.Test.YthgjacfikicgnaaLa
namespace Go.Proofs.Ythgjacfikicgnaa
open Go Go.RowKit Go.Proofs.Ythgjacfikicgnaa.K
set_option linter.unusedVariables false

/-! azulejo/fix.Clamp -/
def fClamp (x0 : Int) : Int := fWithin x0 2147483647
theorem fClamp_p0 (x0 : Int) : evG Try.prog tabLa 2000 31 [] [.a (.int .i64 x0)] = some ([], .a (.int .i64 (fWithin x0 2147483647))) := by kernel_rfl
def fClamp_c : Con
  | [.a (.int .i64 x0)] => some ([], .a (.int .i64 (fClamp x0)))
  | _ => none
theorem fClamp_ok : PureOK Try.prog 31 fClamp_c := by
  intro args obs lv h ho φ vs w ha
  unfold fClamp_c at h
  split at h
  · simp only [Option.some.injEq, Prod.mk.injEq] at h
    obtain ⟨rfl, rfl⟩ := h
    rename_i x0
    have e := evG_wp tabLa_ok follows (fClamp_p0 x0) trivial φ vs w ha
    simpa only [fClamp] using e
  · cases h
theorem fClamp_en : Enters Try.prog 31 := fun args => by kernel_rfl

/-! (azulejo/edge.Point).near -/
def eNear_0 (x0_0 : Int) (x0_1 : Int) : Int := fWithin x0_0 16384
def eNear_1 (x0_0 : Int) (x0_1 : Int) : Int := fWithin x0_1 16384
theorem eNear_p0 (x0_0 : Int) (x0_1 : Int) : evG Try.prog tabLa 2000 76 [] [.g [.int .i64 x0_0, .int .i64 x0_1]] = some ([], .g [.int .i64 (fWithin x0_0 16384), .int .i64 (fWithin x0_1 16384)]) := by kernel_rfl
def eNear_c : Con
  | [.g [.int .i64 x0_0, .int .i64 x0_1]] => some ([], .g [.int .i64 (eNear_0 x0_0 x0_1), .int .i64 (eNear_1 x0_0 x0_1)])
  | _ => none
theorem eNear_ok : PureOK Try.prog 76 eNear_c := by
  intro args obs lv h ho φ vs w ha
  unfold eNear_c at h
  split at h
  · simp only [Option.some.injEq, Prod.mk.injEq] at h
    obtain ⟨rfl, rfl⟩ := h
    rename_i x0_0 x0_1
    have e := evG_wp tabLa_ok follows (eNear_p0 x0_0 x0_1) trivial φ vs w ha
    simpa only [eNear_0, eNear_1] using e
  · cases h
theorem eNear_en : Enters Try.prog 76 := fun args => by kernel_rfl

/-! azulejo/azulejoref01.Side -/
def rSide (x0_0 : Int) (x0_1 : Int) (x1_0 : Int) (x1_1 : Int) (x2_0 : Int) (x2_1 : Int) : Int := IntKind.wrap IntKind.i64 (IntKind.wrap IntKind.i64 (IntKind.wrap IntKind.i64 (rNear x1_0 - rNear x0_0) * IntKind.wrap IntKind.i64 (rNear x2_1 - rNear x0_1)) - IntKind.wrap IntKind.i64 (IntKind.wrap IntKind.i64 (rNear x1_1 - rNear x0_1) * IntKind.wrap IntKind.i64 (rNear x2_0 - rNear x0_0)))
theorem rSide_p0 (x0_0 : Int) (x0_1 : Int) (x1_0 : Int) (x1_1 : Int) (x2_0 : Int) (x2_1 : Int) : evG Try.prog tabLa 2000 47 [.k, .k, .k, .k, .k, .k] [.g [.int .i64 x0_0, .int .i64 x0_1], .g [.int .i64 x1_0, .int .i64 x1_1], .g [.int .i64 x2_0, .int .i64 x2_1]] = some ([], .a (.int .i64 (IntKind.wrap IntKind.i64 (IntKind.wrap IntKind.i64 (IntKind.wrap IntKind.i64 (rNear x1_0 - rNear x0_0) * IntKind.wrap IntKind.i64 (rNear x2_1 - rNear x0_1)) - IntKind.wrap IntKind.i64 (IntKind.wrap IntKind.i64 (rNear x1_1 - rNear x0_1) * IntKind.wrap IntKind.i64 (rNear x2_0 - rNear x0_0)))))) := by kernel_rfl
def rSide_c : Con
  | [.g [.int .i64 x0_0, .int .i64 x0_1], .g [.int .i64 x1_0, .int .i64 x1_1], .g [.int .i64 x2_0, .int .i64 x2_1]] => some ([], .a (.int .i64 (rSide x0_0 x0_1 x1_0 x1_1 x2_0 x2_1)))
  | _ => none
theorem rSide_ok : PureOK Try.prog 47 rSide_c := by
  intro args obs lv h ho φ vs w ha
  unfold rSide_c at h
  split at h
  · simp only [Option.some.injEq, Prod.mk.injEq] at h
    obtain ⟨rfl, rfl⟩ := h
    rename_i x0_0 x0_1 x1_0 x1_1 x2_0 x2_1
    have e := evG_wp tabLa_ok follows (rSide_p0 x0_0 x0_1 x1_0 x1_1 x2_0 x2_1) trivial φ vs w ha
    simpa only [rSide] using e
  · cases h
theorem rSide_en : Enters Try.prog 47 := fun args => by kernel_rfl

/-! (azulejo/bin.Grid).Cols -/
def bCols (x0_0 : Int) (x0_1 : Int) : Int := bTiles x0_0
theorem bCols_p0 (x0_0 : Int) (x0_1 : Int) : evG Try.prog tabLa 2000 51 [] [.g [.int .i64 x0_0, .int .i64 x0_1]] = some ([], .a (.int .i64 (bTiles x0_0))) := by kernel_rfl
def bCols_c : Con
  | [.g [.int .i64 x0_0, .int .i64 x0_1]] => some ([], .a (.int .i64 (bCols x0_0 x0_1)))
  | _ => none
theorem bCols_ok : PureOK Try.prog 51 bCols_c := by
  intro args obs lv h ho φ vs w ha
  unfold bCols_c at h
  split at h
  · simp only [Option.some.injEq, Prod.mk.injEq] at h
    obtain ⟨rfl, rfl⟩ := h
    rename_i x0_0 x0_1
    have e := evG_wp tabLa_ok follows (bCols_p0 x0_0 x0_1) trivial φ vs w ha
    simpa only [bCols] using e
  · cases h
theorem bCols_en : Enters Try.prog 51 := fun args => by kernel_rfl

/-! (azulejo/bin.Grid).Rows -/
def bRows (x0_0 : Int) (x0_1 : Int) : Int := bTiles x0_1
theorem bRows_p0 (x0_0 : Int) (x0_1 : Int) : evG Try.prog tabLa 2000 52 [] [.g [.int .i64 x0_0, .int .i64 x0_1]] = some ([], .a (.int .i64 (bTiles x0_1))) := by kernel_rfl
def bRows_c : Con
  | [.g [.int .i64 x0_0, .int .i64 x0_1]] => some ([], .a (.int .i64 (bRows x0_0 x0_1)))
  | _ => none
theorem bRows_ok : PureOK Try.prog 52 bRows_c := by
  intro args obs lv h ho φ vs w ha
  unfold bRows_c at h
  split at h
  · simp only [Option.some.injEq, Prod.mk.injEq] at h
    obtain ⟨rfl, rfl⟩ := h
    rename_i x0_0 x0_1
    have e := evG_wp tabLa_ok follows (bRows_p0 x0_0 x0_1) trivial φ vs w ha
    simpa only [bRows] using e
  · cases h
theorem bRows_en : Enters Try.prog 52 := fun args => by kernel_rfl

/-! azulejo/azulejoref01.Add -/
def rAdd (x0 : Int) (x1 : Int) : Int := rClamp (IntKind.wrap IntKind.i64 (rClamp x0 + rClamp x1))
theorem rAdd_p0 (x0 : Int) (x1 : Int) : evG Try.prog tabLa 2000 81 [] [.a (.int .i64 x0), .a (.int .i64 x1)] = some ([], .a (.int .i64 (rClamp (IntKind.wrap IntKind.i64 (rClamp x0 + rClamp x1))))) := by kernel_rfl
def rAdd_c : Con
  | [.a (.int .i64 x0), .a (.int .i64 x1)] => some ([], .a (.int .i64 (rAdd x0 x1)))
  | _ => none
theorem rAdd_ok : PureOK Try.prog 81 rAdd_c := by
  intro args obs lv h ho φ vs w ha
  unfold rAdd_c at h
  split at h
  · simp only [Option.some.injEq, Prod.mk.injEq] at h
    obtain ⟨rfl, rfl⟩ := h
    rename_i x0 x1
    have e := evG_wp tabLa_ok follows (rAdd_p0 x0 x1) trivial φ vs w ha
    simpa only [rAdd] using e
  · cases h
theorem rAdd_en : Enters Try.prog 81 := fun args => by kernel_rfl

/-! azulejo/azulejolaw09.Awake -/
def l09Awake  : Bool := sDo 3 255 3 == 255
theorem l09Awake_p0  : evG Try.prog tabLa 2000 58 [.k, .k, .k, .k, .k, .k, .k, .k, .k, .k, .k, .k, .k] [] = some ([], .a (.bool (sDo 3 255 3 == 255))) := by kernel_rfl
def l09Awake_c : Con
  | [] => some ([], .a (.bool (l09Awake )))
  | _ => none
theorem l09Awake_ok : PureOK Try.prog 58 l09Awake_c := by
  intro args obs lv h ho φ vs w ha
  unfold l09Awake_c at h
  split at h
  · simp only [Option.some.injEq, Prod.mk.injEq] at h
    obtain ⟨rfl, rfl⟩ := h
    have e := evG_wp tabLa_ok follows (l09Awake_p0 ) trivial φ vs w ha
    simpa only [l09Awake] using e
  · cases h
theorem l09Awake_en : Enters Try.prog 58 := fun args => by kernel_rfl

def tabLb : Tab := (31, fClamp_c) :: (76, eNear_c) :: (47, rSide_c) :: (51, bCols_c) :: (52, bRows_c) :: (81, rAdd_c) :: (58, l09Awake_c) :: tabLa
theorem tabLb_ok : TOK Try.prog tabLb := TOK.cons fClamp_en fClamp_ok (TOK.cons eNear_en eNear_ok (TOK.cons rSide_en rSide_ok (TOK.cons bCols_en bCols_ok (TOK.cons bRows_en bRows_ok (TOK.cons rAdd_en rAdd_ok (TOK.cons l09Awake_en l09Awake_ok (tabLa_ok)))))))

end Go.Proofs.Ythgjacfikicgnaa
