/-
  Contracts of functions of the program, each run on the local memory (printed by a program of this session's own: wip/tools).
-/
import Derived.Test.YtcdejlgophpdjaaWa2
namespace Go.Proofs.Ytcdejlgophpdjaa
open Go Go.RowKit Go.Proofs.Ytcdejlgophpdjaa.V
set_option linter.unusedVariables false

/-! (*azulejo/wire.Writer).Put -/
def wPut0_s0 (b0 : Int) (b1 : Int) (b2 : Int) (b3 : Int) (b4 : Int) (b5 : Int) (b6 : Int) (b7 : Int) (b8 : Int) (b9 : Int) (b10 : Int) (b11 : Int) (b12 : Int) (b13 : Int) (b14 : Int) : List (List Int) := [[b0], [b1], [b2], [b3], [b4], [b5], [b6], [b7], [b8], [b9], [b10], [b11], [b12], [b13], [b14]]
def wPut0_0 (b0 : Int) (b1 : Int) (b2 : Int) (b3 : Int) (b4 : Int) (b5 : Int) (b6 : Int) (b7 : Int) (b8 : Int) (b9 : Int) (b10 : Int) (b11 : Int) (b12 : Int) (b13 : Int) (b14 : Int) : List (List Int) := wPut0_s0 b0 b1 b2 b3 b4 b5 b6 b7 b8 b9 b10 b11 b12 b13 b14
def wPut0_o (r1 : Bool) (b0 : Int) (b1 : Int) (b2 : Int) (b3 : Int) (b4 : Int) (b5 : Int) (b6 : Int) (b7 : Int) (b8 : Int) (b9 : Int) (b10 : Int) (b11 : Int) (b12 : Int) (b13 : Int) (b14 : Int) : List Prop := [List.length (wPut0_s0 b0 b1 b2 b3 b4 b5 b6 b7 b8 b9 b10 b11 b12 b13 b14) * (1 : Nat) ≤ (70368744177664 : Nat)]
theorem wPut0_p (r1 : Bool) (b0 : Int) (b1 : Int) (b2 : Int) (b3 : Int) (b4 : Int) (b5 : Int) (b6 : Int) (b7 : Int) (b8 : Int) (b9 : Int) (b10 : Int) (b11 : Int) (b12 : Int) (b13 : Int) (b14 : Int) : evG Try.prog tabWa2 2000 115 [0, 1, 5] [] [0] [.a (.ptr 0 0), .a (.slc false 1 0 0 1 0 15)] [⟨⟨0, 1, false, none⟩, [some .nils]⟩, ⟨⟨0, 15, r1, none⟩, [some (.int true .u8 b0), some (.int true .u8 b1), some (.int true .u8 b2), some (.int true .u8 b3), some (.int true .u8 b4), some (.int true .u8 b5), some (.int true .u8 b6), some (.int true .u8 b7), some (.int true .u8 b8), some (.int true .u8 b9), some (.int true .u8 b10), some (.int true .u8 b11), some (.int true .u8 b12), some (.int true .u8 b13), some (.int true .u8 b14)]⟩] = some (wPut0_o r1 b0 b1 b2 b3 b4 b5 b6 b7 b8 b9 b10 b11 b12 b13 b14, LV.t [], [some (BC.mk (Hd.mk (nat_lit 0) (nat_lit 1) false none) [some (At.vec (nat_lit 2) (nat_lit 0) (nat_lit 1))]), none, some (BC.mk (Hd.mk (nat_lit 0) (nat_lit 0) false (some (Rw.mk (nat_lit 0) [Kd.int IntKind.u8] (wPut0_0 b0 b1 b2 b3 b4 b5 b6 b7 b8 b9 b10 b11 b12 b13 b14) none))) [])]) := by kernel_rfl
def wPut0_c : Con
  | [.a (.ptr 0 0), .a (.slc false 1 0 0 1 0 15)], [⟨⟨0, 1, false, none⟩, [some .nils]⟩, ⟨⟨0, 15, r1, none⟩, [some (.int true .u8 b0), some (.int true .u8 b1), some (.int true .u8 b2), some (.int true .u8 b3), some (.int true .u8 b4), some (.int true .u8 b5), some (.int true .u8 b6), some (.int true .u8 b7), some (.int true .u8 b8), some (.int true .u8 b9), some (.int true .u8 b10), some (.int true .u8 b11), some (.int true .u8 b12), some (.int true .u8 b13), some (.int true .u8 b14)]⟩] => some (wPut0_o r1 b0 b1 b2 b3 b4 b5 b6 b7 b8 b9 b10 b11 b12 b13 b14, LV.t [], [some (BC.mk (Hd.mk (nat_lit 0) (nat_lit 1) false none) [some (At.vec (nat_lit 2) (nat_lit 0) (nat_lit 1))]), none, some (BC.mk (Hd.mk (nat_lit 0) (nat_lit 0) false (some (Rw.mk (nat_lit 0) [Kd.int IntKind.u8] (wPut0_0 b0 b1 b2 b3 b4 b5 b6 b7 b8 b9 b10 b11 b12 b13 b14) none))) [])])
  | _, _ => none
theorem wPut0_ok : ConOK Try.prog 115 (normC wPut0_c) := normC_ok (by
  intro args bs obs lv out h ho φ vs w may ha hM
  unfold wPut0_c at h
  split at h
  · simp only [Option.some.injEq, Prod.mk.injEq] at h
    obtain ⟨rfl, rfl, rfl⟩ := h
    rename_i r1 b0 b1 b2 b3 b4 b5 b6 b7 b8 b9 b10 b11 b12 b13 b14
    exact evG_ok tabWa2_ok follows _ _ _ _ _ (wPut0_p r1 b0 b1 b2 b3 b4 b5 b6 b7 b8 b9 b10 b11 b12 b13 b14) ho φ vs w may ha hM
  · cases h)
theorem wPut0_en : Enters Try.prog 115 := fun args => by kernel_rfl
-- 163 6 7 ms

/-! (*azulejo/wire.Writer).Bytes -/
def wBytes_s0 (l : List (List Int)) : List (List Int) := [] ++ l
def wBytes_o (r0 : Bool) (r1 : Bool) (l : List (List Int)) : List Prop := [List.length (wBytes_s0 l) * (1 : Nat) ≤ (70368744177664 : Nat)]
theorem wBytes_p (r0 : Bool) (r1 : Bool) (l : List (List Int)) : evG Try.prog tabWa2 2000 56 [0, 2, 4] [] [] [.a (.ptr 0 0)] [⟨⟨0, 1, r0, none⟩, [some (.vec 1 0 1)]⟩, ⟨⟨0, 0, r1, some ⟨0, [.int .u8], l, none⟩⟩, []⟩] = some (wBytes_o r0 r1 l, LV.a (At.vec (nat_lit 2) (nat_lit 1) (nat_lit 1)), [none, none, some (BC.mk (Hd.mk (nat_lit 1) (nat_lit 0) false (some (Rw.mk (nat_lit 0) [Kd.int IntKind.u8] (wBytes_s0 l) none))) [])]) := by kernel_rfl
def wBytes_c : Con
  | [.a (.ptr 0 0)], [⟨⟨0, 1, r0, none⟩, [some (.vec 1 0 1)]⟩, ⟨⟨0, 0, r1, some ⟨0, [.int .u8], l, none⟩⟩, []⟩] => some (wBytes_o r0 r1 l, LV.a (At.vec (nat_lit 2) (nat_lit 1) (nat_lit 1)), [none, none, some (BC.mk (Hd.mk (nat_lit 1) (nat_lit 0) false (some (Rw.mk (nat_lit 0) [Kd.int IntKind.u8] (wBytes_s0 l) none))) [])])
  | _, _ => none
theorem wBytes_ok : ConOK Try.prog 56 (normC wBytes_c) := normC_ok (by
  intro args bs obs lv out h ho φ vs w may ha hM
  unfold wBytes_c at h
  split at h
  · simp only [Option.some.injEq, Prod.mk.injEq] at h
    obtain ⟨rfl, rfl, rfl⟩ := h
    rename_i r0 r1 l
    exact evG_ok tabWa2_ok follows _ _ _ _ _ (wBytes_p r0 r1 l) ho φ vs w may ha hM
  · cases h)
theorem wBytes_en : Enters Try.prog 56 := fun args => by kernel_rfl
-- 137 5 2 ms

/-! (*azulejo/wire.Writer).Len -/
def wLen_0 (l : List (List Int)) : Int := Int.ofNat (List.length l)
theorem wLen_p (r0 : Bool) (r1 : Bool) (l : List (List Int)) : evG Try.prog tabWa2 2000 65 [0, 2, 4] [] [] [.a (.ptr 0 0)] [⟨⟨0, 1, r0, none⟩, [some (.vec 1 0 1)]⟩, ⟨⟨0, 0, r1, some ⟨0, [.int .u8], l, none⟩⟩, []⟩] = some ([], LV.a (At.int true IntKind.i64 (wLen_0 l)), [none, none]) := by kernel_rfl
def wLen_c : Con
  | [.a (.ptr 0 0)], [⟨⟨0, 1, r0, none⟩, [some (.vec 1 0 1)]⟩, ⟨⟨0, 0, r1, some ⟨0, [.int .u8], l, none⟩⟩, []⟩] => some ([], LV.a (At.int true IntKind.i64 (wLen_0 l)), [none, none])
  | _, _ => none
theorem wLen_ok : ConOK Try.prog 65 (normC wLen_c) := normC_ok (by
  intro args bs obs lv out h ho φ vs w may ha hM
  unfold wLen_c at h
  split at h
  · simp only [Option.some.injEq, Prod.mk.injEq] at h
    obtain ⟨rfl, rfl, rfl⟩ := h
    rename_i r0 r1 l
    exact evG_ok tabWa2_ok follows _ _ _ _ _ (wLen_p r0 r1 l) ho φ vs w may ha hM
  · cases h)
theorem wLen_en : Enters Try.prog 65 := fun args => by kernel_rfl
-- 151 1 2 ms

/-! azulejo/wire.Read -/
def wRead_0 : Int := (0 : Int)
def wRead_1 : Int := (0 : Int)
def wRead_s0 (l : List (List Int)) : List (List Int) := [] ++ l
def wRead_o (r0 : Bool) (l : List (List Int)) : List Prop := [List.length (wRead_s0 l) * (1 : Nat) ≤ (70368744177664 : Nat)]
theorem wRead_p (r0 : Bool) (l : List (List Int)) : evG Try.prog tabWa2 2000 57 [0, 2] [] [] [.a (.vec 0 0 1)] [⟨⟨0, 0, r0, some ⟨0, [.int .u8], l, none⟩⟩, []⟩] = some (wRead_o r0 l, LV.a (At.ptr (nat_lit 1) (nat_lit 0)), [none, some (BC.mk (Hd.mk (nat_lit 0) (nat_lit 3) false none) [some (At.vec (nat_lit 2) (nat_lit 1) (nat_lit 1)), some (At.int false IntKind.i64 wRead_0), some (At.int false IntKind.i64 wRead_1)]), some (BC.mk (Hd.mk (nat_lit 1) (nat_lit 0) false (some (Rw.mk (nat_lit 0) [Kd.int IntKind.u8] (wRead_s0 l) none))) [])]) := by kernel_rfl
def wRead_c : Con
  | [.a (.vec 0 0 1)], [⟨⟨0, 0, r0, some ⟨0, [.int .u8], l, none⟩⟩, []⟩] => some (wRead_o r0 l, LV.a (At.ptr (nat_lit 1) (nat_lit 0)), [none, some (BC.mk (Hd.mk (nat_lit 0) (nat_lit 3) false none) [some (At.vec (nat_lit 2) (nat_lit 1) (nat_lit 1)), some (At.int false IntKind.i64 wRead_0), some (At.int false IntKind.i64 wRead_1)]), some (BC.mk (Hd.mk (nat_lit 1) (nat_lit 0) false (some (Rw.mk (nat_lit 0) [Kd.int IntKind.u8] (wRead_s0 l) none))) [])])
  | _, _ => none
theorem wRead_ok : ConOK Try.prog 57 (normC wRead_c) := normC_ok (by
  intro args bs obs lv out h ho φ vs w may ha hM
  unfold wRead_c at h
  split at h
  · simp only [Option.some.injEq, Prod.mk.injEq] at h
    obtain ⟨rfl, rfl, rfl⟩ := h
    rename_i r0 l
    exact evG_ok tabWa2_ok follows _ _ _ _ _ (wRead_p r0 l) ho φ vs w may ha hM
  · cases h)
theorem wRead_en : Enters Try.prog 57 := fun args => by kernel_rfl
-- 156 13 3 ms

/-! (*azulejo/wire.Reader).Left -/
def wLeft_0 (xa : Int) (xe : Int) (l : List (List Int)) : Int := bif xe != (0 : Int) then (0 : Int) else IntKind.wrap IntKind.i64 (Int.ofNat (List.length l) - xa)
theorem wLeft_p (r0 : Bool) (xa : Int) (xe : Int) (r1 : Bool) (l : List (List Int)) : evG Try.prog tabWa2 2000 133 [0, 2, 11] [] [] [.a (.ptr 0 0)] [⟨⟨0, 3, r0, none⟩, [some (.vec 1 0 1), some (.int true .i64 xa), some (.int true .i64 xe)]⟩, ⟨⟨0, 0, r1, some ⟨0, [.int .u8], l, none⟩⟩, []⟩] = some ([], LV.a (At.int true IntKind.i64 (wLeft_0 xa xe l)), [none, none]) := by kernel_rfl
def wLeft_c : Con
  | [.a (.ptr 0 0)], [⟨⟨0, 3, r0, none⟩, [some (.vec 1 0 1), some (.int true .i64 xa), some (.int true .i64 xe)]⟩, ⟨⟨0, 0, r1, some ⟨0, [.int .u8], l, none⟩⟩, []⟩] => some ([], LV.a (At.int true IntKind.i64 (wLeft_0 xa xe l)), [none, none])
  | _, _ => none
theorem wLeft_ok : ConOK Try.prog 133 (normC wLeft_c) := normC_ok (by
  intro args bs obs lv out h ho φ vs w may ha hM
  unfold wLeft_c at h
  split at h
  · simp only [Option.some.injEq, Prod.mk.injEq] at h
    obtain ⟨rfl, rfl, rfl⟩ := h
    rename_i r0 xa xe r1 l
    exact evG_ok tabWa2_ok follows _ _ _ _ _ (wLeft_p r0 xa xe r1 l) ho φ vs w may ha hM
  · cases h)
theorem wLeft_en : Enters Try.prog 133 := fun args => by kernel_rfl
-- 189 8 3 ms

/-! (*azulejo/wire.Reader).Err -/
theorem wErr_p (r0 : Bool) (xa : Int) (xe : Int) (r1 : Bool) (l : List (List Int)) : evG Try.prog tabWa2 2000 59 [0, 2, 4] [] [] [.a (.ptr 0 0)] [⟨⟨0, 3, r0, none⟩, [some (.vec 1 0 1), some (.int true .i64 xa), some (.int true .i64 xe)]⟩, ⟨⟨0, 0, r1, some ⟨0, [.int .u8], l, none⟩⟩, []⟩] = some ([], LV.a (At.int true IntKind.i64 xe), [none, none]) := by kernel_rfl
def wErr_c : Con
  | [.a (.ptr 0 0)], [⟨⟨0, 3, r0, none⟩, [some (.vec 1 0 1), some (.int true .i64 xa), some (.int true .i64 xe)]⟩, ⟨⟨0, 0, r1, some ⟨0, [.int .u8], l, none⟩⟩, []⟩] => some ([], LV.a (At.int true IntKind.i64 xe), [none, none])
  | _, _ => none
theorem wErr_ok : ConOK Try.prog 59 (normC wErr_c) := normC_ok (by
  intro args bs obs lv out h ho φ vs w may ha hM
  unfold wErr_c at h
  split at h
  · simp only [Option.some.injEq, Prod.mk.injEq] at h
    obtain ⟨rfl, rfl, rfl⟩ := h
    rename_i r0 xa xe r1 l
    exact evG_ok tabWa2_ok follows _ _ _ _ _ (wErr_p r0 xa xe r1 l) ho φ vs w may ha hM
  · cases h)
theorem wErr_en : Enters Try.prog 59 := fun args => by kernel_rfl
-- 96 0 0 ms

/-! (*azulejo/wire.Reader).Fail -/
def wFail_0 (x1 : Int) (xe : Int) : Int := bif xe == (0 : Int) then x1 else xe
theorem wFail_p (x1 : Int) (xa : Int) (xe : Int) (r1 : Bool) (l : List (List Int)) : evG Try.prog tabWa2 2000 117 [0, 1, 12] [] [0] [.a (.ptr 0 0), .a (.int true .i64 x1)] [⟨⟨0, 3, false, none⟩, [some (.vec 1 0 1), some (.int true .i64 xa), some (.int true .i64 xe)]⟩, ⟨⟨0, 0, r1, some ⟨0, [.int .u8], l, none⟩⟩, []⟩] = some ([], LV.t [], [some (BC.mk (Hd.mk (nat_lit 0) (nat_lit 3) false none) [some (At.vec (nat_lit 1) (nat_lit 0) (nat_lit 1)), some (At.int true IntKind.i64 xa), some (At.int true IntKind.i64 (wFail_0 x1 xe))]), none]) := by kernel_rfl
def wFail_c : Con
  | [.a (.ptr 0 0), .a (.int true .i64 x1)], [⟨⟨0, 3, false, none⟩, [some (.vec 1 0 1), some (.int true .i64 xa), some (.int true .i64 xe)]⟩, ⟨⟨0, 0, r1, some ⟨0, [.int .u8], l, none⟩⟩, []⟩] => some ([], LV.t [], [some (BC.mk (Hd.mk (nat_lit 0) (nat_lit 3) false none) [some (At.vec (nat_lit 1) (nat_lit 0) (nat_lit 1)), some (At.int true IntKind.i64 xa), some (At.int true IntKind.i64 (wFail_0 x1 xe))]), none])
  | _, _ => none
theorem wFail_ok : ConOK Try.prog 117 (normC wFail_c) := normC_ok (by
  intro args bs obs lv out h ho φ vs w may ha hM
  unfold wFail_c at h
  split at h
  · simp only [Option.some.injEq, Prod.mk.injEq] at h
    obtain ⟨rfl, rfl, rfl⟩ := h
    rename_i x1 xa xe r1 l
    exact evG_ok tabWa2_ok follows _ _ _ _ _ (wFail_p x1 xa xe r1 l) ho φ vs w may ha hM
  · cases h)
theorem wFail_en : Enters Try.prog 117 := fun args => by kernel_rfl
-- 117 25 2 ms

def tabWb1 : Tab := (115, normC wPut0_c) :: (56, normC wBytes_c) :: (65, normC wLen_c) :: (57, normC wRead_c) :: (133, normC wLeft_c) :: (59, normC wErr_c) :: (117, normC wFail_c) :: tabWa2
theorem tabWb1_ok : TOK Try.prog tabWb1 := TOK.cons wPut0_en wPut0_ok (TOK.cons wBytes_en wBytes_ok (TOK.cons wLen_en wLen_ok (TOK.cons wRead_en wRead_ok (TOK.cons wLeft_en wLeft_ok (TOK.cons wErr_en wErr_ok (TOK.cons wFail_en wFail_ok (tabWa2_ok)))))))

end Go.Proofs.Ytcdejlgophpdjaa
