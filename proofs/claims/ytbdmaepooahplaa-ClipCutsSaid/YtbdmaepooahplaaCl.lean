/-
  The law on what is cut off.
-/
import Derived.Test.YtbdmaepooahplaaCi
import Derived.Test.YtbdmaepooahplaaCk
import Derived.Test.YtbdmaepooahplaaCd1
namespace Go.Proofs.Ytbdmaepooahplaa
open Go Go.RowKit Go.Proofs.Ytbdmaepooahplaa.V
set_option linter.unusedVariables false
set_option linter.unusedSectionVars false

def bP (k : Int) (l : List (List Int)) : List (List Int) := byG (insP k) (crP k) l
theorem bP_gd {l : List (List Int)} (h : Gl l) (k : Int) : Gl (bP k l) := byG_gd h k
theorem bP_len {l : List (List Int)} {n : Nat} (h : l.length ≤ n) (k : Int) : (bP k l).length ≤ 2 * n := by
  have := byG_len (insP k) (crP k) l
  unfold bP; omega

/-- Vertices within bounds, three or less. -/
structure G3 (l : List (List Int)) : Prop where
  g : Gl l
  n : l.length ≤ 3

section
variable {l : List (List Int)} (h : G3 l)
include h
theorem g1 : Gl (bP 0 l) ∧ (bP 0 l).length ≤ 6 := ⟨bP_gd h.g _, bP_len h.n _⟩
theorem g2 : Gl (bP 1 (bP 0 l)) ∧ (bP 1 (bP 0 l)).length ≤ 12 := ⟨bP_gd (g1 h).1 _, bP_len (g1 h).2 _⟩
theorem g3 : Gl (bP 2 (bP 1 (bP 0 l))) ∧ (bP 2 (bP 1 (bP 0 l))).length ≤ 24 := ⟨bP_gd (g2 h).1 _, bP_len (g2 h).2 _⟩
theorem g4 : Gl (bP 3 (bP 2 (bP 1 (bP 0 l)))) ∧ (bP 3 (bP 2 (bP 1 (bP 0 l)))).length ≤ 48 := ⟨bP_gd (g3 h).1 _, bP_len (g3 h).2 _⟩
theorem g5 : Gl (bP 4 (bP 3 (bP 2 (bP 1 (bP 0 l))))) ∧ (bP 4 (bP 3 (bP 2 (bP 1 (bP 0 l))))).length ≤ 96 := ⟨bP_gd (g4 h).1 _, bP_len (g4 h).2 _⟩
theorem g6 : Gl (bP 5 (bP 4 (bP 3 (bP 2 (bP 1 (bP 0 l)))))) ∧ (bP 5 (bP 4 (bP 3 (bP 2 (bP 1 (bP 0 l)))))).length ≤ 192 := ⟨bP_gd (g5 h).1 _, bP_len (g5 h).2 _⟩
end
def p7 (l : List (List Int)) : List (List Int) := bP 6 (bP 5 (bP 4 (bP 3 (bP 2 (bP 1 (bP 0 l))))))
theorem g7 {l : List (List Int)} (h : G3 l) : Gl (p7 l) ∧ (p7 l).length ≤ 384 := ⟨bP_gd (g6 h).1 _, bP_len (g6 h).2 _⟩

theorem by7_eq {l : List (List Int)} (h : G3 l) : by7 l = p7 l := by
  unfold by7
  rw [byG_C h.g]
  rw [show byG (insP 0) (crP 0) l = bP 0 l from rfl, byG_C (g1 h).1]
  rw [show byG (insP 1) (crP 1) (bP 0 l) = bP 1 (bP 0 l) from rfl, byG_C (g2 h).1]
  rw [show byG (insP 2) (crP 2) (bP 1 (bP 0 l)) = bP 2 (bP 1 (bP 0 l)) from rfl, byG_C (g3 h).1]
  rw [show byG (insP 3) (crP 3) (bP 2 (bP 1 (bP 0 l))) = bP 3 (bP 2 (bP 1 (bP 0 l))) from rfl, byG_C (g4 h).1]
  rw [show byG (insP 4) (crP 4) (bP 3 (bP 2 (bP 1 (bP 0 l)))) = bP 4 (bP 3 (bP 2 (bP 1 (bP 0 l)))) from rfl, byG_C (g5 h).1]
  rw [show byG (insP 5) (crP 5) (bP 4 (bP 3 (bP 2 (bP 1 (bP 0 l))))) = bP 5 (bP 4 (bP 3 (bP 2 (bP 1 (bP 0 l))))) from rfl, byG_C (g6 h).1]
  rfl

/-- One of the reference's rounds. -/
theorem rr_run {k : Int} {l : List (List Int)} (hg : Gl l) (hl : l.length ≤ 1000000) (l0 : 0 ≤ k) (g : k ≤ 6) : lrun r12Clip_l3365_st 18446744073709551616 (r12Clip_l3365_T.mk k 0 (decide (k < 7)) l []) = some (.e 2, .mk k (Int.ofNat l.length) (decide (k < 7)) l (bP k l)) := by
  rw [rb_run k hl, byG_R hg l0 g]; rfl

theorem rs0 : r12Clip_s0 = 1 := by decide
theorem rs1 : r12Clip_s1 = 2 := by decide
theorem rs2 : r12Clip_s2 = 3 := by decide
theorem rs3 : r12Clip_s3 = 4 := by decide
theorem rs4 : r12Clip_s4 = 5 := by decide
theorem rs5 : r12Clip_s5 = 6 := by decide

section
variable {l : List (List Int)} (h : G3 l)
include h
theorem r6 : r12Clip_s6 l = some (.e 2, .mk 0 (Int.ofNat l.length) (decide ((0 : Int) < 7)) l (bP 0 l)) := rr_run h.g (Nat.le_trans h.n (by omega)) (by omega) (by omega)
theorem r7 : r12Clip_s7 l = some (.e 2, .mk 1 (Int.ofNat (bP 0 l).length) (decide ((1 : Int) < 7)) (bP 0 l) (bP 1 (bP 0 l))) := by
  unfold r12Clip_s7; rw [r6 h, rs0]; exact rr_run (g1 h).1 (Nat.le_trans (g1 h).2 (by omega)) (by omega) (by omega)
theorem r8' : r12Clip_s8 l = some (.e 2, .mk 2 (Int.ofNat (bP 1 (bP 0 l)).length) (decide ((2 : Int) < 7)) (bP 1 (bP 0 l)) (bP 2 (bP 1 (bP 0 l)))) := by
  unfold r12Clip_s8; rw [r7 h, rs1]; exact rr_run (g2 h).1 (Nat.le_trans (g2 h).2 (by omega)) (by omega) (by omega)
theorem r9 : r12Clip_s9 l = some (.e 2, .mk 3 (Int.ofNat (bP 2 (bP 1 (bP 0 l))).length) (decide ((3 : Int) < 7)) (bP 2 (bP 1 (bP 0 l))) (bP 3 (bP 2 (bP 1 (bP 0 l))))) := by
  unfold r12Clip_s9; rw [r8' h, rs2]; exact rr_run (g3 h).1 (Nat.le_trans (g3 h).2 (by omega)) (by omega) (by omega)
theorem r10 : r12Clip_s10 l = some (.e 2, .mk 4 (Int.ofNat (bP 3 (bP 2 (bP 1 (bP 0 l)))).length) (decide ((4 : Int) < 7)) (bP 3 (bP 2 (bP 1 (bP 0 l)))) (bP 4 (bP 3 (bP 2 (bP 1 (bP 0 l)))))) := by
  unfold r12Clip_s10; rw [r9 h, rs3]; exact rr_run (g4 h).1 (Nat.le_trans (g4 h).2 (by omega)) (by omega) (by omega)
theorem r11 : r12Clip_s11 l = some (.e 2, .mk 5 (Int.ofNat (bP 4 (bP 3 (bP 2 (bP 1 (bP 0 l))))).length) (decide ((5 : Int) < 7)) (bP 4 (bP 3 (bP 2 (bP 1 (bP 0 l))))) (bP 5 (bP 4 (bP 3 (bP 2 (bP 1 (bP 0 l))))))) := by
  unfold r12Clip_s11; rw [r10 h, rs4]; exact rr_run (g5 h).1 (Nat.le_trans (g5 h).2 (by omega)) (by omega) (by omega)
theorem r12' : r12Clip_s12 l = some (.e 2, .mk 6 (Int.ofNat (bP 5 (bP 4 (bP 3 (bP 2 (bP 1 (bP 0 l)))))).length) (decide ((6 : Int) < 7)) (bP 5 (bP 4 (bP 3 (bP 2 (bP 1 (bP 0 l)))))) (p7 l)) := by
  unfold r12Clip_s12; rw [r11 h, rs5]; exact rr_run (g6 h).1 (Nat.le_trans (g6 h).2 (by omega)) (by omega) (by omega)
end

/-! The reference's last round. -/
def fR (r : List Int) : List Int := bif decide (r.getD 3 0 < 256) then wr r 3 [256] else r
def fzS (l : List (List Int)) (i : Nat) : r12Clip_l61_T3 := .mk (Int.ofNat i) (fixN fR l i)
theorem fz_1 {l : List (List Int)} {i : Nat} : r12Clip_l61_s1 (fzS l i) = decide (i < l.length) := by
  have e : (fzS l i).a1.length = l.length := fixN_len _ _ _
  unfold r12Clip_l61_s1
  rw [e]
  show decide (Int.ofNat i < Int.ofNat l.length) = _
  by_cases h : i < l.length
  · rw [decide_eq_true h]; exact decide_eq_true (by simpa using h)
  · rw [decide_eq_false h]; exact decide_eq_false (by simpa using h)
theorem set_self {l : List (List Int)} {i : Nat} (h : i < l.length) : l.set i (l.getD i []) = l := by
  rw [List.getD_eq_getElem?_getD, List.getElem?_eq_getElem h]
  exact List.set_getElem_self h
theorem fz_step {l : List (List Int)} (hl : l.length ≤ 1000000) {i : Nat} (h : i < l.length) : pick1 (r12Clip_l61_st (fzS l i)).2 = some (.n, fzS l (i + 1)) := by
  unfold r12Clip_l61_st
  rw [fz_1, decide_eq_true h]
  simp only [pick1, Bool.not_true]
  have e1 : IntKind.wrap .i64 (r12Clip_l61_T3.a0 (fzS l i) + 1) = Int.ofNat (i + 1) := by
    have e : Int.ofNat i = (i : Int) := rfl
    show IntKind.wrap .i64 (Int.ofNat i + 1) = _
    rw [w64_in (by omega) (by omega)]; rfl
  have e2 : (bif r12Clip_l61_s2 (fzS l i) then rset (r12Clip_l61_T3.a1 (fzS l i)) (Int.toNat (r12Clip_l61_T3.a0 (fzS l i))) 3 [256] else r12Clip_l61_T3.a1 (fzS l i)) = fixN fR l (i + 1) := by
    show (bif decide (((fixN fR l i).getD i []).getD 3 0 < 256) then (fixN fR l i).set i (wr ((fixN fR l i).getD i []) 3 [256]) else fixN fR l i) = (fixN fR l i).set i (bif decide (((fixN fR l i).getD i []).getD 3 0 < 256) then wr ((fixN fR l i).getD i []) 3 [256] else (fixN fR l i).getD i [])
    cases decide (((fixN fR l i).getD i []).getD 3 0 < 256)
    · simp only [cond_false]; exact (set_self (by rw [fixN_len]; exact h)).symm
    · rfl
  rw [e1, e2]
  rfl
theorem fz_end {l : List (List Int)} : pick1 (r12Clip_l61_st (fzS l l.length)).2 = some (.e 4, fzS l l.length) := by
  unfold r12Clip_l61_st
  rw [fz_1, decide_eq_false (by omega)]
  rfl
theorem fz_obs {l : List (List Int)} {i : Nat} (h : i ≤ l.length) : Alls (r12Clip_l61_st (fzS l i)).1 := by
  unfold r12Clip_l61_st
  rw [fz_1]
  by_cases g : i < l.length
  · rw [decide_eq_true g]
    have n2 : Int.ofNat (fixN fR l i).length = (l.length : Int) := by rw [fixN_len]; rfl
    have n3 : Int.ofNat i = (i : Int) := rfl
    have e2 : (fzS l i).a0 = Int.ofNat i := rfl
    have e3 : (fzS l i).a1 = fixN fR l i := rfl
    rw [e2, e3, n2, n3]
    exact ⟨fun _ => ⟨by omega, by omega⟩, fun _ _ => ⟨by omega, by omega⟩, trivial⟩
  · rw [decide_eq_false g]
    exact ⟨nofun, nofun, trivial⟩
theorem fz_eq {l : List (List Int)} (hl : l.length ≤ 1000000) : r12Clip_l61_T3.a1 (V.valOf (lrun r12Clip_l61_st 18446744073709551616 (r12Clip_l61_T3.mk 0 l))) = l.map fR := by
  have := lrun_count (st := r12Clip_l61_st) (s := fzS l) (n := l.length) (fun i h => fz_step hl h) fz_end nofun l.length 0 (by omega) 18446744073709551616 (by omega)
  have e : fzS l 0 = r12Clip_l61_T3.mk 0 l := rfl
  rw [e] at this
  rw [this]
  show fixN fR l l.length = _
  exact fixN_all _ _
theorem fz_lok {l : List (List Int)} (hl : l.length ≤ 1000000) : lok r12Clip_l61_st 18446744073709551616 (r12Clip_l61_T3.mk 0 l) :=
  lok_count (st := r12Clip_l61_st) (s := fzS l) (n := l.length) (fun i h => fz_step hl h) fz_end nofun (fun i h => fz_obs h) l.length 0 (by omega) 18446744073709551616 (by omega)

theorem fR_eq {r : List Int} (h : Gd r) : fR r = fixR r := by
  obtain ⟨e, ⟨h0, h1, h2, h3⟩, h4, h5, h6, h7⟩ := h
  unfold fixR
  rw [fwi, fwi, fwi, fwi, wi_id h0, wi_id h1, wi_id h2, wi_id h3, col0_id h4, col1_id h5, col2_id h6, col3_id h7]
  unfold fR
  by_cases g : r.getD 3 0 < 256
  · rw [decide_eq_true g, if_pos g]
    conv => lhs; rw [← e]
    rfl
  · rw [decide_eq_false g, if_neg g]
    conv => lhs; rw [← e]
    rfl

theorem dec3 (n : Nat) : decide (Int.ofNat n < 3) = decide (n < 3) := by
  have e : Int.ofNat n = (n : Int) := rfl
  by_cases h : n < 3
  · rw [decide_eq_true h]; exact decide_eq_true (by omega)
  · rw [decide_eq_false h]; exact decide_eq_false (by omega)
theorem dec16 (n : Nat) : decide (16 < Int.ofNat n) = decide (16 < n) := by
  have e : Int.ofNat n = (n : Int) := rfl
  by_cases h : 16 < n
  · rw [decide_eq_true h]; exact decide_eq_true (by omega)
  · rw [decide_eq_false h]; exact decide_eq_false (by omega)

theorem rclip_eq {l : List (List Int)} (h : G3 l) : r12Clip_0 l = clipG l := by
  unfold r12Clip_0 r12Clip_s14 clipG
  rw [r12' h, by7_eq h]
  have e4 : r12Clip_l3365_T.a4 (V.valOf (some (X.e 2, r12Clip_l3365_T.mk 6 (Int.ofNat (bP 5 (bP 4 (bP 3 (bP 2 (bP 1 (bP 0 l)))))).length) (decide ((6 : Int) < 7)) (bP 5 (bP 4 (bP 3 (bP 2 (bP 1 (bP 0 l)))))) (p7 l)))) = p7 l := rfl
  rw [e4, fz_eq (Nat.le_trans (g7 h).2 (by omega)), dec3, dec16]
  rw [List.map_congr_left (fun r hr => fR_eq ((g7 h).1 r hr))]

theorem clipG_len (l : List (List Int)) : (clipG l).length ≤ 16 := by
  unfold clipG
  by_cases h : 16 < (by7 l).length
  · rw [decide_eq_true h]
    cases decide ((by7 l).length < 3) <;> simp
  · cases decide ((by7 l).length < 3)
    · rw [decide_eq_false h]; simp only [cond_false, List.length_map]; omega
    · simp

/-! Two lists compared with themselves. -/
def cmS (l : List (List Int)) (i : Nat) : lCuts_l509_T := .mk false (Int.ofNat l.length) (Int.ofNat i) l l
theorem cm_0 {l : List (List Int)} {i : Nat} : lCuts_l509_s0 (cmS l i) = decide (i < l.length) := by
  simp only [lCuts_l509_s0, cmS]
  by_cases h : i < l.length
  · rw [decide_eq_true h]; exact decide_eq_true (by simpa using h)
  · rw [decide_eq_false h]; exact decide_eq_false (by simpa using h)
theorem cm_1 {l : List (List Int)} {i : Nat} : lCuts_l509_s1 (cmS l i) = false := by
  simp only [lCuts_l509_s1, cmS, beq_self_eq_true, Bool.and_self, Bool.not_true]
theorem cm_2 {l : List (List Int)} {i : Nat} : lCuts_l509_s2 (cmS l i) = false := by
  unfold lCuts_l509_s2
  rw [cm_1]
  simp only [cmS, beq_self_eq_true, Bool.and_self, Bool.not_true, cond_false]
theorem cm_step {l : List (List Int)} (hl : l.length ≤ 1000000) {i : Nat} (h : i < l.length) : pick1 (lCuts_l509_st (cmS l i)).2 = some (.n, cmS l (i + 1)) := by
  unfold lCuts_l509_st
  rw [cm_0, decide_eq_true h, cm_2]
  simp only [pick1, Bool.not_true, Bool.not_false, Bool.and_false, Bool.and_self]
  have e1 : IntKind.wrap .i64 (lCuts_l509_T.a2 (cmS l i) + 1) = Int.ofNat (i + 1) := by
    have e : Int.ofNat i = (i : Int) := rfl
    show IntKind.wrap .i64 (Int.ofNat i + 1) = _
    rw [w64_in (by omega) (by omega)]; rfl
  rw [e1]
  rfl
theorem cm_end {l : List (List Int)} : pick1 (lCuts_l509_st (cmS l l.length)).2 = some (.e 0, cmS l l.length) := by
  unfold lCuts_l509_st
  rw [cm_0, decide_eq_false (by omega)]
  rfl
theorem cm_obs {l : List (List Int)} {i : Nat} (h : i ≤ l.length) : Alls (lCuts_l509_st (cmS l i)).1 := by
  unfold lCuts_l509_st
  rw [cm_0]
  by_cases g : i < l.length
  · rw [decide_eq_true g]
    have n2 : Int.ofNat l.length = (l.length : Int) := rfl
    have n3 : Int.ofNat i = (i : Int) := rfl
    have e2 : (cmS l i).a2 = Int.ofNat i := rfl
    have e3 : (cmS l i).a3 = l := rfl
    have e4 : (cmS l i).a4 = l := rfl
    rw [e2, e3, e4, n2, n3]
    exact ⟨fun _ => ⟨by omega, by omega⟩, fun _ => ⟨by omega, by omega⟩, fun _ _ => ⟨by omega, by omega⟩, fun _ _ => ⟨by omega, by omega⟩, trivial⟩
  · rw [decide_eq_false g]
    exact ⟨nofun, nofun, nofun, nofun, trivial⟩
theorem cm_run {l : List (List Int)} (hl : l.length ≤ 1000000) : lrun lCuts_l509_st 18446744073709551616 (lCuts_l509_T.mk false (Int.ofNat l.length) 0 l l) = some (.e 0, cmS l l.length) :=
  lrun_count (st := lCuts_l509_st) (s := cmS l) (n := l.length) (fun i h => cm_step hl h) cm_end nofun l.length 0 (by omega) 18446744073709551616 (by omega)
theorem cm_lok {l : List (List Int)} (hl : l.length ≤ 1000000) : lok lCuts_l509_st 18446744073709551616 (lCuts_l509_T.mk false (Int.ofNat l.length) 0 l l) :=
  lok_count (st := lCuts_l509_st) (s := cmS l) (n := l.length) (fun i h => cm_step hl h) cm_end nofun (fun i h => cm_obs h) l.length 0 (by omega) 18446744073709551616 (by omega)

theorem r12_obs (r0 : Bool) {l : List (List Int)} (h : G3 l) : Alls (r12Clip_o r0 l) := by
  unfold r12Clip_o
  refine ⟨rb_lok h.g (Nat.le_trans h.n (by omega)) (by omega) (by omega), ?_⟩
  rw [r6 h, r7 h, r8' h, r9 h, r10 h, r11 h, r12' h, rs0, rs1, rs2, rs3, rs4, rs5]
  exact ⟨fun _ => rfl, fun _ => rb_lok (g1 h).1 (Nat.le_trans (g1 h).2 (by omega)) (by omega) (by omega), fun _ _ => rfl, fun _ _ => rb_lok (g2 h).1 (Nat.le_trans (g2 h).2 (by omega)) (by omega) (by omega), fun _ _ _ => rfl, fun _ _ _ => rb_lok (g3 h).1 (Nat.le_trans (g3 h).2 (by omega)) (by omega) (by omega), fun _ _ _ _ => rfl, fun _ _ _ _ => rb_lok (g4 h).1 (Nat.le_trans (g4 h).2 (by omega)) (by omega) (by omega), fun _ _ _ _ _ => rfl, fun _ _ _ _ _ => rb_lok (g5 h).1 (Nat.le_trans (g5 h).2 (by omega)) (by omega) (by omega), fun _ _ _ _ _ _ => rfl, fun _ _ _ _ _ _ => rb_lok (g6 h).1 (Nat.le_trans (g6 h).2 (by omega)) (by omega) (by omega), fun _ _ _ _ _ _ _ => rfl, fun _ _ => fz_lok (Nat.le_trans (g7 h).2 (by omega)), trivial⟩

/-! The law's three vertices. -/
theorem ClipCuts_true (x0_0 : Int) (a0_0 : IntKind.min .i16 ≤ x0_0) (b0_0 : x0_0 ≤ IntKind.max .i16) (x0_1 : Int) (a0_1 : IntKind.min .i16 ≤ x0_1) (b0_1 : x0_1 ≤ IntKind.max .i16) (x0_2 : Int) (a0_2 : IntKind.min .i16 ≤ x0_2) (b0_2 : x0_2 ≤ IntKind.max .i16) (x0_3 : Int) (a0_3 : IntKind.min .i16 ≤ x0_3) (b0_3 : x0_3 ≤ IntKind.max .i16) (x0_4 : Int) (a0_4 : IntKind.min .u8 ≤ x0_4) (b0_4 : x0_4 ≤ IntKind.max .u8) (x0_5 : Int) (a0_5 : IntKind.min .u8 ≤ x0_5) (b0_5 : x0_5 ≤ IntKind.max .u8) (x0_6 : Int) (a0_6 : IntKind.min .u8 ≤ x0_6) (b0_6 : x0_6 ≤ IntKind.max .u8) (x0_7 : Int) (a0_7 : IntKind.min .u8 ≤ x0_7) (b0_7 : x0_7 ≤ IntKind.max .u8) (x0_8 : Bool) (x0_9 : Int) (a0_9 : IntKind.min .i16 ≤ x0_9) (b0_9 : x0_9 ≤ IntKind.max .i16) (x0_10 : Int) (a0_10 : IntKind.min .i16 ≤ x0_10) (b0_10 : x0_10 ≤ IntKind.max .i16) (x0_11 : Int) (a0_11 : IntKind.min .i16 ≤ x0_11) (b0_11 : x0_11 ≤ IntKind.max .i16) (x0_12 : Int) (a0_12 : IntKind.min .i16 ≤ x0_12) (b0_12 : x0_12 ≤ IntKind.max .i16) (x0_13 : Int) (a0_13 : IntKind.min .u8 ≤ x0_13) (b0_13 : x0_13 ≤ IntKind.max .u8) (x0_14 : Int) (a0_14 : IntKind.min .u8 ≤ x0_14) (b0_14 : x0_14 ≤ IntKind.max .u8) (x0_15 : Int) (a0_15 : IntKind.min .u8 ≤ x0_15) (b0_15 : x0_15 ≤ IntKind.max .u8) (x0_16 : Int) (a0_16 : IntKind.min .u8 ≤ x0_16) (b0_16 : x0_16 ≤ IntKind.max .u8) (x0_17 : Bool) (x0_18 : Int) (a0_18 : IntKind.min .i16 ≤ x0_18) (b0_18 : x0_18 ≤ IntKind.max .i16) (x0_19 : Int) (a0_19 : IntKind.min .i16 ≤ x0_19) (b0_19 : x0_19 ≤ IntKind.max .i16) (x0_20 : Int) (a0_20 : IntKind.min .i16 ≤ x0_20) (b0_20 : x0_20 ≤ IntKind.max .i16) (x0_21 : Int) (a0_21 : IntKind.min .i16 ≤ x0_21) (b0_21 : x0_21 ≤ IntKind.max .i16) (x0_22 : Int) (a0_22 : IntKind.min .u8 ≤ x0_22) (b0_22 : x0_22 ≤ IntKind.max .u8) (x0_23 : Int) (a0_23 : IntKind.min .u8 ≤ x0_23) (b0_23 : x0_23 ≤ IntKind.max .u8) (x0_24 : Int) (a0_24 : IntKind.min .u8 ≤ x0_24) (b0_24 : x0_24 ≤ IntKind.max .u8) (x0_25 : Int) (a0_25 : IntKind.min .u8 ≤ x0_25) (b0_25 : x0_25 ≤ IntKind.max .u8) (x0_26 : Bool) : lCuts_0 x0_0 x0_1 x0_2 x0_3 x0_4 x0_5 x0_6 x0_7 x0_8 x0_9 x0_10 x0_11 x0_12 x0_13 x0_14 x0_15 x0_16 x0_17 x0_18 x0_19 x0_20 x0_21 x0_22 x0_23 x0_24 x0_25 x0_26 = true := by
  have g3 : G3 (lCuts_s2 x0_0 x0_1 x0_2 x0_3 x0_4 x0_5 x0_6 x0_7 x0_8 x0_9 x0_10 x0_11 x0_12 x0_13 x0_14 x0_15 x0_16 x0_17 x0_18 x0_19 x0_20 x0_21 x0_22 x0_23 x0_24 x0_25 x0_26) := by
    obtain ⟨hp0, hp1, hp2, hp3, -, -, -, -⟩ := vb x0_8 a0_0 b0_0 a0_1 b0_1 a0_2 b0_2 a0_3 b0_3 a0_4 b0_4 a0_5 b0_5 a0_6 b0_6 a0_7 b0_7
    obtain ⟨cp4, cp5, cp6, cp7⟩ := vc a0_4 b0_4 a0_5 b0_5 a0_6 b0_6 a0_7 b0_7
    obtain ⟨hq0, hq1, hq2, hq3, -, -, -, -⟩ := vb x0_17 a0_9 b0_9 a0_10 b0_10 a0_11 b0_11 a0_12 b0_12 a0_13 b0_13 a0_14 b0_14 a0_15 b0_15 a0_16 b0_16
    obtain ⟨cq4, cq5, cq6, cq7⟩ := vc a0_13 b0_13 a0_14 b0_14 a0_15 b0_15 a0_16 b0_16
    obtain ⟨hr0, hr1, hr2, hr3, -, -, -, -⟩ := vb x0_26 a0_18 b0_18 a0_19 b0_19 a0_20 b0_20 a0_21 b0_21 a0_22 b0_22 a0_23 b0_23 a0_24 b0_24 a0_25 b0_25
    obtain ⟨cr4, cr5, cr6, cr7⟩ := vc a0_22 b0_22 a0_23 b0_23 a0_24 b0_24 a0_25 b0_25
    refine ⟨fun r hr => ?_, Nat.le_refl 3⟩
    unfold lCuts_s2 at hr
    simp only [List.mem_cons, List.not_mem_nil, or_false] at hr
    rcases hr with rfl | rfl | rfl
    · exact ⟨rfl, ⟨hp0, hp1, hp2, hp3⟩, cp4, cp5, cp6, cp7⟩
    · exact ⟨rfl, ⟨hq0, hq1, hq2, hq3⟩, cq4, cq5, cq6, cq7⟩
    · exact ⟨rfl, ⟨hr0, hr1, hr2, hr3⟩, cr4, cr5, cr6, cr7⟩
  have ec : lCuts_s0 x0_0 x0_1 x0_2 x0_3 x0_4 x0_5 x0_6 x0_7 x0_8 x0_9 x0_10 x0_11 x0_12 x0_13 x0_14 x0_15 x0_16 x0_17 x0_18 x0_19 x0_20 x0_21 x0_22 x0_23 x0_24 x0_25 x0_26 = clipG (lCuts_s2 x0_0 x0_1 x0_2 x0_3 x0_4 x0_5 x0_6 x0_7 x0_8 x0_9 x0_10 x0_11 x0_12 x0_13 x0_14 x0_15 x0_16 x0_17 x0_18 x0_19 x0_20 x0_21 x0_22 x0_23 x0_24 x0_25 x0_26) := by
    unfold lCuts_s0
    rw [clip_eq]
    rfl
  have er : lCuts_s3 x0_0 x0_1 x0_2 x0_3 x0_4 x0_5 x0_6 x0_7 x0_8 x0_9 x0_10 x0_11 x0_12 x0_13 x0_14 x0_15 x0_16 x0_17 x0_18 x0_19 x0_20 x0_21 x0_22 x0_23 x0_24 x0_25 x0_26 = clipG (lCuts_s2 x0_0 x0_1 x0_2 x0_3 x0_4 x0_5 x0_6 x0_7 x0_8 x0_9 x0_10 x0_11 x0_12 x0_13 x0_14 x0_15 x0_16 x0_17 x0_18 x0_19 x0_20 x0_21 x0_22 x0_23 x0_24 x0_25 x0_26) := rclip_eq g3
  have hl := clipG_len (lCuts_s2 x0_0 x0_1 x0_2 x0_3 x0_4 x0_5 x0_6 x0_7 x0_8 x0_9 x0_10 x0_11 x0_12 x0_13 x0_14 x0_15 x0_16 x0_17 x0_18 x0_19 x0_20 x0_21 x0_22 x0_23 x0_24 x0_25 x0_26)
  have e4 : lCuts_s4 x0_0 x0_1 x0_2 x0_3 x0_4 x0_5 x0_6 x0_7 x0_8 x0_9 x0_10 x0_11 x0_12 x0_13 x0_14 x0_15 x0_16 x0_17 x0_18 x0_19 x0_20 x0_21 x0_22 x0_23 x0_24 x0_25 x0_26 = false := by
    unfold lCuts_s4 lCuts_s1
    rw [ec, er, dec16, decide_eq_false (by omega)]
    simp only [bne_self_eq_false, cond_false]
  have e5 : lCuts_s5 x0_0 x0_1 x0_2 x0_3 x0_4 x0_5 x0_6 x0_7 x0_8 x0_9 x0_10 x0_11 x0_12 x0_13 x0_14 x0_15 x0_16 x0_17 x0_18 x0_19 x0_20 x0_21 x0_22 x0_23 x0_24 x0_25 x0_26 = some (.e 0, cmS (clipG (lCuts_s2 x0_0 x0_1 x0_2 x0_3 x0_4 x0_5 x0_6 x0_7 x0_8 x0_9 x0_10 x0_11 x0_12 x0_13 x0_14 x0_15 x0_16 x0_17 x0_18 x0_19 x0_20 x0_21 x0_22 x0_23 x0_24 x0_25 x0_26)) (clipG (lCuts_s2 x0_0 x0_1 x0_2 x0_3 x0_4 x0_5 x0_6 x0_7 x0_8 x0_9 x0_10 x0_11 x0_12 x0_13 x0_14 x0_15 x0_16 x0_17 x0_18 x0_19 x0_20 x0_21 x0_22 x0_23 x0_24 x0_25 x0_26)).length) := by
    unfold lCuts_s5 lCuts_s1
    rw [ec, er]
    exact cm_run (by omega)
  unfold lCuts_0
  rw [aw_true, e4, e5]
  rfl

theorem ClipCuts_obs (x0_0 : Int) (a0_0 : IntKind.min .i16 ≤ x0_0) (b0_0 : x0_0 ≤ IntKind.max .i16) (x0_1 : Int) (a0_1 : IntKind.min .i16 ≤ x0_1) (b0_1 : x0_1 ≤ IntKind.max .i16) (x0_2 : Int) (a0_2 : IntKind.min .i16 ≤ x0_2) (b0_2 : x0_2 ≤ IntKind.max .i16) (x0_3 : Int) (a0_3 : IntKind.min .i16 ≤ x0_3) (b0_3 : x0_3 ≤ IntKind.max .i16) (x0_4 : Int) (a0_4 : IntKind.min .u8 ≤ x0_4) (b0_4 : x0_4 ≤ IntKind.max .u8) (x0_5 : Int) (a0_5 : IntKind.min .u8 ≤ x0_5) (b0_5 : x0_5 ≤ IntKind.max .u8) (x0_6 : Int) (a0_6 : IntKind.min .u8 ≤ x0_6) (b0_6 : x0_6 ≤ IntKind.max .u8) (x0_7 : Int) (a0_7 : IntKind.min .u8 ≤ x0_7) (b0_7 : x0_7 ≤ IntKind.max .u8) (x0_8 : Bool) (x0_9 : Int) (a0_9 : IntKind.min .i16 ≤ x0_9) (b0_9 : x0_9 ≤ IntKind.max .i16) (x0_10 : Int) (a0_10 : IntKind.min .i16 ≤ x0_10) (b0_10 : x0_10 ≤ IntKind.max .i16) (x0_11 : Int) (a0_11 : IntKind.min .i16 ≤ x0_11) (b0_11 : x0_11 ≤ IntKind.max .i16) (x0_12 : Int) (a0_12 : IntKind.min .i16 ≤ x0_12) (b0_12 : x0_12 ≤ IntKind.max .i16) (x0_13 : Int) (a0_13 : IntKind.min .u8 ≤ x0_13) (b0_13 : x0_13 ≤ IntKind.max .u8) (x0_14 : Int) (a0_14 : IntKind.min .u8 ≤ x0_14) (b0_14 : x0_14 ≤ IntKind.max .u8) (x0_15 : Int) (a0_15 : IntKind.min .u8 ≤ x0_15) (b0_15 : x0_15 ≤ IntKind.max .u8) (x0_16 : Int) (a0_16 : IntKind.min .u8 ≤ x0_16) (b0_16 : x0_16 ≤ IntKind.max .u8) (x0_17 : Bool) (x0_18 : Int) (a0_18 : IntKind.min .i16 ≤ x0_18) (b0_18 : x0_18 ≤ IntKind.max .i16) (x0_19 : Int) (a0_19 : IntKind.min .i16 ≤ x0_19) (b0_19 : x0_19 ≤ IntKind.max .i16) (x0_20 : Int) (a0_20 : IntKind.min .i16 ≤ x0_20) (b0_20 : x0_20 ≤ IntKind.max .i16) (x0_21 : Int) (a0_21 : IntKind.min .i16 ≤ x0_21) (b0_21 : x0_21 ≤ IntKind.max .i16) (x0_22 : Int) (a0_22 : IntKind.min .u8 ≤ x0_22) (b0_22 : x0_22 ≤ IntKind.max .u8) (x0_23 : Int) (a0_23 : IntKind.min .u8 ≤ x0_23) (b0_23 : x0_23 ≤ IntKind.max .u8) (x0_24 : Int) (a0_24 : IntKind.min .u8 ≤ x0_24) (b0_24 : x0_24 ≤ IntKind.max .u8) (x0_25 : Int) (a0_25 : IntKind.min .u8 ≤ x0_25) (b0_25 : x0_25 ≤ IntKind.max .u8) (x0_26 : Bool) : Alls (lCuts_o x0_0 x0_1 x0_2 x0_3 x0_4 x0_5 x0_6 x0_7 x0_8 x0_9 x0_10 x0_11 x0_12 x0_13 x0_14 x0_15 x0_16 x0_17 x0_18 x0_19 x0_20 x0_21 x0_22 x0_23 x0_24 x0_25 x0_26) := by
  have g3 : G3 (lCuts_s2 x0_0 x0_1 x0_2 x0_3 x0_4 x0_5 x0_6 x0_7 x0_8 x0_9 x0_10 x0_11 x0_12 x0_13 x0_14 x0_15 x0_16 x0_17 x0_18 x0_19 x0_20 x0_21 x0_22 x0_23 x0_24 x0_25 x0_26) := by
    obtain ⟨hp0, hp1, hp2, hp3, -, -, -, -⟩ := vb x0_8 a0_0 b0_0 a0_1 b0_1 a0_2 b0_2 a0_3 b0_3 a0_4 b0_4 a0_5 b0_5 a0_6 b0_6 a0_7 b0_7
    obtain ⟨cp4, cp5, cp6, cp7⟩ := vc a0_4 b0_4 a0_5 b0_5 a0_6 b0_6 a0_7 b0_7
    obtain ⟨hq0, hq1, hq2, hq3, -, -, -, -⟩ := vb x0_17 a0_9 b0_9 a0_10 b0_10 a0_11 b0_11 a0_12 b0_12 a0_13 b0_13 a0_14 b0_14 a0_15 b0_15 a0_16 b0_16
    obtain ⟨cq4, cq5, cq6, cq7⟩ := vc a0_13 b0_13 a0_14 b0_14 a0_15 b0_15 a0_16 b0_16
    obtain ⟨hr0, hr1, hr2, hr3, -, -, -, -⟩ := vb x0_26 a0_18 b0_18 a0_19 b0_19 a0_20 b0_20 a0_21 b0_21 a0_22 b0_22 a0_23 b0_23 a0_24 b0_24 a0_25 b0_25
    obtain ⟨cr4, cr5, cr6, cr7⟩ := vc a0_22 b0_22 a0_23 b0_23 a0_24 b0_24 a0_25 b0_25
    refine ⟨fun r hr => ?_, Nat.le_refl 3⟩
    unfold lCuts_s2 at hr
    simp only [List.mem_cons, List.not_mem_nil, or_false] at hr
    rcases hr with rfl | rfl | rfl
    · exact ⟨rfl, ⟨hp0, hp1, hp2, hp3⟩, cp4, cp5, cp6, cp7⟩
    · exact ⟨rfl, ⟨hq0, hq1, hq2, hq3⟩, cq4, cq5, cq6, cq7⟩
    · exact ⟨rfl, ⟨hr0, hr1, hr2, hr3⟩, cr4, cr5, cr6, cr7⟩
  have ec : lCuts_s0 x0_0 x0_1 x0_2 x0_3 x0_4 x0_5 x0_6 x0_7 x0_8 x0_9 x0_10 x0_11 x0_12 x0_13 x0_14 x0_15 x0_16 x0_17 x0_18 x0_19 x0_20 x0_21 x0_22 x0_23 x0_24 x0_25 x0_26 = clipG (lCuts_s2 x0_0 x0_1 x0_2 x0_3 x0_4 x0_5 x0_6 x0_7 x0_8 x0_9 x0_10 x0_11 x0_12 x0_13 x0_14 x0_15 x0_16 x0_17 x0_18 x0_19 x0_20 x0_21 x0_22 x0_23 x0_24 x0_25 x0_26) := by
    unfold lCuts_s0
    rw [clip_eq]
    rfl
  have er : lCuts_s3 x0_0 x0_1 x0_2 x0_3 x0_4 x0_5 x0_6 x0_7 x0_8 x0_9 x0_10 x0_11 x0_12 x0_13 x0_14 x0_15 x0_16 x0_17 x0_18 x0_19 x0_20 x0_21 x0_22 x0_23 x0_24 x0_25 x0_26 = clipG (lCuts_s2 x0_0 x0_1 x0_2 x0_3 x0_4 x0_5 x0_6 x0_7 x0_8 x0_9 x0_10 x0_11 x0_12 x0_13 x0_14 x0_15 x0_16 x0_17 x0_18 x0_19 x0_20 x0_21 x0_22 x0_23 x0_24 x0_25 x0_26) := rclip_eq g3
  have hl := clipG_len (lCuts_s2 x0_0 x0_1 x0_2 x0_3 x0_4 x0_5 x0_6 x0_7 x0_8 x0_9 x0_10 x0_11 x0_12 x0_13 x0_14 x0_15 x0_16 x0_17 x0_18 x0_19 x0_20 x0_21 x0_22 x0_23 x0_24 x0_25 x0_26)
  have e4 : lCuts_s4 x0_0 x0_1 x0_2 x0_3 x0_4 x0_5 x0_6 x0_7 x0_8 x0_9 x0_10 x0_11 x0_12 x0_13 x0_14 x0_15 x0_16 x0_17 x0_18 x0_19 x0_20 x0_21 x0_22 x0_23 x0_24 x0_25 x0_26 = false := by
    unfold lCuts_s4 lCuts_s1
    rw [ec, er, dec16, decide_eq_false (by omega)]
    simp only [bne_self_eq_false, cond_false]
  obtain ⟨h1, h2, h3, h4, h5, h6, h7, h8, h9, _⟩ := aw_obs
  obtain ⟨i0, i1, i2, i3, i4, i5, i6, i7, i8, i9, i10, i11, i12, i13, i14, _⟩ := r12_obs false g3
  unfold lCuts_o
  refine ⟨h1, h2, h3, h4, h5, h6, h7, h8, h9, ?_⟩
  refine ⟨fun _ => i0, fun _ => i1, fun _ => i2, fun _ => i3, fun _ => i4, fun _ => i5, fun _ => i6, fun _ => i7, fun _ => i8, fun _ => i9, fun _ => i10, fun _ => i11, fun _ => i12, fun _ => i13, fun _ => i14, ?_⟩
  refine ⟨fun _ => by_lok _ (Nat.le_trans (c6_len ..) (by omega)), fun _ => by_lok _ (Nat.le_trans (c7_len ..) (by omega)), fun _ => by_lok _ (Nat.le_trans (c8_len ..) (by omega)), fun _ => by_lok _ (Nat.le_trans (c9_len ..) (by omega)), fun _ => by_lok _ (Nat.le_trans (c10_len ..) (by omega)), fun _ => by_lok _ (Nat.le_trans (c11_len ..) (by omega)), fun _ => by_lok _ (Nat.le_trans (c12_len ..) (by omega)), fun _ _ => fx_lok (Nat.le_trans (c13_len ..) (by omega)), fun _ _ => ?_, trivial⟩
  unfold lCuts_s1
  rw [ec, er]
  exact cm_lok (by omega)

end Go.Proofs.Ytbdmaepooahplaa
