/-
  Pictures by small numbers, their copies.
-/
import Derived.Test.YtcdejlgophpdjaaFj
import Derived.Test.YtcdejlgophpdjaaVMb
namespace Go.Proofs.Ytcdejlgophpdjaa
open Go Go.RowKit Go.Proofs.Ytcdejlgophpdjaa.V
set_option linter.unusedVariables false
set_option linter.unusedSectionVars false

theorem rows_dep {s : List (List Int)} (p : ∀ row ∈ s, RowFit [.int .u8, .int .u8, .int .u8, .int .u8, .int .u16, .int .u8] row) (i : Nat) : 0 ≤ rget s i 4 ∧ rget s i 4 ≤ 65535 := by
  unfold rget
  rw [List.getD_eq_getElem?_getD (l := s)]
  cases h : s[i]? with
  | none => exact ⟨by decide, by decide⟩
  | some row =>
    obtain ⟨a, b⟩ := p row (List.mem_of_getElem? h)
    have hr : row.length = 6 := a
    have e : row[4]? = some row[4] := List.getElem?_eq_getElem (by omega)
    obtain ⟨k1, k2⟩ : IntKind.min .u16 ≤ row[4] ∧ row[4] ≤ IntKind.max .u16 := b 4 (.int .u16) _ rfl e
    show 0 ≤ row.getD 4 0 ∧ row.getD 4 0 ≤ 65535
    rw [List.getD_eq_getElem?_getD, e]
    exact bd_u16 k1 k2

theorem f_sm0 {x : Int} (a : 0 ≤ x) (b : x ≤ 255) : 1 ≤ fSmF_s0 x ∧ fSmF_s0 x ≤ 20 := by
  unfold fSmF_s0
  rw [Int.tmod_eq_emod_of_nonneg a, w64_in (n := x % 20) (by omega) (by omega), w64_in (by omega) (by omega)]
  omega
theorem f_sm1 {x : Int} (a : 0 ≤ x) (b : x ≤ 255) : 1 ≤ fSmF_s1 x ∧ fSmF_s1 x ≤ 20 := by
  unfold fSmF_s1
  rw [Int.tmod_eq_emod_of_nonneg a, w64_in (n := x % 20) (by omega) (by omega), w64_in (by omega) (by omega)]
  omega

section
variable {w h : Nat} (ww : 1 ≤ w) (w1 : w ≤ 64) (hh : 1 ≤ h) (h1 : h ≤ 64) {l qs : List (List Int)} {p0 p1 p2 p3 p4 p5 b0 b1 : Int} (g : Gd w h l) (c0 : 0 ≤ b0) (c1 : b0 ≤ 255) (d0 : 0 ≤ b1) (d1 : b1 ≤ 255) (hq : qs.length = 2)

theorem q_s0 (i : Nat) : lFrPix_l253_s0 (qS w h l qs p0 p1 p2 p3 p4 p5 b0 b1 i) = decide (i < 2) := by
  unfold lFrPix_l253_s0
  exact decide_eq_decide.2 Int.ofNat_lt
include w1 h1 g c0 c1 d0 d1
theorem q_step (i : Nat) (hi : i < 2) : pick1 (lFrPix_l253_st (qS w h l qs p0 p1 p2 p3 p4 p5 b0 b1 i)).2 = some (.n, qS w h l qs p0 p1 p2 p3 p4 p5 b0 b1 (i + 1)) := by
  unfold lFrPix_l253_st
  rw [q_s0, decide_eq_true hi, r_s16 w1 h1 g, r_s20 w1 h1 g, r_s25 w1 h1 g c0 c1 d0 d1]
  have : IntKind.wrap .i64 ((qS w h l qs p0 p1 p2 p3 p4 p5 b0 b1 i).a2 + 1) = ((i + 1 : Nat) : Int) := by
    show IntKind.wrap .i64 ((i : Int) + 1) = _
    rw [w64_in (by omega) (by omega)]; omega
  rw [this]; rfl
omit w1 h1 g c0 c1 d0 d1 in
theorem q_end : pick1 (lFrPix_l253_st (qS w h l qs p0 p1 p2 p3 p4 p5 b0 b1 2)).2 = some (.e 0, qS w h l qs p0 p1 p2 p3 p4 p5 b0 b1 2) := by
  unfold lFrPix_l253_st
  rw [q_s0, decide_eq_false (Nat.lt_irrefl _)]; rfl
include ww hh hq
theorem q_obs (i : Nat) : Alls (lFrPix_l253_st (qS w h l qs p0 p1 p2 p3 p4 p5 b0 b1 i)).1 := by
  have hl := g.1
  have hN : 1 ≤ w * h := Nat.mul_pos ww hh
  have hM := r_len w1 h1 g
  have hg := r_glen (qs := qs) (i := i) (p0 := p0) (p1 := p1) (p2 := p2) (p3 := p3) (p4 := p4) (p5 := p5) w1 h1 g
  unfold lFrPix_l253_st
  rw [q_s0, r_s5, r_g w1 h1 g]
  refine ⟨fun k => ⟨Int.natCast_nonneg i, ?_⟩, fun _ => ?_, fun _ => ?_, fun _ k => at_ob w1 h1 hl k, fun _ k => set_ob w1 h1 hl k, fun _ k => ?_, fun _ _ _ k => at_ob w1 h1 hg k, fun _ _ _ _ => ?_, fun _ _ _ k => at_ob w1 h1 hl k, fun _ _ _ _ => ?_, fun _ _ _ _ => ?_, fun _ _ _ _ _ _ => ?_, fun _ _ _ => ?_, fun _ _ _ k => at_ob w1 h1 hl k, fun _ _ _ k => at_ob w1 h1 hg k, fun _ _ _ _ => ?_, trivial⟩
  · have := of_decide_eq_true k
    exact Int.ofNat_lt.2 (show i < qs.length by omega)
  · show l.length ≠ 0
    omega
  · show l.length * 24 ≤ 70368744177664
    omega
  · obtain ⟨a, b⟩ := in_ix w1 h1 k
    have e : lFrPix_l253_s6 (qS w h l qs p0 p1 p2 p3 p4 p5 b0 b1 i) = (ixp w (rget qs i 0) (rget qs i 1) : Int) := a
    rw [e]
    exact ⟨by omega, Int.ofNat_lt.2 (show _ < l.length by omega)⟩
  · exact (sEq hM (by rw [hg, hl])).2
  · show l.length ≠ 0
    omega
  · show l.length * 24 ≤ 70368744177664
    omega
  · exact (sEq hM rfl).2
  · exact (r_two w1 h1 g c0 c1 d0 d1).2
  · exact (sameIn w1 h1 hl hg (x0 := 0) (y0 := 0) (x1 := 64) (y1 := 64) (by omega) (by omega) (by omega) (by omega)).2
end

theorem FramePixels_true (x0_0 : Int) (a0_0 : IntKind.min .u8 ≤ x0_0) (b0_0 : x0_0 ≤ IntKind.max .u8) (x0_1 : Int) (a0_1 : IntKind.min .u8 ≤ x0_1) (b0_1 : x0_1 ≤ IntKind.max .u8) (y0_2 : List (List Int)) (p0_2 : ∀ row ∈ y0_2, RowFit [.int .u8, .int .u8, .int .u8, .int .u8, .int .u16, .int .u8] row) (q0_2 : y0_2.length ≤ maxLen) (x1 : Int) (a1 : IntKind.min .i64 ≤ x1) (b1 : x1 ≤ IntKind.max .i64) (x2 : Int) (a2 : IntKind.min .i64 ≤ x2) (b2 : x2 ≤ IntKind.max .i64) (x3_0 : Int) (a3_0 : IntKind.min .u8 ≤ x3_0) (b3_0 : x3_0 ≤ IntKind.max .u8) (x3_1 : Int) (a3_1 : IntKind.min .u8 ≤ x3_1) (b3_1 : x3_1 ≤ IntKind.max .u8) (x3_2 : Int) (a3_2 : IntKind.min .u8 ≤ x3_2) (b3_2 : x3_2 ≤ IntKind.max .u8) (x3_3 : Int) (a3_3 : IntKind.min .u8 ≤ x3_3) (b3_3 : x3_3 ≤ IntKind.max .u8) (x3_4 : Int) (a3_4 : IntKind.min .u16 ≤ x3_4) (b3_4 : x3_4 ≤ IntKind.max .u16) (x3_5 : Int) (a3_5 : IntKind.min .u8 ≤ x3_5) (b3_5 : x3_5 ≤ IntKind.max .u8) (x4_0 : Int) (a4_0 : IntKind.min .u8 ≤ x4_0) (b4_0 : x4_0 ≤ IntKind.max .u8) (x4_1 : Int) (a4_1 : IntKind.min .u8 ≤ x4_1) (b4_1 : x4_1 ≤ IntKind.max .u8) : lFrPix_0 x0_0 x0_1 (List.length y0_2) x1 x2 x3_0 x3_1 x3_2 x3_3 x3_4 x3_5 x4_0 x4_1 y0_2 = true := by
  obtain ⟨l0_0, g0_0⟩ := bd_u8 a0_0 b0_0
  have w0_0 : IntKind.wrap .i64 x0_0 = x0_0 := w64_in (by omega) (by omega)
  obtain ⟨l0_1, g0_1⟩ := bd_u8 a0_1 b0_1
  have w0_1 : IntKind.wrap .i64 x0_1 = x0_1 := w64_in (by omega) (by omega)
  obtain ⟨l1, g1⟩ := bd_i64 a1 b1
  have w1 : IntKind.wrap .i64 x1 = x1 := w64_in (by omega) (by omega)
  obtain ⟨l2, g2⟩ := bd_i64 a2 b2
  have w2 : IntKind.wrap .i64 x2 = x2 := w64_in (by omega) (by omega)
  obtain ⟨l3_0, g3_0⟩ := bd_u8 a3_0 b3_0
  have w3_0 : IntKind.wrap .i64 x3_0 = x3_0 := w64_in (by omega) (by omega)
  obtain ⟨l3_1, g3_1⟩ := bd_u8 a3_1 b3_1
  have w3_1 : IntKind.wrap .i64 x3_1 = x3_1 := w64_in (by omega) (by omega)
  obtain ⟨l3_2, g3_2⟩ := bd_u8 a3_2 b3_2
  have w3_2 : IntKind.wrap .i64 x3_2 = x3_2 := w64_in (by omega) (by omega)
  obtain ⟨l3_3, g3_3⟩ := bd_u8 a3_3 b3_3
  have w3_3 : IntKind.wrap .i64 x3_3 = x3_3 := w64_in (by omega) (by omega)
  obtain ⟨l3_4, g3_4⟩ := bd_u16 a3_4 b3_4
  have w3_4 : IntKind.wrap .i64 x3_4 = x3_4 := w64_in (by omega) (by omega)
  obtain ⟨l3_5, g3_5⟩ := bd_u8 a3_5 b3_5
  have w3_5 : IntKind.wrap .i64 x3_5 = x3_5 := w64_in (by omega) (by omega)
  obtain ⟨l4_0, g4_0⟩ := bd_u8 a4_0 b4_0
  have w4_0 : IntKind.wrap .i64 x4_0 = x4_0 := w64_in (by omega) (by omega)
  obtain ⟨l4_1, g4_1⟩ := bd_u8 a4_1 b4_1
  have w4_1 : IntKind.wrap .i64 x4_1 = x4_1 := w64_in (by omega) (by omega)
  have hd := rows_dep p0_2
  have s0 := f_sm0 l0_0 g0_0
  have s1 := f_sm1 l0_1 g0_1
  obtain ⟨e0, e1, g⟩ := (sized (x1 := fSmF_s0 x0_0) (x2 := fSmF_s1 x0_1) (by omega) (by omega) (by omega) (by omega) x0_0 x0_1 y0_2.length hd).1
  have w1 := cl_1 (fSmF_s0 x0_0)
  have w2 := cl_64 (fSmF_s0 x0_0)
  have h1 := cl_1 (fSmF_s1 x0_1)
  have h2 := cl_64 (fSmF_s1 x0_1)
  unfold lFrPix_0
  rw [awake]
  cases hs : lFrPix_s0 (List.length y0_2)
  · have hc := c_good (w := (cl (fSmF_s0 x0_0) : Int)) (h := (cl (fSmF_s1 x0_1) : Int)) (r_len w2 h2 g) (chk_sz w1 w2 h1 h2 g.1) (fun i hi => g.2 i (by have := g.1; omega))
    have hs1 : lFrPix_s1 x0_0 x0_1 (List.length y0_2) y0_2 = false := by
      have hM := r_len w2 h2 g
      have hL := g.1
      unfold lFrPix_s1 fSmF_0 fSmF_1 fSmF_2
      rw [e0, e1, hc, hL, ← Int.natCast_mul, w64_in (by omega) (by omega)]
      simp
    have hs3 : lFrPix_s3 x0_0 x0_1 (List.length y0_2) x1 x2 x3_0 x3_1 x3_2 x3_3 x3_4 x3_5 x4_0 x4_1 y0_2 = some (.e 0, qS (cl (fSmF_s0 x0_0)) (cl (fSmF_s1 x0_1)) (fSized_2 x0_0 x0_1 y0_2.length (fSmF_s0 x0_0) (fSmF_s1 x0_1) y0_2) (lFrPix_s2 x1 x2 x4_0 x4_1) x3_0 x3_1 x3_2 x3_3 x3_4 x3_5 x4_0 x4_1 2) := by
      unfold lFrPix_s3 fSmF_0 fSmF_1 fSmF_2
      rw [e0, e1]
      exact lx_run (s := qS (cl (fSmF_s0 x0_0)) (cl (fSmF_s1 x0_1)) (fSized_2 x0_0 x0_1 y0_2.length (fSmF_s0 x0_0) (fSmF_s1 x0_1) y0_2) (lFrPix_s2 x1 x2 x4_0 x4_1) x3_0 x3_1 x3_2 x3_3 x3_4 x3_5 x4_0 x4_1) (fun i hi => q_step w2 h2 g l4_0 g4_0 l4_1 g4_1 i hi) q_end nofun (by omega)
    rw [hs1, hs3]; rfl
  · rfl

theorem FramePixels_obs (x0_0 : Int) (a0_0 : IntKind.min .u8 ≤ x0_0) (b0_0 : x0_0 ≤ IntKind.max .u8) (x0_1 : Int) (a0_1 : IntKind.min .u8 ≤ x0_1) (b0_1 : x0_1 ≤ IntKind.max .u8) (y0_2 : List (List Int)) (p0_2 : ∀ row ∈ y0_2, RowFit [.int .u8, .int .u8, .int .u8, .int .u8, .int .u16, .int .u8] row) (q0_2 : y0_2.length ≤ maxLen) (x1 : Int) (a1 : IntKind.min .i64 ≤ x1) (b1 : x1 ≤ IntKind.max .i64) (x2 : Int) (a2 : IntKind.min .i64 ≤ x2) (b2 : x2 ≤ IntKind.max .i64) (x3_0 : Int) (a3_0 : IntKind.min .u8 ≤ x3_0) (b3_0 : x3_0 ≤ IntKind.max .u8) (x3_1 : Int) (a3_1 : IntKind.min .u8 ≤ x3_1) (b3_1 : x3_1 ≤ IntKind.max .u8) (x3_2 : Int) (a3_2 : IntKind.min .u8 ≤ x3_2) (b3_2 : x3_2 ≤ IntKind.max .u8) (x3_3 : Int) (a3_3 : IntKind.min .u8 ≤ x3_3) (b3_3 : x3_3 ≤ IntKind.max .u8) (x3_4 : Int) (a3_4 : IntKind.min .u16 ≤ x3_4) (b3_4 : x3_4 ≤ IntKind.max .u16) (x3_5 : Int) (a3_5 : IntKind.min .u8 ≤ x3_5) (b3_5 : x3_5 ≤ IntKind.max .u8) (x4_0 : Int) (a4_0 : IntKind.min .u8 ≤ x4_0) (b4_0 : x4_0 ≤ IntKind.max .u8) (x4_1 : Int) (a4_1 : IntKind.min .u8 ≤ x4_1) (b4_1 : x4_1 ≤ IntKind.max .u8) : Alls (lFrPix_o x0_0 x0_1 (List.length y0_2) x1 x2 x3_0 x3_1 x3_2 x3_3 x3_4 x3_5 x4_0 x4_1 y0_2) := by
  obtain ⟨l0_0, g0_0⟩ := bd_u8 a0_0 b0_0
  have w0_0 : IntKind.wrap .i64 x0_0 = x0_0 := w64_in (by omega) (by omega)
  obtain ⟨l0_1, g0_1⟩ := bd_u8 a0_1 b0_1
  have w0_1 : IntKind.wrap .i64 x0_1 = x0_1 := w64_in (by omega) (by omega)
  obtain ⟨l1, g1⟩ := bd_i64 a1 b1
  have w1 : IntKind.wrap .i64 x1 = x1 := w64_in (by omega) (by omega)
  obtain ⟨l2, g2⟩ := bd_i64 a2 b2
  have w2 : IntKind.wrap .i64 x2 = x2 := w64_in (by omega) (by omega)
  obtain ⟨l3_0, g3_0⟩ := bd_u8 a3_0 b3_0
  have w3_0 : IntKind.wrap .i64 x3_0 = x3_0 := w64_in (by omega) (by omega)
  obtain ⟨l3_1, g3_1⟩ := bd_u8 a3_1 b3_1
  have w3_1 : IntKind.wrap .i64 x3_1 = x3_1 := w64_in (by omega) (by omega)
  obtain ⟨l3_2, g3_2⟩ := bd_u8 a3_2 b3_2
  have w3_2 : IntKind.wrap .i64 x3_2 = x3_2 := w64_in (by omega) (by omega)
  obtain ⟨l3_3, g3_3⟩ := bd_u8 a3_3 b3_3
  have w3_3 : IntKind.wrap .i64 x3_3 = x3_3 := w64_in (by omega) (by omega)
  obtain ⟨l3_4, g3_4⟩ := bd_u16 a3_4 b3_4
  have w3_4 : IntKind.wrap .i64 x3_4 = x3_4 := w64_in (by omega) (by omega)
  obtain ⟨l3_5, g3_5⟩ := bd_u8 a3_5 b3_5
  have w3_5 : IntKind.wrap .i64 x3_5 = x3_5 := w64_in (by omega) (by omega)
  obtain ⟨l4_0, g4_0⟩ := bd_u8 a4_0 b4_0
  have w4_0 : IntKind.wrap .i64 x4_0 = x4_0 := w64_in (by omega) (by omega)
  obtain ⟨l4_1, g4_1⟩ := bd_u8 a4_1 b4_1
  have w4_1 : IntKind.wrap .i64 x4_1 = x4_1 := w64_in (by omega) (by omega)
  have hd := rows_dep p0_2
  have s0 := f_sm0 l0_0 g0_0
  have s1 := f_sm1 l0_1 g0_1
  obtain ⟨⟨e0, e1, g⟩, zk⟩ := sized (x1 := fSmF_s0 x0_0) (x2 := fSmF_s1 x0_1) (by omega) (by omega) (by omega) (by omega) x0_0 x0_1 y0_2.length hd
  have w1 := cl_1 (fSmF_s0 x0_0)
  have w2 := cl_64 (fSmF_s0 x0_0)
  have h1 := cl_1 (fSmF_s1 x0_1)
  have h2 := cl_64 (fSmF_s1 x0_1)
  have hN := cl_N (fSmF_s0 x0_0) (fSmF_s1 x0_1)
  obtain ⟨q1, q2, q3, q4, _⟩ := rep_obs (p0 := 0) (p1 := 0) (p2 := 0) (p3 := 0) (p4 := 65535) (p5 := 0) hN.1 hN.2 false
  rw [← n_s6] at q1 q2 q3 q4
  obtain ⟨a1, a2, a3, a4', a5, a6, a7, _⟩ := aw_obs
  refine ⟨a1, a2, a3, a4', a5, a6, a7, fun _ _ => q1, fun _ _ => q2, fun _ _ => q3, fun _ _ => q4, fun _ _ => zk, fun _ _ _ => ?_, fun _ _ _ => ?_, trivial⟩
  · exact c_lok (r_len w2 h2 g)
  · unfold fSmF_0 fSmF_1 fSmF_2
    rw [e0, e1]
    exact lx_lok (s := qS (cl (fSmF_s0 x0_0)) (cl (fSmF_s1 x0_1)) (fSized_2 x0_0 x0_1 y0_2.length (fSmF_s0 x0_0) (fSmF_s1 x0_1) y0_2) (lFrPix_s2 x1 x2 x4_0 x4_1) x3_0 x3_1 x3_2 x3_3 x3_4 x3_5 x4_0 x4_1) (fun i hi => q_step w2 h2 g l4_0 g4_0 l4_1 g4_1 i hi) q_end nofun (fun i _ => q_obs w1 w2 h1 h2 g l4_0 g4_0 l4_1 g4_1 rfl i) (by omega)

end Go.Proofs.Ytcdejlgophpdjaa
