/-
  A picture's pixels, so many times the same.
-/
import Derived.Test.YtcdejlgophpdjaaFb
import Derived.Test.YtcdejlgophpdjaaNa
import Derived.Test.YtcdejlgophpdjaaNc
import Derived.Test.YtcdejlgophpdjaaNd
namespace Go.Proofs.Ytcdejlgophpdjaa
open Go Go.RowKit Go.Proofs.Ytcdejlgophpdjaa.V
set_option linter.unusedVariables false
set_option linter.unusedSectionVars false

theorem wu_in {x : Int} (h0 : 0 ≤ x) (h1 : x ≤ 18446744073709551615) : IntKind.wrap .u64 x = x := by
  have e := IntKind.wrap_u64 x
  omega

theorem mul_1 {x : Int} (h0 : 0 ≤ x) (h1 : x ≤ 4096) : bMul64_1 (IntKind.wrap .u64 (Int.ofNat 1)) (IntKind.wrap .u64 x) = x := by
  unfold bMul64_1
  have e1 : IntKind.wrap .u64 (Int.ofNat 1) = 1 := by decide
  rw [e1, wu_in h0 (by omega), Int.one_mul, wu_in h0 (by omega)]

theorem mul_0 {x : Int} (h0 : 0 ≤ x) (h1 : x ≤ 4096) : bMul64_0 (IntKind.wrap .u64 (Int.ofNat 1)) (IntKind.wrap .u64 x) = 0 := by
  have e1 : IntKind.wrap .u64 (Int.ofNat 1) = 1 := by decide
  have es0 : bMul64_s0 = 4294967296 := by decide +kernel
  have es1 : bMul64_s1 = 18446744073709551616 := by decide +kernel
  have es2 : bMul64_s2 = 2 ^ 32 - 1 := by decide +kernel
  have es4 : bMul64_s4 1 = 1 := by decide +kernel
  have hf : Int.fdiv x 4294967296 = 0 := by rw [Int.fdiv_eq_ediv_of_nonneg _ (by omega)]; omega
  have hf1 : Int.fdiv 1 4294967296 = 0 := by decide
  have es3 : bMul64_s3 x = x := by
    unfold bMul64_s3
    rw [es1, es2, Nat.and_two_pow_sub_one_eq_mod]
    have e2 : x % 18446744073709551616 = x := Int.emod_eq_of_lt h0 (by omega)
    rw [e2]
    have e3 : Int.ofNat (x.toNat % 2 ^ 32) = x := by
      show ((x.toNat % 2 ^ 32 : Nat) : Int) = x
      omega
    rw [e3, wu_in h0 (by omega)]
  have es5 : bMul64_s5 1 x = 0 := by
    unfold bMul64_s5
    rw [es0, es3, es4, hf1, Int.zero_mul, Int.one_mul, wu_in h0 (by omega), hf]
    decide
  unfold bMul64_0
  rw [e1, wu_in h0 (by omega), es0, es5, es4, hf, hf1]
  decide +kernel

section
variable {p0 p1 p2 p3 p4 p5 : Int} {N : Nat} (h1 : 1 ≤ N) (h2 : N ≤ 4096)

def rpS (p : List Int) (N k : Nat) : sRep_l254_T := .mk (Int.ofNat k) (List.replicate k p ++ List.replicate (N - k) [0, 0, 0, 0, 0, 0])

theorem rp_len (p : List Int) {N k : Nat} (h : k ≤ N) : (rpS p N k).a1.length = N := by
  show (_ ++ _ : List (List Int)).length = N
  rw [List.length_append, List.length_replicate, List.length_replicate]; omega

theorem rp_s0 (p : List Int) {N k : Nat} (h : k ≤ N) : sRep_l254_s0 (rpS p N k) = decide (k < N) := by
  unfold sRep_l254_s0
  rw [rp_len p h]
  exact decide_eq_decide.2 Int.ofNat_lt

theorem rp_step (p : List Int) {N k : Nat} (hk : 1 ≤ k) (h : k < N) (hN : N ≤ 4096) : ∃ j, k < j ∧ j ≤ N ∧ pick1 (sRep_l254_st (rpS p N k)).2 = some (.n, rpS p N j) := by
  refine ⟨k + min k (N - k), by omega, by omega, ?_⟩
  unfold sRep_l254_st
  rw [rp_s0 p (by omega), decide_eq_true h]
  have e1 : sRep_l254_s1 (rpS p N k) = List.replicate k p := by
    unfold sRep_l254_s1
    show List.take (k - 0) (List.drop 0 (List.replicate k p ++ List.replicate (N - k) [0, 0, 0, 0, 0, 0])) = _
    rw [Nat.sub_zero, List.drop_zero, List.take_append_of_le_length (by simp), List.take_of_length_le (by simp)]
  have e2 : sRep_l254_s2 (rpS p N k) = N - k := by
    unfold sRep_l254_s2
    rw [rp_len p (by omega)]; rfl
  have e3 : Nat.min k (N - k) = min k (N - k) := rfl
  simp only [pick1, Bool.not_true, e1, e2, List.length_replicate, e3]
  have e4 : IntKind.wrap .i64 ((rpS p N k).a0 + Int.ofNat (min k (N - k))) = Int.ofNat (k + min k (N - k)) := by
    show IntKind.wrap .i64 (Int.ofNat k + Int.ofNat (min k (N - k))) = _
    have f1 : Int.ofNat k = (k : Int) := rfl
    have f2 : Int.ofNat (min k (N - k)) = ((min k (N - k) : Nat) : Int) := rfl
    have f3 : Int.ofNat (k + min k (N - k)) = ((k + min k (N - k) : Nat) : Int) := rfl
    rw [f1, f2, f3, w64_in (by omega) (by omega)]; omega
  rw [e4]
  unfold rpS
  congr 3
  show List.take k (List.replicate k p ++ List.replicate (N - k) [0, 0, 0, 0, 0, 0]) ++ List.take (N - k) (List.replicate k p) ++ List.drop (k + min k (N - k)) (List.replicate k p ++ List.replicate (N - k) [0, 0, 0, 0, 0, 0]) = _
  rw [List.take_append_of_le_length (by simp), List.take_of_length_le (by simp), List.take_replicate, List.drop_append, List.drop_of_length_le (by simp), List.nil_append, List.length_replicate, List.drop_replicate, List.replicate_append_replicate]
  congr 2
  · rw [Nat.min_comm]
  · omega

theorem rp_end (p : List Int) (N : Nat) : pick1 (sRep_l254_st (rpS p N N)).2 = some (.e 0, rpS p N N) := by
  unfold sRep_l254_st
  rw [rp_s0 p (Nat.le_refl _), decide_eq_false (Nat.lt_irrefl _)]
  rfl

theorem rp_obs (p : List Int) {N k : Nat} (h : k ≤ N) : Alls (sRep_l254_st (rpS p N k)).1 := by
  unfold sRep_l254_st
  rw [rp_len p h]
  have f1 : (rpS p N k).a0 = (k : Int) := rfl
  have f2 : Int.ofNat N = (N : Int) := rfl
  have f3 : Int.ofNat 0 = 0 := rfl
  rw [f1, f2, f3]
  exact ⟨fun _ => ⟨by omega, by omega, by omega⟩, fun _ => ⟨by omega, by omega, by omega⟩, trivial⟩

include h1 h2
theorem rep_start (p : List Int) (hp : sRep_s0 p0 p1 p2 p3 p4 p5 = [p]) : sRep_l254_T.mk (Int.ofNat (sRep_s3 (N : Int) p0 p1 p2 p3 p4 p5)) (List.take 0 (sRep_s2 (N : Int)) ++ List.take (List.length (sRep_s2 (N : Int))) (sRep_s0 p0 p1 p2 p3 p4 p5) ++ List.drop (0 + sRep_s3 (N : Int) p0 p1 p2 p3 p4 p5) (sRep_s2 (N : Int))) = rpS p N 1 := by
  have e2 : sRep_s2 (N : Int) = List.replicate N [0, 0, 0, 0, 0, 0] := by
    unfold sRep_s2 sRep_s1
    rw [mul_1 (by omega) (by omega), w64_in (by omega) (by omega), Int.toNat_natCast]
  have e3 : sRep_s3 (N : Int) p0 p1 p2 p3 p4 p5 = 1 := by
    unfold sRep_s3
    rw [e2, List.length_replicate]
    show min 1 N = 1
    omega
  rw [e2, e3, hp]
  unfold rpS
  congr 1
  rw [List.take_zero, List.nil_append, List.length_replicate, List.drop_replicate, List.take_of_length_le (by simp; omega)]
  rfl

omit h1 h2 in
theorem rp_go (p : List Int) {N : Nat} (hN : N ≤ 4096) (i : Nat) (h : i < N - 1) : ∃ j, i < j ∧ j ≤ N - 1 ∧ pick1 (sRep_l254_st (rpS p N (i + 1))).2 = some (.n, rpS p N (j + 1)) := by
  obtain ⟨j, g1, g2, g3⟩ := rp_step p (k := i + 1) (by omega) (by omega) hN
  exact ⟨j - 1, by omega, by omega, by rw [show j - 1 + 1 = j by omega]; exact g3⟩
omit h2 in
theorem rp_end' (p : List Int) : pick1 (sRep_l254_st (rpS p N (N - 1 + 1))).2 = some (.e 0, rpS p N N) := by
  rw [show N - 1 + 1 = N by omega]; exact rp_end p N

theorem rep_eq : sRep_0 (N : Int) p0 p1 p2 p3 p4 p5 = List.replicate N [p0, p1, p2, p3, p4, p5] := by
  unfold sRep_0
  rw [rep_start h1 h2 [p0, p1, p2, p3, p4, p5] rfl, lm_run (st := sRep_l254_st) (s := fun i => rpS [p0, p1, p2, p3, p4, p5] N (i + 1)) (n := N - 1) (rp_go _ h2) (rp_end' h1 _) nofun (N - 1) 0 (by omega) (by omega) 18446744073709551616 (by omega)]
  show List.replicate N _ ++ List.replicate (N - N) _ = _
  rw [Nat.sub_self]; simp

theorem rep_obs (r0 : Bool) : Alls (sRep_o (N : Int) r0 p0 p1 p2 p3 p4 p5) := by
  unfold sRep_o sRep_s1
  rw [mul_1 (by omega) (by omega), mul_0 (by omega) (by omega), w64_in (by omega) (by omega), rep_start h1 h2 [p0, p1, p2, p3, p4, p5] rfl]
  have f : Int.ofNat 24 = 24 := rfl
  refine ⟨decide_eq_false (by omega), ?_, ⟨by omega, rfl, by rw [f]; omega⟩, ?_, trivial⟩
  · rw [decide_eq_false (show ¬ (9223372036854775807 : Int) < N by omega)]; rfl
  · exact lm_lok (st := sRep_l254_st) (s := fun i => rpS [p0, p1, p2, p3, p4, p5] N (i + 1)) (n := N - 1) (rp_go _ h2) (rp_end' h1 _) nofun (fun i h => rp_obs _ (by omega)) (N - 1) 0 (by omega) (by omega) 18446744073709551616 (by omega)

end
end Go.Proofs.Ytcdejlgophpdjaa
