/-
  A picture's check and its text, in plain numbers.
-/
import Derived.Test.YtcdejlgophpdjaaFd4
import Derived.Test.YtcdejlgophpdjaaFc
namespace Go.Proofs.Ytcdejlgophpdjaa
open Go Go.RowKit Go.Proofs.Ytcdejlgophpdjaa.V
set_option linter.unusedVariables false
set_option linter.unusedSectionVars false

theorem isX_rf {k : Nat} {α : Type} {v : α} : isX (.e k) (some (.e k, v)) = true := by simp [isX, xeq]

/-- Is a pixel's depth one? -/
def dOK (l : List (List Int)) (i : Nat) : Prop := 0 ≤ rget l i 4 ∧ rget l i 4 ≤ 65535
def cS (l : List (List Int)) (i : Nat) : fChk_l29_T := .mk 0 (Int.ofNat l.length) (i : Int) l

theorem c_s0 (l : List (List Int)) (i : Nat) : fChk_l29_s0 (cS l i) = decide (i < l.length) := by
  unfold fChk_l29_s0
  exact decide_eq_decide.2 Int.ofNat_lt
theorem c_s2 {l : List (List Int)} {i : Nat} (h : dOK l i) : fChk_l29_s2 (cS l i) = false := by
  unfold fChk_l29_s2
  show (bif decide (rget l i 4 < 0) then true else decide (65535 < rget l i 4)) = false
  rw [decide_eq_false (by have := h.1; omega), decide_eq_false (by have := h.2; omega)]; rfl
theorem c_s2n {l : List (List Int)} {i : Nat} (h : ¬ dOK l i) : fChk_l29_s2 (cS l i) = true := by
  unfold fChk_l29_s2
  show (bif decide (rget l i 4 < 0) then true else decide (65535 < rget l i 4)) = true
  by_cases h0 : rget l i 4 < 0
  · rw [decide_eq_true h0]; rfl
  · rw [decide_eq_false h0, decide_eq_true (by unfold dOK at h; omega)]; rfl
theorem c_step {l : List (List Int)} (hL : l.length ≤ 4096) {i : Nat} (hi : i < l.length) (h : dOK l i) : pick1 (fChk_l29_st (cS l i)).2 = some (.n, cS l (i + 1)) := by
  unfold fChk_l29_st
  rw [c_s0, decide_eq_true hi, c_s2 h]
  have e : IntKind.wrap .i64 ((cS l i).a2 + 1) = ((i + 1 : Nat) : Int) := by
    show IntKind.wrap .i64 ((i : Int) + 1) = _
    rw [w64_in (by omega) (by omega)]; omega
  rw [e]; rfl
theorem c_bad {l : List (List Int)} {i : Nat} (hi : i < l.length) (h : ¬ dOK l i) : pick1 (fChk_l29_st (cS l i)).2 = some (.r, .mk 2 (Int.ofNat l.length) (i : Int) l) := by
  unfold fChk_l29_st
  rw [c_s0, decide_eq_true hi, c_s2n h]; rfl
theorem c_end (l : List (List Int)) : pick1 (fChk_l29_st (cS l l.length)).2 = some (.e 0, cS l l.length) := by
  unfold fChk_l29_st
  rw [c_s0, decide_eq_false (Nat.lt_irrefl _)]; rfl
theorem c_obs (l : List (List Int)) (i : Nat) : Alls (fChk_l29_st (cS l i)).1 := by
  unfold fChk_l29_st
  rw [c_s0]
  exact ⟨fun h => ⟨Int.natCast_nonneg i, Int.ofNat_lt.2 (of_decide_eq_true h)⟩, trivial⟩

theorem first (p : Nat → Prop) : ∀ n : Nat, ∃ m, m ≤ n ∧ (∀ i, i < m → p i) ∧ (m = n ∨ ¬ p m)
  | 0 => ⟨0, by omega, fun i h => absurd h (by omega), .inl rfl⟩
  | n + 1 => by
    obtain ⟨m, a, b, c⟩ := first p n
    rcases c with c | c
    · subst c
      by_cases h : p m
      · exact ⟨m + 1, by omega, fun i hi => by by_cases e : i = m; exact e ▸ h; exact b i (by omega), .inl rfl⟩
      · exact ⟨m, by omega, b, .inr h⟩
    · exact ⟨m, by omega, b, .inr c⟩

theorem c_lok {l : List (List Int)} (hL : l.length ≤ 4096) : lok fChk_l29_st 18446744073709551616 (.mk 0 (Int.ofNat l.length) 0 l) := by
  obtain ⟨m, a, b, c⟩ := first (dOK l) l.length
  show lok fChk_l29_st 18446744073709551616 (cS l 0)
  by_cases h : m = l.length
  · subst h
    exact lx_lok (s := cS l) (fun i hi => c_step hL hi (b i hi)) (c_end l) nofun (fun i _ => c_obs l i) (by omega)
  · exact lx_lok (s := cS l) (fun i hi => c_step hL (by omega) (b i hi)) (c_bad (by omega) (c.resolve_left h)) nofun (fun i _ => c_obs l i) (by omega)

theorem c_good {w h : Int} {l : List (List Int)} (hL : l.length ≤ 4096) (hs : fChk_s0 w h l = false) (b : ∀ i, i < l.length → dOK l i) : fChk_0 w h l = 0 := by
  have e : fChk_s1 l = some (.e 0, cS l l.length) := by
    unfold fChk_s1
    show lrun _ _ (cS l 0) = _
    exact lx_run (s := cS l) (fun i hi => c_step hL hi (b i hi)) (c_end l) nofun (by omega)
  unfold fChk_0
  rw [hs, e]; rfl
theorem c_two {w h : Int} {l : List (List Int)} (hL : l.length ≤ 4096) (hs : fChk_s0 w h l = false) {m : Nat} (hm : m < l.length) (b : ∀ i, i < m → dOK l i) (c : ¬ dOK l m) : fChk_0 w h l = 2 := by
  have e : fChk_s1 l = some (.r, .mk 2 (Int.ofNat l.length) (m : Int) l) := by
    unfold fChk_s1
    show lrun _ _ (cS l 0) = _
    exact lx_run (s := cS l) (fun i hi => c_step hL (by omega) (b i hi)) (c_bad hm c) nofun (by omega)
  unfold fChk_0
  rw [hs, e]; rfl
theorem c_six {w h : Int} {l : List (List Int)} (hs : fChk_s0 w h l = true) : fChk_0 w h l = 6 := by
  unfold fChk_0
  rw [hs]; rfl

section
variable {w h : Nat} {l : List (List Int)} (w1 : w ≤ 64) (h1 : h ≤ 64) (hl : l.length = w * h) (hb : ∀ k j, j < 3 → 0 ≤ rget l k j ∧ rget l k j ≤ 255)

def tI (w h y : Nat) (l : List (List Int)) (x : Nat) (out : List (List Int)) : fText_l31333_T := .mk ⟨⟨[]⟩⟩ (y : Int) (h : Int) (y : Int) true (w : Int) (x : Int) (w : Int) (h : Int) l out
def tC (w h y : Nat) (l : List (List Int)) (x : Nat) : Int := byteAt fText_l31333_s2 (fText_l31333_s1 (tI w h y l x [])).toNat
def tO (w h y : Nat) (l out : List (List Int)) (x : Nat) : List (List Int) := out ++ (List.range x).map fun k => [tC w h y l k]

theorem tO_len (w h y : Nat) (l out : List (List Int)) (x : Nat) : (tO w h y l out x).length = out.length + x := by
  unfold tO; simp
theorem tO_succ (w h y : Nat) (l out : List (List Int)) (x : Nat) : tO w h y l out (x + 1) = tO w h y l out x ++ [[tC w h y l x]] := by
  unfold tO; simp [List.range_succ]

include hl w1 h1 in
theorem at_in {x y : Nat} (hx : x < w) (hy : y < h) : fAt_s0 w x y = ((y * w + x : Nat) : Int) ∧ y * w + x < l.length := by
  have e1 : y * w ≤ 63 * w := Nat.mul_le_mul_right _ (by omega)
  have e2 : y * w + w ≤ h * w := by
    have := Nat.mul_le_mul_right w (show y + 1 ≤ h by omega)
    rw [Nat.succ_mul] at this; exact this
  unfold fAt_s0
  have c1 : (y : Int) * (w : Int) = ((y * w : Nat) : Int) := by simp
  rw [c1, w64_in (n := ((y * w : Nat) : Int)) (by omega) (by omega), w64_in (n := ((y * w : Nat) : Int) + (x : Int)) (by omega) (by omega), hl, Nat.mul_comm w h]
  exact ⟨by omega, by omega⟩

include hb in
theorem at_bd (a b c d : Int) : (0 ≤ fAt_0 a b c d l ∧ fAt_0 a b c d l ≤ 255) ∧ (0 ≤ fAt_1 a b c d l ∧ fAt_1 a b c d l ≤ 255) ∧ (0 ≤ fAt_2 a b c d l ∧ fAt_2 a b c d l ≤ 255) := by
  refine ⟨?_, ?_, ?_⟩ <;> simp only [fAt_0, fAt_1, fAt_2] <;> cases fAt_s1 a b c d l <;> first | exact hb _ _ (by decide) | exact (show (0 : Int) ≤ 0 ∧ (0 : Int) ≤ 255 by decide)

include hb in
theorem t_s1 (y x : Nat) (out : List (List Int)) : 0 ≤ fText_l31333_s1 (tI w h y l x out) ∧ fText_l31333_s1 (tI w h y l x out) < 10 := by
  unfold fText_l31333_s1
  obtain ⟨⟨a0, a1⟩, ⟨b0, b1⟩, ⟨c0, c1⟩⟩ := at_bd hb (w : Int) (h : Int) (x : Int) (y : Int)
  show 0 ≤ IntKind.wrap .i64 (Int.tdiv (IntKind.wrap .i64 (IntKind.wrap .i64 (IntKind.wrap .i64 (IntKind.wrap .i64 (fAt_0 w h x y l) + IntKind.wrap .i64 (fAt_1 w h x y l)) + IntKind.wrap .i64 (fAt_2 w h x y l)) * 10)) 766) ∧ IntKind.wrap .i64 (Int.tdiv (IntKind.wrap .i64 (IntKind.wrap .i64 (IntKind.wrap .i64 (IntKind.wrap .i64 (fAt_0 w h x y l) + IntKind.wrap .i64 (fAt_1 w h x y l)) + IntKind.wrap .i64 (fAt_2 w h x y l)) * 10)) 766) < 10
  generalize fAt_0 (w : Int) h x y l = A at *
  generalize fAt_1 (w : Int) h x y l = B at *
  generalize fAt_2 (w : Int) h x y l = C at *
  rw [w64_in (n := A) (by omega) (by omega), w64_in (n := B) (by omega) (by omega), w64_in (n := C) (by omega) (by omega), w64_in (n := A + B) (by omega) (by omega), w64_in (n := A + B + C) (by omega) (by omega), w64_in (n := (A + B + C) * 10) (by omega) (by omega), Int.tdiv_eq_ediv_of_nonneg (by omega), w64_in (by omega) (by omega)]
  omega

theorem t_s0 (y x : Nat) (out : List (List Int)) : fText_l31333_s0 (tI w h y l x out) = decide (x < w) := by
  unfold fText_l31333_s0
  exact decide_eq_decide.2 Int.ofNat_lt

include w1 in
theorem t_step (y : Nat) (out : List (List Int)) (x : Nat) (hx : x < w) : pick1 (fText_l31333_st (tI w h y l x (tO w h y l out x))).2 = some (.n, tI w h y l (x + 1) (tO w h y l out (x + 1))) := by
  unfold fText_l31333_st
  rw [t_s0, decide_eq_true hx]
  have e : IntKind.wrap .i64 ((tI w h y l x (tO w h y l out x)).a6 + 1) = ((x + 1 : Nat) : Int) := by
    show IntKind.wrap .i64 ((x : Int) + 1) = _
    rw [w64_in (by omega) (by omega)]; omega
  have e3 : fText_l31333_s3 (tI w h y l x (tO w h y l out x)) = tO w h y l out (x + 1) := by
    rw [tO_succ]; rfl
  rw [e, e3]; rfl
theorem t_end (y : Nat) (out : List (List Int)) : pick1 (fText_l31333_st (tI w h y l w (tO w h y l out w))).2 = some (.e 2, tI w h y l w (tO w h y l out w)) := by
  unfold fText_l31333_st
  rw [t_s0, decide_eq_false (Nat.lt_irrefl _)]; rfl
include w1 h1 hl hb in
theorem t_obs {y : Nat} (hy : y < h) {out : List (List Int)} (ho : out.length ≤ 10000) (x : Nat) (hx : x ≤ w) : Alls (fText_l31333_st (tI w h y l x (tO w h y l out x))).1 := by
  unfold fText_l31333_st
  rw [t_s0]
  refine ⟨fun g _ => ?_, fun g => ?_, fun g => ?_, trivial⟩
  · obtain ⟨e, f⟩ := at_in w1 h1 hl (of_decide_eq_true g) hy
    show 0 ≤ fAt_s0 w x y ∧ fAt_s0 w x y < Int.ofNat l.length
    rw [e]
    exact ⟨by omega, Int.ofNat_lt.2 f⟩
  · have := t_s1 hb y x (tO w h y l out x) (w := w) (h := h)
    exact ⟨this.1, this.2⟩
  · have e3 : fText_l31333_s3 (tI w h y l x (tO w h y l out x)) = tO w h y l out (x + 1) := by
      rw [tO_succ]; rfl
    rw [e3, tO_len]; omega

def uS (w h : Nat) (l : List (List Int)) (out : Nat → List (List Int)) (y : Nat) : fText_l61_T := .mk ⟨⟨[]⟩⟩ (h : Int) (y : Int) (w : Int) (h : Int) l (out y)
/-- What is written before row y. -/
def uO (w h : Nat) (l : List (List Int)) : Nat → List (List Int)
  | 0 => []
  | y + 1 => tO w h y l (uO w h l y) w ++ [[10]]
theorem uO_len (w h : Nat) (l : List (List Int)) : ∀ y, (uO w h l y).length = y * (w + 1)
  | 0 => by simp [uO]
  | y + 1 => by
    rw [uO, List.length_append, tO_len, uO_len w h l y, Nat.succ_mul]; simp; omega

theorem u_s0 (y : Nat) : fText_l61_s0 (uS w h l (uO w h l) y) = decide (y < h) := by
  unfold fText_l61_s0
  exact decide_eq_decide.2 Int.ofNat_lt
include w1 in
theorem u_s1 (y : Nat) (hy : y < h) : fText_l61_s1 (uS w h l (uO w h l) y) = some (.e 2, tI w h y l w (tO w h y l (uO w h l y) w)) := by
  unfold fText_l61_s1
  rw [u_s0, decide_eq_true hy]
  have e : uO w h l y = tO w h y l (uO w h l y) 0 := by simp [tO]
  show lrun _ _ (tI w h y l 0 (uO w h l y)) = _
  rw [show tI w h y l 0 (uO w h l y) = tI w h y l 0 (tO w h y l (uO w h l y) 0) from congrArg _ e]
  exact lx_run (s := fun x => tI w h y l x (tO w h y l (uO w h l y) x)) (fun x hx => t_step w1 y _ x hx) (t_end y _) nofun (by omega)
include w1 h1 in
theorem u_step (y : Nat) (hy : y < h) : pick1 (fText_l61_st (uS w h l (uO w h l) y)).2 = some (.n, uS w h l (uO w h l) (y + 1)) := by
  unfold fText_l61_st
  rw [u_s0, decide_eq_true hy, u_s1 w1 y hy, isX_rf]
  have e2 : fText_l61_s2 (uS w h l (uO w h l) y) = uO w h l (y + 1) := by
    unfold fText_l61_s2
    rw [u_s1 w1 y hy]; rfl
  rw [e2]
  have e : IntKind.wrap .i64 ((V.valOf (some (X.e 2, tI w h y l w (tO w h y l (uO w h l y) w)))).a3 + 1) = ((y + 1 : Nat) : Int) := by
    show IntKind.wrap .i64 ((y : Int) + 1) = _
    rw [w64_in (by omega) (by omega)]; omega
  rw [e]; rfl
theorem u_end : pick1 (fText_l61_st (uS w h l (uO w h l) h)).2 = some (.e 0, uS w h l (uO w h l) h) := by
  unfold fText_l61_st
  rw [u_s0, decide_eq_false (Nat.lt_irrefl _)]; rfl
include w1 h1 hl hb in
theorem u_obs (y : Nat) (hy : y ≤ h) : Alls (fText_l61_st (uS w h l (uO w h l) y)).1 := by
  have hlen : y * (w + 1) ≤ 64 * 65 := Nat.mul_le_mul (by omega) (by omega)
  unfold fText_l61_st
  refine ⟨fun g => ?_, fun g _ => ?_, trivial⟩
  · rw [u_s0] at g
    have hy' := of_decide_eq_true g
    rw [u_s0, g]
    have e : uO w h l y = tO w h y l (uO w h l y) 0 := by simp [tO]
    show lok _ _ (tI w h y l 0 (uO w h l y))
    rw [show tI w h y l 0 (uO w h l y) = tI w h y l 0 (tO w h y l (uO w h l y) 0) from congrArg _ e]
    exact lx_lok (s := fun x => tI w h y l x (tO w h y l (uO w h l y) x)) (fun x hx => t_step w1 y _ x hx) (t_end y _) nofun (fun x hx => t_obs w1 h1 hl hb hy' (by rw [uO_len]; omega) x hx) (by omega)
  · rw [u_s0] at g
    have hy' := of_decide_eq_true g
    have e2 : fText_l61_s2 (uS w h l (uO w h l) y) = uO w h l (y + 1) := by
      unfold fText_l61_s2
      rw [u_s1 w1 y hy']; rfl
    rw [e2, uO_len, Nat.succ_mul]; omega

include w1 h1 hl hb in
theorem text_lok : lok fText_l61_st 18446744073709551616 (.mk ⟨⟨[]⟩⟩ (h : Int) 0 (w : Int) (h : Int) l []) := by
  show lok _ _ (uS w h l (uO w h l) 0)
  exact lx_lok (s := uS w h l (uO w h l)) (fun y hy => u_step w1 h1 y hy) u_end nofun (fun y hy => u_obs w1 h1 hl hb y hy) (by omega)
include w1 h1 in
theorem text_eq (hc : fChk_0 w h l = 0) : fText_0 w h l = bytesOf (uO w h l h) := by
  unfold fText_0 fText_s0
  rw [hc]
  have e : lrun fText_l61_st 18446744073709551616 (.mk ⟨⟨[]⟩⟩ (h : Int) 0 (w : Int) (h : Int) l []) = some (.e 0, uS w h l (uO w h l) h) := by
    show lrun _ _ (uS w h l (uO w h l) 0) = _
    exact lx_run (s := uS w h l (uO w h l)) (fun y hy => u_step w1 h1 y hy) u_end nofun (by omega)
  rw [e]; rfl
end
theorem text_no {w h : Int} {l : List (List Int)} (hc : fChk_0 w h l ≠ 0) : fText_0 w h l = ⟨⟨[]⟩⟩ := by
  unfold fText_0 fText_s0
  rw [show (fChk_0 w h l != 0) = true from by simp [hc]]; rfl
end Go.Proofs.Ytcdejlgophpdjaa
