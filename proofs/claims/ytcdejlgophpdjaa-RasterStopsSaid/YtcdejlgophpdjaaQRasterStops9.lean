/-
  All pixels of a triangle in a list: the loop over the function.
-/
import Derived.RangeFuncLeaves
import Derived.Test.YtcdejlgophpdjaaQRasterStops8
section
namespace Go.Proofs.Ytcdejlgophpdjaa
open Go Go.RowKit Go.Proofs.Ytcdejlgophpdjaa.V
set_option linter.unusedVariables false
set_option linter.unusedSectionVars false

namespace Ra
theorem body45 : Try.f45.body = some cL := by kernel_rfl
theorem body108 : Try.f108.body = some cC := by kernel_rfl
theorem nt45 : Try.f45.ntmps = 16 := by kernel_rfl
theorem nt108 : Try.f108.ntmps = 63 := by kernel_rfl
theorem res45 : Try.f45.results = #[.tmp 4] := by kernel_rfl
theorem res108 : Try.f108.results = #[] := by kernel_rfl
theorem call108 (args : Array Value) (w : World) : (callFunc 108 args).run Try.prog w = .ok (.enter 108 args) w := calm_run _ (f108_en args) w

theorem app3 (x y z : Value) (tl : Array Value) : (#[x, y, z] ++ tl).getD 0 undef = x ∧ (#[x, y, z] ++ tl).getD 1 undef = y ∧ (#[x, y, z] ++ tl).getD 2 undef = z := by
  refine ⟨?_, ?_, ?_⟩ <;> (rw [Array.getD_eq_getD_getElem?, Array.getElem?_append_left (by simp)]; rfl)

/-- The world ahead of the loop, with the loop's record and the block for deferred calls. -/
def wIn (w : World) (rec : Loop) : World := (w.alloc (.deferred (some []))).alloc (.loop rec)
theorem wIn_size (w : World) (rec : Loop) : (wIn w rec).heap.size = w.heap.size + 2 := by unfold wIn; rw [World.size_alloc, World.size_alloc]
theorem wIn_l (w : World) (rec : Loop) : (wIn w rec).heap[w.heap.size + 1]? = some (.loop rec) := by
  have := World.alloc_heap_new (w.alloc (.deferred (some []))) (.loop rec); rwa [World.size_alloc] at this
theorem wIn_d (w : World) (rec : Loop) : (wIn w rec).heap[w.heap.size]? = some (.deferred (some [])) := by
  exact (Below.heap_alloc _ _ _ (by simp)).trans (World.alloc_heap_new w _)
theorem wIn_old (w : World) (rec : Loop) {k : Nat} (h : k < w.heap.size) : (wIn w rec).heap[k]? = w.heap[k]? := by
  unfold wIn
  rw [Below.heap_alloc _ _ _ (by rw [World.size_alloc]; omega), Below.heap_alloc _ _ _ h]
theorem wIn_frz (w : World) (rec : Loop) (p : Addr) : (wIn w rec).frozen? p = w.frozen? p := by
  unfold wIn
  rw [frozen_allocO rfl, frozen_allocO rfl]

theorem two_size {φ : Phi} {x y : Nat × Nat} {cs : Array Value} (h : All2 (prel φ) [x, y] cs.toList) : ∃ v1 v2, cs = #[v1, v2] ∧ prel φ x v1 ∧ prel φ y v2 := by
  obtain ⟨l⟩ := cs
  cases h with
  | cons h1 h2 => cases h2 with
    | cons h3 h4 => cases h4; exact ⟨_, _, rfl, h1, h3⟩

set_option maxRecDepth 100000 in
theorem loop_wp (t : Nat → Int) (a b c d : Int) {w w3 : World} {may : Nat → Prop} {ψ : Phi} {a3 : Act} (s3 : SR 16 lvL w may ψ (S2 t a b c d) (M2 t a b c d) (H2 t a b c d) 112 a3 w3) {Q : Exit → Act → World → Prop}
    (hQ : ∀ (rec : Loop) (w4 : World) (χ : Phi) (e0 e1 e2 e3 : Int), MR ((wIn w3 rec).putObj (w3.heap.size + 1) (.loop { rec with state := .exhausted })) (fun e => (may e ∨ w.heap.size ≤ e) ∧ e < w3.heap.size) χ (memOf (bsF t (cells t a b c d) e0 e1 e2 e3)) (hdsB (bsF t (cells t a b c d) e0 e1 e2 e3)) (fun e => 4 ≤ e) w4 →
      TRel χ (V.look [(5, .a (.ptr 2 0))]) a3.tmps → Q .normal { a3 with defers := { target := .collected w3.heap.size, args := #[] } :: a3.defers } w4) :
    (Code.rangeFunc (.tmp 9) #[10] (rfA RF) (rfB RF)).wp Try.prog Q a3 w3 := by
  refine (wpIn_wide (n := 1)).1 (wpIn_rangeFunc ?_)
  intro fn _
  obtain ⟨cs, h9, hcs⟩ := fn_inv (s3.tr 9 _ (s2_9 t a b c d))
  obtain ⟨v1, v2, rfl, hv1, hv2⟩ := two_size hcs
  obtain ⟨⟨-, -⟩, i48, hi48, -, hp48⟩ := (show prel ψ (48, 0) (a3.tmps.getD 5 undef) from s3.tr 5 _ (s2_5 t a b c d))
  obtain ⟨j48, hj48, hv48, hro48, -⟩ := s3.mr.hdr 48 _ (h2_48 t a b c d)
  rw [hi48] at hj48
  obtain rfl := Option.some.inj hj48
  obtain ⟨r, o, hir, h5⟩ := hp48 hv48.symm
  obtain ⟨-, rfl, -⟩ := s3.mr.own 48 _ r o hi48 hir hro48
  obtain ⟨rec, hrec⟩ : ∃ rec : Loop, rec = { state := .ready, pending := none, fn, tmps := a3.tmps, params := #[10], assign := rfA RF, body := rfB RF, defers := w3.heap.size } := ⟨_, rfl⟩
  have eg : a3.eval (.tmp 9) = .func (.func 108) #[] #[v1, v2] := h9
  refine ⟨w3.heap.size + 1, [{ target := .collected w3.heap.size, args := #[] }], wIn w3 rec, { target := .fn (.func 108) #[v1, v2], args := #[.func (.yield (w3.heap.size + 1)) #[] #[]] }, wIn w3 rec, 108,
    #[.func (.yield (w3.heap.size + 1)) #[] #[], v1, v2], wIn w3 rec, ?_, ?_, fun _ _ => trivial, ?_, fun h => by simp [Fence.wide] at h, ?_⟩
  · subst hrec; exact run_enterLoop_outer _ _ _ _ _
  · simp only [resolve, eg]
    simp [go_sem]
  · have := call108 #[.func (.yield (w3.heap.size + 1)) #[] #[], v1, v2] (wIn w3 rec)
    simp [invoke, go_sem, this]
  refine callsIn_wide.2 (calls_of_wp Try.func108 body108 ?_)
  have hmr := ren_mr s3.mr (blks t a b c d) rfl
  have hm := ren_moves (out := []) s3.mr (foot := [96, 97, 48])
  have h96 : prel (phiC ψ [96, 97, 48] []) (0, 0) v1 := prel_move hv1 (hm _ _ _ (ren96 t a b c d))
  have h97 : prel (phiC ψ [96, 97, 48] []) (1, 0) v2 := prel_move hv2 (hm _ _ _ (ren97 t a b c d))
  have n3 : phiC ψ [96, 97, 48] [] 3 = none := hmr.dom 3 (Nat.le_refl 3)
  have hle : (phiC ψ [96, 97, 48] []).le (phi3 (phiC ψ [96, 97, 48] [])) := fun e i hi => ⟨i, by
    unfold phi3
    by_cases h : e = 3
    · subst h; rw [n3] at hi; cases hi
    · rw [if_neg h]; exact hi, .inl rfl⟩
  have hp2 : phi3 (phiC ψ [96, 97, 48] []) 2 = some ⟨i48.ty, i48.a, i48.z, i48.n, 0, i48.ro⟩ := by
    show phiC ψ [96, 97, 48] [] 2 = _
    exact phiC_nil_mk (foot := [96, 97, 48]) (i := 2) (b := 48) rfl hi48
  have hM1 := start_mr t a b c d hmr (o1 := .deferred (some [])) (o2 := .loop rec) rfl rfl
  have hl : w3.heap.size + 1 < (wIn w3 rec).heap.size := by rw [wIn_size]; omega
  have hnl : ¬ ((may (w3.heap.size + 1) ∨ w.heap.size ≤ w3.heap.size + 1) ∧ w3.heap.size + 1 < w3.heap.size) := fun h => by omega
  have hra : RecAt (wIn w3 rec) (w3.heap.size + 1) r rec := ⟨wIn_l w3 rec, by rw [hrec], by rw [hrec], by rw [hrec], by rw [hrec], by rw [hrec], by rw [hrec]; exact s3.sz, by rw [hrec]; exact h5⟩
  have hr : HR 63 lvC (wIn w3 rec) (fun e => (may e ∨ w.heap.size ≤ e) ∧ e < w3.heap.size) (phi3 (phiC ψ [96, 97, 48] [])) (hd (.func (.yield (w3.heap.size + 1)) #[] #[]) t a b c d [] [])
      { tmps := #[.func (.yield (w3.heap.size + 1)) #[] #[], v1, v2] ++ Array.replicate (Try.f108.ntmps - (#[Value.func (.yield (w3.heap.size + 1)) #[] #[], v1, v2]).size) undef, defers := [] } (wIn w3 rec) := by
    refine ⟨⟨?_, by rw [nt108]; simp, rfl, hM1⟩, ?_⟩
    · intro e lv h
      unfold filt at h
      split at h
      · match e, h with
        | 0, h =>
          obtain rfl : lv = .a (.val (.func (.yield (w3.heap.size + 1)) #[] #[])) := (Option.some.inj h).symm
          rw [(app3 _ _ _ _).1]
          exact ⟨⟨rfl, rfl⟩, rfl⟩
        | 1, h =>
          obtain rfl : lv = .a (.ptr 0 0) := (Option.some.inj h).symm
          rw [(app3 _ _ _ _).2.1]
          exact vrel.mono hle h96
        | 2, h =>
          obtain rfl : lv = .a (.ptr 1 0) := (Option.some.inj h).symm
          rw [(app3 _ _ _ _).2.2]
          exact vrel.mono hle h97
        | n + 3, h => cases h
      · cases h
    · intro e j hj
      unfold phi3 at hj
      split at hj
      · rename_i h3
        subst h3
        obtain rfl := Option.some.inj hj
        exact ⟨by rw [hd_len]; omega, rfl⟩
      · obtain ⟨b', j1, k1, -, rfl⟩ := phiC_nil_get hj
        have := (List.getElem?_eq_some_iff.1 k1).1
        have h3 : e < 3 := this
        exact ⟨by rw [hd_len]; omega, rfl⟩
  have fin : ∀ (a' : Act) (w' : World) (χ : Phi) (e0 e1 e2 e3 : Int) (m : List (Nat × LV)), Kp [3] (phi3 (phiC ψ [96, 97, 48] [])) χ → HR 63 lvC (wIn w3 rec) (fun e => (may e ∨ w.heap.size ≤ e) ∧ e < w3.heap.size) χ (hd (.func (.yield (w3.heap.size + 1)) #[] #[]) t e0 e1 e2 e3 (cells t a b c d) m) a' w' →
      a'.defers = [] ∧ ∃ v, (results Try.f108 a'.tmps).run Try.prog w' = .ok v w' ∧ rangePost Fence.wide 1 Try.prog (w3.heap.size + 1) Q { a3 with defers := [{ target := .collected w3.heap.size, args := #[] }] ++ a3.defers } (.returned v) w' := by
    intro a' w' χ e0 e1 e2 e3 m hk hr'
    refine ⟨hr'.sr.df, .tuple #[], by simp [results], ?_⟩
    have hM' := hr'.sr.mr
    have hw' := (hM'.block _ hl hnl).trans (wIn_l w3 rec)
    have hend := run_endLoop (P := Try.prog) hw' (by rw [hrec]; simp)
    have hpe : rec.pending = none := by rw [hrec]
    refine ⟨none, w'.putObj (w3.heap.size + 1) (.loop { rec with state := .exhausted }), by rw [hend, hpe], ?_⟩
    have hput := hM'.putO hw' rfl (wIn_l w3 rec) rfl (o' := .loop { rec with state := .exhausted }) rfl
    refine hQ rec _ χ e0 e1 e2 e3 (hput : _) ?_
    intro e lv h
    by_cases he : e = 5
    · subst he
      obtain rfl : lv = .a (.ptr 2 0) := (Option.some.inj h).symm
      rw [h5]
      obtain ⟨j, q1, -, q3⟩ := hk 2 _ hp2
      rw [q3 rfl] at q1
      exact ⟨⟨rfl, rfl⟩, _, q1, Nat.le_refl _, fun _ => ⟨r, 0, hir, rfl⟩⟩
    · exfalso
      unfold V.look at h
      rw [show Nat.beq e 5 = false from by cases q : Nat.beq e 5; rfl; exact absurd (Nat.eq_of_beq_eq_true q) he] at h
      cases h
  refine cells_wp hl hnl hra t a b c d hr ⟨_, hp2, hir⟩ fun a' w' χ e0 e1 e2 e3 m hk hr' => ⟨fin a' w' χ e0 e1 e2 e3 m hk hr', fin a' w' χ e0 e1 e2 e3 m hk hr'⟩
end Ra

end Go.Proofs.Ytcdejlgophpdjaa
end

section
namespace Go.Proofs.Ytcdejlgophpdjaa
open Go Go.RowKit Go.Proofs.Ytcdejlgophpdjaa.V
set_option linter.unusedVariables false
set_option linter.unusedSectionVars false

namespace Ra

theorem y0_eq (t : Nat → Int) (a b c d : Int) : ev Try.prog tabRa6 16 lvL [] 2000 false L0 1 (V.look [(0, trG t), (1, bxG a b c d)]) (fun _ => none) (fun _ => none) 0 = some ([], [⟨.n, false, true, evD (Y0 t a b c d), 48⟩]) := by
  have h := oneN_spec (y0_one t a b c d)
  rw [y0_obs, y0_n] at h
  exact h
theorem y1_eq (t : Nat → Int) (a b c d : Int) : ev Try.prog tabRa6 16 lvL [] 2000 false L1 1 (S0 t a b c d) (M0 t a b c d) (H0 t a b c d) 48 = some ([], [⟨.n, false, true, evD (Y1 t a b c d), 64⟩]) := by
  have h := oneN_spec (y1_one t a b c d)
  rw [y1_obs, y1_n] at h
  exact h
theorem y2_eq (t : Nat → Int) (a b c d : Int) : ev Try.prog tabRa6 16 lvL [] 2000 false L2 1 (S1 t a b c d) (M1 t a b c d) (H1 t a b c d) 64 = some ([], [⟨.n, false, true, evD (Y2 t a b c d), 112⟩]) := by
  have h := oneN_spec (y2_one t a b c d)
  rw [y2_obs, y2_n] at h
  exact h

/-- A list's block, as it is left. -/
def outL (l : List (List Int)) : List (Option BC) := [some (rB l)]

/-- Behind all: what is handed back. -/
theorem end_mr {w w8 : World} {may : Nat → Prop} {χ : Phi} {l : List (List Int)} {i : Inf} (hφ : χ 3 = some i) (hh : HdOK (w8.heap[·]?) i ⟨0, 0, false, some ⟨0, sh7, l, none⟩⟩)
    (how : ∀ r o, i.a = some (r, o) → i.ro = false → (may r ∨ w.heap.size ≤ r) ∧ o = 0 ∧ ∃ arr, w8.heap[r]? = some (.cells arr i.ty (0, 0)) ∧ arr.size = i.z)
    (hos : w8.os = w.os) (htape : w8.tape = w.tape) (hout : w8.output = w.output) (hsize : w.heap.size ≤ w8.heap.size) (hblk : ∀ k, k < w.heap.size → ¬ may k → w8.heap[k]? = w.heap[k]?) (hfrz : ∀ p, w8.frozen? p = w.frozen? p) :
    MR w may (fun e => if e = 0 then some i else none) (memAft [] (outL l)) (hdsAft [] (outL l)) (fun b => (outL l).length ≤ b) w8 := by
  have inv : ∀ {e : Nat} {j : Inf}, (fun e => if e = 0 then some i else none : Phi) e = some j → e = 0 ∧ j = i := fun {e j} h => by
    by_cases h0 : e = 0
    · subst h0
      have : some i = some j := h
      exact ⟨rfl, (Option.some.inj this).symm⟩
    · simp only [if_neg h0] at h
      cases h
  have nomem : ∀ k, memAft [] (outL l) k = none := fun k => by
    unfold memAft aft outL
    by_cases h0 : k / 65536 = 0
    · rw [h0]; rfl
    · obtain ⟨m, hm⟩ : ∃ m, k / 65536 = m + 1 := ⟨k / 65536 - 1, by omega⟩
      rw [hm]
      cases m <;> rfl
  have hro : i.ro = false := hh.2.1
  constructor
  · intro k x hx; rw [nomem] at hx; cases hx
  · intro e g hg
    unfold hdsAft aft outL at hg
    by_cases h0 : e = 0
    · subst h0
      have hg' : g = ⟨0, 0, false, some ⟨0, sh7, l, none⟩⟩ := by
        have : some (⟨0, 0, false, some ⟨0, sh7, l, none⟩⟩ : Hd) = some g := hg
        exact (Option.some.inj this).symm
      subst hg'
      exact ⟨i, by simp, hh⟩
    · obtain ⟨m, hm⟩ : ∃ m, e = m + 1 := ⟨e - 1, by omega⟩
      rw [hm] at hg
      cases m <;> cases hg
  · intro k x g hx; rw [nomem] at hx; cases hx
  · intro e e' j j' r o o' he he' _ _
    exact .inl ((inv he).1.trans (inv he').1.symm)
  · intro e j r o he hj hjr
    obtain ⟨_, rfl⟩ := inv he
    exact how r o hj hjr
  · intro e j r o he hj hjr
    obtain ⟨_, rfl⟩ := inv he
    rw [hro] at hjr; cases hjr
  · intro e he
    have : 1 ≤ e := he
    show (if e = 0 then some i else none) = none
    rw [if_neg (by omega)]
  · intro e j r o he hj
    obtain ⟨_, rfl⟩ := inv he
    obtain ⟨_, _, arr, h, _⟩ := how r o hj hro
    exact (Array.getElem?_eq_some_iff.1 h).1
  · exact hos
  · exact htape
  · exact hout
  · exact hsize
  · exact hblk
  · exact hfrz

set_option maxRecDepth 100000 in
/-- Behind the loop: the list is loaded and handed back. -/
theorem back_ok (t : Nat → Int) (a b c d : Int) {w w3 : World} {may : Nat → Prop} {φ ψ : Phi} {a3 : Act} (s3 : SR 16 lvL w may ψ (S2 t a b c d) (M2 t a b c d) (H2 t a b c d) 112 a3 w3) (hφ : ∀ e, φ e = none) {rec : Loop} {w4 : World} {χ : Phi} {e0 e1 e2 e3 : Int}
    (h4 : MR ((wIn w3 rec).putObj (w3.heap.size + 1) (.loop { rec with state := .exhausted })) (fun e => (may e ∨ w.heap.size ≤ e) ∧ e < w3.heap.size) χ (memOf (bsF t (cells t a b c d) e0 e1 e2 e3)) (hdsB (bsF t (cells t a b c d) e0 e1 e2 e3)) (fun e => 4 ≤ e) w4)
    (ht : TRel χ (V.look [(5, .a (.ptr 2 0))]) a3.tmps) {R : Ending → World → Prop} (hR : (fun (e : Ending) (w' : World) => ∃ v' φ', e = .returned v' ∧ φ.le φ' ∧ (LV.a (.vec 0 0 7)).rel φ' v' ∧ MR w may φ' (memAft [] (outL (cells t a b c d))) (hdsAft [] (outL (cells t a b c d))) (fun e => (outL (cells t a b c d)).length ≤ e) w') = R) :
    (Code.seq (.region (idOf L5) (opsOf L5) false) .ret).wp Try.prog (bodyPostM Fence.wide 1 Try.prog Try.f45 R) { a3 with defers := { target := .collected w3.heap.size, args := #[] } :: a3.defers } w4 := by
  refine wp_seq ((wpIn_wide (n := 1)).1 (wpIn_region_list ?_))
  show wpListIn (roF none) 1 Try.prog (opsOf L5) _ (opsOf L5).toList _ w4
  refine runOps_wp0 tabRa6_ok (opsOf L5).toList 4 _ _ _ (x7_eq t (cells t a b c d) e0 e1 e2 e3) trivial χ _ w4 ht s3.sz h4 fun χ2 a5 w5 q1 q2 q3 q4 q5 => ?_
  show Code.ret.wp Try.prog (bodyPostM Fence.wide 1 Try.prog Try.f45 R) a5 w5
  refine wp_ret ?_
  have hd : w3.heap.size < ((wIn w3 rec).putObj (w3.heap.size + 1) (.loop { rec with state := .exhausted })).heap.size := by rw [World.putObj_size, wIn_size]; omega
  have hd0 : ((wIn w3 rec).putObj (w3.heap.size + 1) (.loop { rec with state := .exhausted })).heap[w3.heap.size]? = some (.deferred (some [])) := (World.putObj_heap_other (by omega)).trans (wIn_d w3 rec)
  have hd5 : w5.heap[w3.heap.size]? = some (.deferred (some [])) := (q5.block _ hd (fun h => by omega)).trans hd0
  have q6 := q5.putO hd5 rfl hd0 rfl (o' := .deferred none) rfl
  have hdef : a5.defers = [{ target := .collected w3.heap.size, args := #[] }] := by rw [q4, s3.df]
  show LeavesInM Fence.wide 1 Try.prog Try.f45 a5.tmps R a5.defers .returning w5
  rw [hdef]
  refine ⟨by simp, .inl ⟨w3.heap.size, _, rfl, run_takeDeferred hd5, ?_⟩⟩
  refine ⟨_, results_tmp res45 _ _ _, ?_⟩
  subst hR
  obtain ⟨i, hi, hh⟩ := q6.hdr 3 _ (x7_h t (cells t a b c d) e0 e1 e2 e3)
  obtain ⟨k1, i', hi', k2, k3⟩ := (show vrel χ2 3 0 (a5.tmps.getD 4 undef) (vecR 7 (a5.tmps.getD 4 undef)) from q2 4 _ (x7_4 t (cells t a b c d) e0 e1 e2 e3))
  rw [hi] at hi'
  obtain rfl := Option.some.inj hi'
  refine ⟨_, fun e => if e = 0 then some i else none, rfl, (fun e j hj => by rw [hφ e] at hj; cases hj), ⟨k1, i, by simp, k2, k3⟩, ?_⟩
  have old : ∀ {k : Nat}, k < w3.heap.size → (((wIn w3 rec).putObj (w3.heap.size + 1) (.loop { rec with state := .exhausted })).putObj w3.heap.size (.deferred none)).heap[k]? = w3.heap[k]? := fun {k} h => by
    rw [World.putObj_heap_other (by omega), World.putObj_heap_other (by omega), wIn_old w3 rec h]
  have hsz : (((wIn w3 rec).putObj (w3.heap.size + 1) (.loop { rec with state := .exhausted })).putObj w3.heap.size (.deferred none)).heap.size = w3.heap.size + 2 := by rw [World.putObj_size, World.putObj_size, wIn_size]
  have hs := q6.size
  rw [hsz] at hs
  refine end_mr (w := w) (may := may) hi hh ?_ ?_ ?_ ?_ ?_ ?_ ?_
  · intro r o ha hro
    obtain ⟨f1, f2⟩ := q6.own 3 i r o hi ha hro
    refine ⟨?_, f2⟩
    rcases f1 with f1 | f1
    · exact f1.1
    · rw [hsz] at f1
      have := s3.mr.size
      exact .inr (by omega)
  · rw [q6.os]; exact s3.mr.os
  · rw [q6.tape]; exact s3.mr.tape
  · rw [q6.output]; exact s3.mr.output
  · have := s3.mr.size; omega
  · intro k hk hm
    have h3 : k < w3.heap.size := Nat.lt_of_lt_of_le hk s3.mr.size
    rw [q6.block k (by rw [hsz]; omega) (fun h => h.1.elim hm (fun h => by omega)), old h3]
    exact s3.mr.block k hk hm
  · intro p
    rw [q6.frz, frozen_putO hd0 rfl rfl, frozen_putO (wIn_l w3 rec) rfl rfl, wIn_frz]
    exact s3.mr.frz p

set_option maxRecDepth 100000 in
theorem list_calls (t : Nat → Int) (a b c d : Int) (φ : Phi) (vs : Array Value) (w : World) (may : Nat → Prop) (ha : All2 (LV.rel φ) [trG t, bxG a b c d] vs.toList) (hM : MR w may φ (memOf []) (hdsIn [] (outL (cells t a b c d))) (fun e => ([] : List BC).length ≤ e) w) :
    Calls Try.prog 45 vs w fun e w' => ∃ v' φ', e = .returned v' ∧ φ.le φ' ∧ (LV.a (.vec 0 0 7)).rel φ' v' ∧ MR w may φ' (memAft [] (outL (cells t a b c d))) (hdsAft [] (outL (cells t a b c d))) (fun e => (outL (cells t a b c d)).length ≤ e) w' := by
  have hvs : vs.size = 2 := by
    have := ha.length
    simpa using this.symm
  refine (callsIn_wide (n := 1)).1 (callsIn_of_wp_marks Try.func45 body45 trivial ?_ rfl)
  refine wpIn_wide.2 ?_
  rw [cl_eq]
  have hM0 : MR w may φ (fun _ => none) (fun _ => none) (fun e => 0 ≤ e) w := hM.less (fun k x h => by cases h) (fun e g h => by cases h)
  have s0 : SR 16 lvL w may φ (V.look [(0, trG t), (1, bxG a b c d)]) (fun _ => none) (fun _ => none) 0 { tmps := vs ++ Array.replicate (Try.f45.ntmps - vs.size) undef, defers := [] } w := by
    refine ⟨?_, by rw [nt45, hvs]; simp [hvs], rfl, hM0⟩
    intro e lv h
    unfold filt at h
    split at h
    · obtain ⟨_, h2⟩ := args0_look [trG t, bxG a b c d] 0 e lv h
      simp only [Nat.sub_zero] at h2
      obtain ⟨x, hx, hr⟩ := ha.get h2
      have hx' : vs[e]? = some x := by simpa using hx
      have hlt : e < vs.size := (Array.getElem?_eq_some_iff.1 hx').1
      rw [Array.getD_eq_getD_getElem?, Array.getElem?_append_left hlt, hx']
      exact hr
    · cases h
  refine wp_seq ?_
  have k0 := ev_wp tabRa6_ok follows 2000 false L0 1 _ _ _ _ (y0_eq t a b c d) (LOK_nil _ _) trivial w may φ _ w s0 (Exit.then ((Code.seq L1 (.seq (.seq L2 (.block 0 (.rangeFunc (.tmp 9) #[10] (rfA RF) (rfB RF)))) (.seq (.region (idOf L5) (opsOf L5) false) .ret))).wp Try.prog (bodyPostM Fence.wide 1 Try.prog Try.f45 fun e w' => ∃ v' φ', e = .returned v' ∧ φ.le φ' ∧ (LV.a (.vec 0 0 7)).rel φ' v' ∧ MR w may φ' (memAft [] (outL (cells t a b c d))) (hdsAft [] (outL (cells t a b c d))) (fun e => (outL (cells t a b c d)).length ≤ e) w')) (bodyPostM Fence.wide 1 Try.prog Try.f45 fun e w' => ∃ v' φ', e = .returned v' ∧ φ.le φ' ∧ (LV.a (.vec 0 0 7)).rel φ' v' ∧ MR w may φ' (memAft [] (outL (cells t a b c d))) (hdsAft [] (outL (cells t a b c d))) (fun e => (outL (cells t a b c d)).length ≤ e) w')) fun e a1 w1 hg => by
    obtain ⟨⟨α, hα, hx, -, ψ, hle, s1⟩, -⟩ := hg
    rw [List.mem_singleton] at hα
    subst hα
    subst hx
    generalize hR : (fun (e : Ending) (w' : World) => ∃ v' φ', e = .returned v' ∧ φ.le φ' ∧ (LV.a (.vec 0 0 7)).rel φ' v' ∧ MR w may φ' (memAft [] (outL (cells t a b c d))) (hdsAft [] (outL (cells t a b c d))) (fun e => (outL (cells t a b c d)).length ≤ e) w') = R
    show (Code.seq L1 _).wp Try.prog (bodyPostM Fence.wide 1 Try.prog Try.f45 R) a1 w1
    refine wp_seq ?_
    have k1 := ev_wp tabRa6_ok follows 2000 false L1 1 _ _ _ _ (y1_eq t a b c d) (LOK_nil _ _) trivial w may ψ a1 w1 s1 (Exit.then ((Code.seq (.seq L2 (.block 0 (.rangeFunc (.tmp 9) #[10] (rfA RF) (rfB RF)))) (.seq (.region (idOf L5) (opsOf L5) false) .ret)).wp Try.prog (bodyPostM Fence.wide 1 Try.prog Try.f45 R)) (bodyPostM Fence.wide 1 Try.prog Try.f45 R)) fun e a2 w2 hg => by
      obtain ⟨⟨α, hα, hx, -, ψ2, hle2, s2⟩, -⟩ := hg
      rw [List.mem_singleton] at hα
      subst hα
      subst hx
      show (Code.seq (.seq L2 _) _).wp Try.prog (bodyPostM Fence.wide 1 Try.prog Try.f45 R) a2 w2
      refine wp_seq (wp_seq ?_)
      have k2 := ev_wp tabRa6_ok follows 2000 false L2 1 _ _ _ _ (y2_eq t a b c d) (LOK_nil _ _) trivial w may ψ2 a2 w2 s2 (Exit.then ((Code.block 0 (.rangeFunc (.tmp 9) #[10] (rfA RF) (rfB RF))).wp Try.prog (Exit.then ((Code.seq (.region (idOf L5) (opsOf L5) false) .ret).wp Try.prog (bodyPostM Fence.wide 1 Try.prog Try.f45 R)) (bodyPostM Fence.wide 1 Try.prog Try.f45 R))) (Exit.then ((Code.seq (.region (idOf L5) (opsOf L5) false) .ret).wp Try.prog (bodyPostM Fence.wide 1 Try.prog Try.f45 R)) (bodyPostM Fence.wide 1 Try.prog Try.f45 R))) fun e a3 w3 hg => by
        obtain ⟨⟨α, hα, hx, -, ψ3, hle3, s3⟩, -⟩ := hg
        rw [List.mem_singleton] at hα
        subst hα
        subst hx
        show (Code.block 0 (.rangeFunc (.tmp 9) #[10] (rfA RF) (rfB RF))).wp Try.prog _ a3 w3
        refine wp_block (loop_wp t a b c d s3 fun rec w4 χ e0 e1 e2 e3 h4 ht => ?_)
        have b4 := back_ok t a b c d s3 (fun e => hM0.dom e (Nat.zero_le e)) h4 ht hR
        simpa [Exit.inBlock, Exit.then] using b4
      simpa using k2
    simpa using k1
  simpa using k0
end Ra

end Go.Proofs.Ytcdejlgophpdjaa
end

section
namespace Go.Proofs.Ytcdejlgophpdjaa
open Go Go.RowKit Go.Proofs.Ytcdejlgophpdjaa.V
set_option linter.unusedVariables false

/-- A triangle by its numbers. -/
def tg (x0 x1 x2 x3 x4 x5 x6 x7 x8 x9 x10 x11 x12 x13 x14 x15 x16 x17 x18 x19 x20 x21 x22 x23 : Int) : Nat → Int := fun n => [x0, x1, x2, x3, x4, x5, x6, x7, x8, x9, x10, x11, x12, x13, x14, x15, x16, x17, x18, x19, x20, x21, x22, x23].getD n 0
/-- Its pixels in a box. -/
def lc (x0 x1 x2 x3 x4 x5 x6 x7 x8 x9 x10 x11 x12 x13 x14 x15 x16 x17 x18 x19 x20 x21 x22 x23 : Int) (b0 b1 b2 b3 : Int) : List (List Int) := Ra.cells (tg x0 x1 x2 x3 x4 x5 x6 x7 x8 x9 x10 x11 x12 x13 x14 x15 x16 x17 x18 x19 x20 x21 x22 x23) b0 b1 b2 b3
def listC : Con
  | [.g [.int true .i64 x0, .int true .i64 x1, .int true .i64 x2, .int true .i64 x3, .int true .i64 x4, .int true .i64 x5, .int true .i64 x6, .int true .i64 x7, .int true .i64 x8, .int true .i64 x9, .int true .i64 x10, .int true .i64 x11, .int true .i64 x12, .int true .i64 x13, .int true .i64 x14, .int true .i64 x15, .int true .i64 x16, .int true .i64 x17, .int true .i64 x18, .int true .i64 x19, .int true .i64 x20, .int true .i64 x21, .int true .i64 x22, .int true .i64 x23], .g [.int true .i64 b0, .int true .i64 b1, .int true .i64 b2, .int true .i64 b3]], [] => some ([], .a (.vec 0 0 7), [some ⟨⟨0, 0, false, some ⟨0, [.int .i64, .int .i64, .int .i64, .int .i64, .int .i64, .int .i64, .int .i64], lc x0 x1 x2 x3 x4 x5 x6 x7 x8 x9 x10 x11 x12 x13 x14 x15 x16 x17 x18 x19 x20 x21 x22 x23 b0 b1 b2 b3, none⟩⟩, []⟩])
  | _, _ => none
theorem listC_ok : ConOK Try.prog 45 (normC listC) := normC_ok (by
  intro args bs obs lv out h ho φ vs w may ha hM
  unfold listC at h
  split at h
  · simp only [Option.some.injEq, Prod.mk.injEq] at h
    obtain ⟨rfl, rfl, rfl⟩ := h
    rename_i x0 x1 x2 x3 x4 x5 x6 x7 x8 x9 x10 x11 x12 x13 x14 x15 x16 x17 x18 x19 x20 x21 x22 x23 b0 b1 b2 b3
    exact Ra.list_calls (tg x0 x1 x2 x3 x4 x5 x6 x7 x8 x9 x10 x11 x12 x13 x14 x15 x16 x17 x18 x19 x20 x21 x22 x23) b0 b1 b2 b3 φ vs w may ha hM
  · cases h)
def tabRd0 : Tab := (45, normC listC) :: tabRa6
theorem tabRd0_ok : TOK Try.prog tabRd0 := TOK.cons Ra.f45_en listC_ok tabRa6_ok

end Go.Proofs.Ytcdejlgophpdjaa
end

section
namespace Go.Proofs.Ytcdejlgophpdjaa
open Go Go.RowKit Go.Proofs.Ytcdejlgophpdjaa.V
set_option linter.unusedVariables false

/-! azulejo/azulejolaw18.Awake -/
def l18Aw_0 : Bool := bif sm13Tri_9 (-100 : Int) (-100 : Int) (120 : Int) (-100 : Int) (-100 : Int) (120 : Int) (0 : Int) then bif decide ((20 : Int) < Int.ofNat (91 : Nat)) then Int.ofNat (0 : Nat) == (0 : Int) else false else false
theorem l18Aw_p  : evG Try.prog tabRd0 2000 43 [0, 1, 2] [] [] [] [] = some ([], LV.a (At.bool true l18Aw_0), []) := by kernel_rfl
def l18Aw_c : Con
  | [], [] => some ([], LV.a (At.bool true l18Aw_0), [])
  | _, _ => none
theorem l18Aw_ok : ConOK Try.prog 43 (normC l18Aw_c) := normC_ok (by
  intro args bs obs lv out h ho φ vs w may ha hM
  unfold l18Aw_c at h
  split at h
  · simp only [Option.some.injEq, Prod.mk.injEq] at h
    obtain ⟨rfl, rfl, rfl⟩ := h
    exact evG_ok tabRd0_ok follows _ _ _ _ _ (l18Aw_p ) ho φ vs w may ha hM
  · cases h)
theorem l18Aw_en : Enters Try.prog 43 := fun args => by kernel_rfl
-- 296 572 3 ms

def tabRd1 : Tab := (43, normC l18Aw_c) :: tabRd0
theorem tabRd1_ok : TOK Try.prog tabRd1 := TOK.cons l18Aw_en l18Aw_ok (tabRd0_ok)

end Go.Proofs.Ytcdejlgophpdjaa
end

section
namespace Go.Proofs.Ytcdejlgophpdjaa
open Go Go.RowKit Go.Proofs.Ytcdejlgophpdjaa.V
set_option linter.unusedVariables false
set_option linter.unusedSectionVars false

namespace Ra
theorem rowX_mem (t : Nat → Int) (y : Int) : ∀ (n : Nat) (x : Int) (l : List (List Int)) (r : List Int), r ∈ rowX t y n x l → r ∈ l ∨ ∃ x', x ≤ x' ∧ x' < x + n ∧ at5 t x' y = true ∧ r = row t x' y
  | 0, x, l, r, h => .inl h
  | n + 1, x, l, r, h => by
    unfold rowX at h
    rcases rowX_mem t y n (x + 1) _ r h with h | ⟨x', h1, h2, h3⟩
    · cases hq : at5 t x y with
      | false => rw [hq] at h; exact .inl h
      | true =>
        rw [hq] at h
        simp only [cond_true, List.mem_append, List.mem_singleton] at h
        rcases h with h | h
        · exact .inl h
        · exact .inr ⟨x, Int.le_refl _, by omega, hq, h⟩
    · exact .inr ⟨x', by omega, by omega, h3⟩
theorem rowsY_mem (t : Nat → Int) (m : Nat) (a : Int) : ∀ (n : Nat) (y : Int) (l : List (List Int)) (r : List Int), r ∈ rowsY t m a n y l → r ∈ l ∨ ∃ x' y', a ≤ x' ∧ x' < a + m ∧ y ≤ y' ∧ y' < y + n ∧ at5 t x' y' = true ∧ r = row t x' y'
  | 0, y, l, r, h => .inl h
  | n + 1, y, l, r, h => by
    unfold rowsY at h
    rcases rowsY_mem t m a n (y + 1) _ r h with h | ⟨x', y', h1, h2, h3, h4, h5⟩
    · rcases rowX_mem t y m a l r h with h | ⟨x', h1, h2, h3⟩
      · exact .inl h
      · exact .inr ⟨x', y, h1, h2, Int.le_refl _, by omega, h3⟩
    · exact .inr ⟨x', y', h1, h2, by omega, by omega, h5⟩
theorem rowsY_len (t : Nat → Int) (m : Nat) (a : Int) : ∀ (n : Nat) (y : Int) (l : List (List Int)), (rowsY t m a n y l).length ≤ l.length + n * m
  | 0, y, l => by unfold rowsY; omega
  | n + 1, y, l => by
    unfold rowsY
    have h1 := rowsY_len t m a n (y + 1) (rowX t y m a l)
    have h2 := rowX_len t y m a l
    rw [Nat.succ_mul]
    omega
theorem lo_ge (a : Int) : 0 ≤ lo a ∧ a ≤ lo a := by unfold lo; split <;> omega
theorem up_le (a : Int) : up a ≤ 64 ∧ up a ≤ a := by unfold up; split <;> omega
theorem cells_len (t : Nat → Int) (a b c d : Int) : (cells t a b c d).length ≤ 4096 := by
  unfold cells
  cases ck t != 0
  · show (rowsY t (up c - lo a).toNat (lo a) (up d - lo b).toNat (lo b) []).length ≤ 4096
    refine Nat.le_trans (rowsY_len t _ _ _ _ _) ?_
    have l1 := lo_ge a
    have l2 := lo_ge b
    have u1 := up_le c
    have u2 := up_le d
    have := Nat.mul_le_mul (show (up d - lo b).toNat ≤ 64 by omega) (show (up c - lo a).toNat ≤ 64 by omega)
    simp only [List.length_nil]
    omega
  · exact Nat.zero_le _
theorem cells_mem {t : Nat → Int} {a b c d : Int} {r : List Int} (h : r ∈ cells t a b c d) : ck t = 0 ∧ ∃ x y, lo a ≤ x ∧ x < up c ∧ lo b ≤ y ∧ y < up d ∧ at5 t x y = true ∧ r = row t x y := by
  unfold cells at h
  cases hq : ck t != 0 with
  | true => rw [hq] at h; cases h
  | false =>
    rw [hq] at h
    refine ⟨?_, ?_⟩
    · by_cases e : ck t = 0
      · exact e
      · have : (ck t != 0) = true := by simp [e]
        rw [this] at hq; cases hq
    · rcases rowsY_mem t _ _ _ _ _ r h with h | ⟨x, y, h1, h2, h3, h4, h5, h6⟩
      · cases h
      · exact ⟨x, y, h1, by omega, h3, by omega, h5, h6⟩
theorem cells_none {t : Nat → Int} {a b c d : Int} (h : (ck t != 0) = true) : cells t a b c d = [] := by unfold cells; rw [h]; rfl
theorem rget_mem {l : List (List Int)} {i : Nat} (h : i < l.length) : ∃ r ∈ l, ∀ j, rget l i j = r.getD j 0 := by
  refine ⟨l[i], List.getElem_mem h, fun j => ?_⟩
  unfold rget
  rw [show l.getD i [] = l[i] from by rw [List.getD_eq_getElem?_getD, List.getElem?_eq_getElem h]; rfl]
/-- A loop that goes round so many times. -/
theorem inv_run {α : Type} {st : α → List Prop × List (X × Bool × α)} {I : Nat → α → Prop} {n : Nat} {x : X} (hx : x ≠ .n) (hs : ∀ i v, i < n → I i v → ∃ v', pick1 (st v).2 = some (.n, v') ∧ I (i + 1) v') (he : ∀ v, I n v → pick1 (st v).2 = some (x, v)) (ho : ∀ i v, i ≤ n → I i v → Alls (st v).1) :
    ∀ (d i : Nat) (v : α), i + d = n → I i v → ∀ f, d < f → (∃ v', lrun st f v = some (x, v') ∧ I n v') ∧ lok st f v
  | d, i, v, hi, h, 0, hf => by omega
  | 0, i, v, hi, h, f + 1, _ => by
    have : i = n := by omega
    subst this
    unfold lrun lok
    rw [he v h]
    refine ⟨⟨v, ?_, h⟩, ho i v (by omega) h, ?_⟩ <;> cases x <;> first | rfl | trivial | exact absurd rfl hx
  | d + 1, i, v, hi, h, f + 1, _ => by
    obtain ⟨v', h1, h2⟩ := hs i v (by omega) h
    obtain ⟨⟨u, a, b⟩, c⟩ := inv_run hx hs he ho d (i + 1) v' (by omega) h2 f (by omega)
    unfold lrun lok
    rw [h1]
    exact ⟨⟨u, a, b⟩, ho i v (by omega) h, c⟩
theorem aw : l18Aw_0 = true := by kernel_rfl
end Ra

end Go.Proofs.Ytcdejlgophpdjaa
end

section
namespace Go.Proofs.Ytcdejlgophpdjaa
open Go Go.RowKit Go.Proofs.Ytcdejlgophpdjaa.V
set_option linter.unusedVariables false

/-! azulejo/azulejolaw18.RasterStops$1 -/
def lSt1_s0 (k : Int) : Int := IntKind.wrap IntKind.i64 (k + (1 : Int))
def lSt1_0 (k u : Int) : Bool := decide (lSt1_s0 k ≤ IntKind.wrap IntKind.i64 (Int.tmod u (40 : Int)))
def lSt1_s1 (k : Int) (l : List (List Int)) : Bool := decide (k < Int.ofNat (List.length l))
def lSt1_1 (x0_0 x0_1 x0_2 x0_3 x0_4 x0_5 x0_6 : Int) (r : Bool) (k : Int) (l : List (List Int)) : Bool := bif r then bif lSt1_s1 k l then x0_0 == rget l (Int.toNat k) (0 : Nat) && (x0_1 == rget l (Int.toNat k) (1 : Nat) && (x0_2 == rget l (Int.toNat k) (2 : Nat) && (x0_3 == rget l (Int.toNat k) (3 : Nat) && (x0_4 == rget l (Int.toNat k) (4 : Nat) && (x0_5 == rget l (Int.toNat k) (5 : Nat) && x0_6 == rget l (Int.toNat k) (6 : Nat)))))) else false else false
def lSt1_o (x0_0 x0_1 x0_2 x0_3 x0_4 x0_5 x0_6 : Int) (r : Bool) (k : Int) (f0 f1 : Bool) (l : List (List Int)) (f2 : Bool) (u : Int) : List Prop := [r = true → lSt1_s1 k l = true → (0 : Int) ≤ k ∧ k < Int.ofNat (List.length l)]
theorem lSt1_p (x0_0 x0_1 x0_2 x0_3 x0_4 x0_5 x0_6 : Int) (r : Bool) (k : Int) (f0 f1 : Bool) (l : List (List Int)) (f2 : Bool) (u : Int) : evG Try.prog tabRd1 2000 49 [0, 1, 2, 3, 4, 5, 6] [] [0, 1] [.g [.int true .i64 x0_0, .int true .i64 x0_1, .int true .i64 x0_2, .int true .i64 x0_3, .int true .i64 x0_4, .int true .i64 x0_5, .int true .i64 x0_6], .a (.ptr 0 0), .a (.ptr 1 0), .a (.ptr 2 0), .a (.ptr 4 0)] (padBs [⟨⟨0, 1, false, none⟩, [some (.bool true r)]⟩, ⟨⟨0, 1, false, none⟩, [some (.int true .i64 k)]⟩, ⟨⟨0, 1, f0, none⟩, [some (.vec 3 0 7)]⟩, ⟨⟨0, 0, f1, some ⟨0, [.int .i64, .int .i64, .int .i64, .int .i64, .int .i64, .int .i64, .int .i64], l, none⟩⟩, []⟩, ⟨⟨0, 1, f2, none⟩, [some (.int true .u8 u)]⟩]) = some (lSt1_o x0_0 x0_1 x0_2 x0_3 x0_4 x0_5 x0_6 r k f0 f1 l f2 u, LV.a (At.bool true (lSt1_0 k u)), padOut [some (BC.mk (Hd.mk (nat_lit 0) (nat_lit 1) false none) [some (At.bool true (lSt1_1 x0_0 x0_1 x0_2 x0_3 x0_4 x0_5 x0_6 r k l))]), some (BC.mk (Hd.mk (nat_lit 0) (nat_lit 1) false none) [some (At.int true IntKind.i64 (lSt1_s0 k))]), none, none, none]) := by kernel_rfl
def lSt1_c0 : Con
  | [.g [.int true .i64 x0_0, .int true .i64 x0_1, .int true .i64 x0_2, .int true .i64 x0_3, .int true .i64 x0_4, .int true .i64 x0_5, .int true .i64 x0_6], .a (.ptr 0 0), .a (.ptr 1 0), .a (.ptr 2 0), .a (.ptr 4 0)], [⟨⟨0, 1, false, none⟩, [some (.bool true r)]⟩, ⟨⟨0, 1, false, none⟩, [some (.int true .i64 k)]⟩, ⟨⟨0, 1, f0, none⟩, [some (.vec 3 0 7)]⟩, ⟨⟨0, 0, f1, some ⟨0, [.int .i64, .int .i64, .int .i64, .int .i64, .int .i64, .int .i64, .int .i64], l, none⟩⟩, []⟩, ⟨⟨0, 1, f2, none⟩, [some (.int true .u8 u)]⟩] => some (lSt1_o x0_0 x0_1 x0_2 x0_3 x0_4 x0_5 x0_6 r k f0 f1 l f2 u, LV.a (At.bool true (lSt1_0 k u)), [some (BC.mk (Hd.mk (nat_lit 0) (nat_lit 1) false none) [some (At.bool true (lSt1_1 x0_0 x0_1 x0_2 x0_3 x0_4 x0_5 x0_6 r k l))]), some (BC.mk (Hd.mk (nat_lit 0) (nat_lit 1) false none) [some (At.int true IntKind.i64 (lSt1_s0 k))]), none, none, none])
  | _, _ => none
def lSt1_c : Con := packC lSt1_c0
theorem lSt1_ok : ConOK Try.prog 49 (normC lSt1_c) := normC_ok (packC_ok (by
  intro args bs obs lv out h ho φ vs w may ha hM
  unfold lSt1_c0 at h
  split at h
  · simp only [Option.some.injEq, Prod.mk.injEq] at h
    obtain ⟨rfl, rfl, rfl⟩ := h
    rename_i x0_0 x0_1 x0_2 x0_3 x0_4 x0_5 x0_6 r k f0 f1 l f2 u
    exact evG_ok tabRd1_ok follows _ _ _ _ _ (lSt1_p x0_0 x0_1 x0_2 x0_3 x0_4 x0_5 x0_6 r k f0 f1 l f2 u) ho φ vs w may ha hM
  · cases h))
theorem lSt1_en : Enters Try.prog 49 := fun args => by kernel_rfl
-- 625 33 9 ms

def tabRd5 : Tab := (49, normC lSt1_c) :: tabRd1
theorem tabRd5_ok : TOK Try.prog tabRd5 := TOK.cons lSt1_en lSt1_ok (tabRd1_ok)

end Go.Proofs.Ytcdejlgophpdjaa
end

section
namespace Go.Proofs.Ytcdejlgophpdjaa
open Go Go.RowKit Go.Proofs.Ytcdejlgophpdjaa.V
set_option linter.unusedVariables false

/-! azulejo/raster.Cells$1 -/
noncomputable def rCe1_l1993_code : Go.Code := loopOf (subs (bodyOf Try.prog 108) 1 1993)
structure rCe1_l1993_T where
  a0 : Int
  a1 : Int
  a2 : Bool
  a3 : Bool
  a4 : Int
  a5 : List (List Int)
  a6 : Int
  a7 : Int
  a8 : Int
  a9 : Int
  a10 : Int
  a11 : Int
  a12 : Int
  a13 : Int
  a14 : Int
  a15 : Int
  a16 : Int
  a17 : Int
  a18 : Int
  a19 : Int
  a20 : Int
  a21 : Int
  a22 : Int
  a23 : Int
  a24 : Int
  a25 : Int
  a26 : Int
  a27 : Int
  a28 : Int
  a29 : Int
  a30 : Int
  a31 : Int
  a32 : Int
  a33 : Int
  a34 : Int
  deriving Inhabited
def rCe1_l1993_hd (v : rCe1_l1993_T) : HS := HS.mk [(nat_lit 0, LV.a (At.fn (nat_lit 49) [(nat_lit 0, nat_lit 0), (nat_lit 1, nat_lit 0), (nat_lit 2, nat_lit 0), (nat_lit 4, nat_lit 0)])), (nat_lit 1, LV.a (At.ptr (nat_lit 5) (nat_lit 0))), (nat_lit 2, LV.a (At.ptr (nat_lit 6) (nat_lit 0))), (nat_lit 4, LV.a (At.int true IntKind.i64 (rCe1_l1993_T.a0 v))), (nat_lit 5, LV.a (At.int true IntKind.i64 (rCe1_l1993_T.a1 v))), (nat_lit 33, LV.a (At.bool true (rCe1_l1993_T.a2 v)))] [BC.mk (Hd.mk (nat_lit 0) (nat_lit 1) false none) [some (At.bool true (rCe1_l1993_T.a3 v))], BC.mk (Hd.mk (nat_lit 0) (nat_lit 1) false none) [some (At.int true IntKind.i64 (rCe1_l1993_T.a4 v))], BC.mk (Hd.mk (nat_lit 0) (nat_lit 1) true none) [some (At.vec (nat_lit 3) (nat_lit 0) (nat_lit 7))], BC.mk (Hd.mk (nat_lit 0) (nat_lit 0) true (some (Rw.mk (nat_lit 0) [Kd.int IntKind.i64, Kd.int IntKind.i64, Kd.int IntKind.i64, Kd.int IntKind.i64, Kd.int IntKind.i64, Kd.int IntKind.i64, Kd.int IntKind.i64] (rCe1_l1993_T.a5 v) none))) [], BC.mk (Hd.mk (nat_lit 0) (nat_lit 1) true none) [some (At.int true IntKind.u8 (rCe1_l1993_T.a6 v))], BC.mk (Hd.mk (nat_lit 0) (nat_lit 24) true none) [some (At.int true IntKind.i64 (rCe1_l1993_T.a7 v)), some (At.int true IntKind.i64 (rCe1_l1993_T.a8 v)), some (At.int true IntKind.i64 (rCe1_l1993_T.a9 v)), some (At.int true IntKind.i64 (rCe1_l1993_T.a10 v)), some (At.int true IntKind.i64 (rCe1_l1993_T.a11 v)), some (At.int true IntKind.i64 (rCe1_l1993_T.a12 v)), some (At.int true IntKind.i64 (rCe1_l1993_T.a13 v)), some (At.int true IntKind.i64 (rCe1_l1993_T.a14 v)), some (At.int true IntKind.i64 (rCe1_l1993_T.a15 v)), some (At.int true IntKind.i64 (rCe1_l1993_T.a16 v)), some (At.int true IntKind.i64 (rCe1_l1993_T.a17 v)), some (At.int true IntKind.i64 (rCe1_l1993_T.a18 v)), some (At.int true IntKind.i64 (rCe1_l1993_T.a19 v)), some (At.int true IntKind.i64 (rCe1_l1993_T.a20 v)), some (At.int true IntKind.i64 (rCe1_l1993_T.a21 v)), some (At.int true IntKind.i64 (rCe1_l1993_T.a22 v)), some (At.int true IntKind.i64 (rCe1_l1993_T.a23 v)), some (At.int true IntKind.i64 (rCe1_l1993_T.a24 v)), some (At.int true IntKind.i64 (rCe1_l1993_T.a25 v)), some (At.int true IntKind.i64 (rCe1_l1993_T.a26 v)), some (At.int true IntKind.i64 (rCe1_l1993_T.a27 v)), some (At.int true IntKind.i64 (rCe1_l1993_T.a28 v)), some (At.int true IntKind.i64 (rCe1_l1993_T.a29 v)), some (At.int true IntKind.i64 (rCe1_l1993_T.a30 v))], BC.mk (Hd.mk (nat_lit 0) (nat_lit 4) true none) [some (At.int true IntKind.i64 (rCe1_l1993_T.a31 v)), some (At.int true IntKind.i64 (rCe1_l1993_T.a32 v)), some (At.int true IntKind.i64 (rCe1_l1993_T.a33 v)), some (At.int true IntKind.i64 (rCe1_l1993_T.a34 v))]]
def rCe1_l1993_s0 (v : rCe1_l1993_T) : Bool := decide (rCe1_l1993_T.a1 v < rCe1_l1993_T.a33 v)
def rCe1_l1993_s1 (v : rCe1_l1993_T) : Int := sAt_s4 (rCe1_l1993_T.a7 v) (rCe1_l1993_T.a8 v) (rCe1_l1993_T.a9 v) (rCe1_l1993_T.a10 v) (rCe1_l1993_T.a11 v) (rCe1_l1993_T.a12 v) (rCe1_l1993_T.a16 v) (rCe1_l1993_T.a17 v) (rCe1_l1993_T.a18 v) (rCe1_l1993_T.a1 v) (rCe1_l1993_T.a0 v)
def rCe1_l1993_s2 (v : rCe1_l1993_T) : Int := tArea_0 (rCe1_l1993_T.a7 v) (rCe1_l1993_T.a8 v) (rCe1_l1993_T.a9 v) (rCe1_l1993_T.a10 v) (rCe1_l1993_T.a11 v) (rCe1_l1993_T.a12 v)
def rCe1_l1993_s3 (v : rCe1_l1993_T) : Bool := sAt_5 (rCe1_l1993_T.a7 v) (rCe1_l1993_T.a8 v) (rCe1_l1993_T.a9 v) (rCe1_l1993_T.a10 v) (rCe1_l1993_T.a11 v) (rCe1_l1993_T.a12 v) (rCe1_l1993_T.a13 v) (rCe1_l1993_T.a14 v) (rCe1_l1993_T.a15 v) (rCe1_l1993_T.a16 v) (rCe1_l1993_T.a17 v) (rCe1_l1993_T.a18 v) (rCe1_l1993_T.a19 v) (rCe1_l1993_T.a20 v) (rCe1_l1993_T.a21 v) (rCe1_l1993_T.a22 v) (rCe1_l1993_T.a23 v) (rCe1_l1993_T.a24 v) (rCe1_l1993_T.a25 v) (rCe1_l1993_T.a26 v) (rCe1_l1993_T.a27 v) (rCe1_l1993_T.a28 v) (rCe1_l1993_T.a29 v) (rCe1_l1993_T.a30 v) (rCe1_l1993_T.a1 v) (rCe1_l1993_T.a0 v)
def rCe1_l1993_s4 (v : rCe1_l1993_T) : Bool := bif rCe1_l1993_s3 v then lSt1_1 (rCe1_l1993_T.a1 v) (rCe1_l1993_T.a0 v) (sAt_0 (rCe1_l1993_T.a7 v) (rCe1_l1993_T.a8 v) (rCe1_l1993_T.a9 v) (rCe1_l1993_T.a10 v) (rCe1_l1993_T.a11 v) (rCe1_l1993_T.a12 v) (rCe1_l1993_T.a13 v) (rCe1_l1993_T.a14 v) (rCe1_l1993_T.a15 v) (rCe1_l1993_T.a16 v) (rCe1_l1993_T.a17 v) (rCe1_l1993_T.a18 v) (rCe1_l1993_T.a19 v) (rCe1_l1993_T.a20 v) (rCe1_l1993_T.a21 v) (rCe1_l1993_T.a22 v) (rCe1_l1993_T.a23 v) (rCe1_l1993_T.a24 v) (rCe1_l1993_T.a25 v) (rCe1_l1993_T.a26 v) (rCe1_l1993_T.a27 v) (rCe1_l1993_T.a28 v) (rCe1_l1993_T.a29 v) (rCe1_l1993_T.a30 v) (rCe1_l1993_T.a1 v) (rCe1_l1993_T.a0 v)) (sAt_1 (rCe1_l1993_T.a7 v) (rCe1_l1993_T.a8 v) (rCe1_l1993_T.a9 v) (rCe1_l1993_T.a10 v) (rCe1_l1993_T.a11 v) (rCe1_l1993_T.a12 v) (rCe1_l1993_T.a13 v) (rCe1_l1993_T.a14 v) (rCe1_l1993_T.a15 v) (rCe1_l1993_T.a16 v) (rCe1_l1993_T.a17 v) (rCe1_l1993_T.a18 v) (rCe1_l1993_T.a19 v) (rCe1_l1993_T.a20 v) (rCe1_l1993_T.a21 v) (rCe1_l1993_T.a22 v) (rCe1_l1993_T.a23 v) (rCe1_l1993_T.a24 v) (rCe1_l1993_T.a25 v) (rCe1_l1993_T.a26 v) (rCe1_l1993_T.a27 v) (rCe1_l1993_T.a28 v) (rCe1_l1993_T.a29 v) (rCe1_l1993_T.a30 v) (rCe1_l1993_T.a1 v) (rCe1_l1993_T.a0 v)) (sAt_2 (rCe1_l1993_T.a7 v) (rCe1_l1993_T.a8 v) (rCe1_l1993_T.a9 v) (rCe1_l1993_T.a10 v) (rCe1_l1993_T.a11 v) (rCe1_l1993_T.a12 v) (rCe1_l1993_T.a13 v) (rCe1_l1993_T.a14 v) (rCe1_l1993_T.a15 v) (rCe1_l1993_T.a16 v) (rCe1_l1993_T.a17 v) (rCe1_l1993_T.a18 v) (rCe1_l1993_T.a19 v) (rCe1_l1993_T.a20 v) (rCe1_l1993_T.a21 v) (rCe1_l1993_T.a22 v) (rCe1_l1993_T.a23 v) (rCe1_l1993_T.a24 v) (rCe1_l1993_T.a25 v) (rCe1_l1993_T.a26 v) (rCe1_l1993_T.a27 v) (rCe1_l1993_T.a28 v) (rCe1_l1993_T.a29 v) (rCe1_l1993_T.a30 v) (rCe1_l1993_T.a1 v) (rCe1_l1993_T.a0 v)) (sAt_3 (rCe1_l1993_T.a7 v) (rCe1_l1993_T.a8 v) (rCe1_l1993_T.a9 v) (rCe1_l1993_T.a10 v) (rCe1_l1993_T.a11 v) (rCe1_l1993_T.a12 v) (rCe1_l1993_T.a13 v) (rCe1_l1993_T.a14 v) (rCe1_l1993_T.a15 v) (rCe1_l1993_T.a16 v) (rCe1_l1993_T.a17 v) (rCe1_l1993_T.a18 v) (rCe1_l1993_T.a19 v) (rCe1_l1993_T.a20 v) (rCe1_l1993_T.a21 v) (rCe1_l1993_T.a22 v) (rCe1_l1993_T.a23 v) (rCe1_l1993_T.a24 v) (rCe1_l1993_T.a25 v) (rCe1_l1993_T.a26 v) (rCe1_l1993_T.a27 v) (rCe1_l1993_T.a28 v) (rCe1_l1993_T.a29 v) (rCe1_l1993_T.a30 v) (rCe1_l1993_T.a1 v) (rCe1_l1993_T.a0 v)) (sAt_4 (rCe1_l1993_T.a7 v) (rCe1_l1993_T.a8 v) (rCe1_l1993_T.a9 v) (rCe1_l1993_T.a10 v) (rCe1_l1993_T.a11 v) (rCe1_l1993_T.a12 v) (rCe1_l1993_T.a13 v) (rCe1_l1993_T.a14 v) (rCe1_l1993_T.a15 v) (rCe1_l1993_T.a16 v) (rCe1_l1993_T.a17 v) (rCe1_l1993_T.a18 v) (rCe1_l1993_T.a19 v) (rCe1_l1993_T.a20 v) (rCe1_l1993_T.a21 v) (rCe1_l1993_T.a22 v) (rCe1_l1993_T.a23 v) (rCe1_l1993_T.a24 v) (rCe1_l1993_T.a25 v) (rCe1_l1993_T.a26 v) (rCe1_l1993_T.a27 v) (rCe1_l1993_T.a28 v) (rCe1_l1993_T.a29 v) (rCe1_l1993_T.a30 v) (rCe1_l1993_T.a1 v) (rCe1_l1993_T.a0 v)) (rCe1_l1993_T.a3 v) (rCe1_l1993_T.a4 v) (rCe1_l1993_T.a5 v) else rCe1_l1993_T.a3 v
def rCe1_l1993_st (v : rCe1_l1993_T) : List Prop × List (X × Bool × rCe1_l1993_T) := ([rCe1_l1993_s0 v = true → (!sAt_s0 (rCe1_l1993_T.a7 v) (rCe1_l1993_T.a8 v) (rCe1_l1993_T.a9 v) (rCe1_l1993_T.a10 v) (rCe1_l1993_T.a11 v) (rCe1_l1993_T.a12 v) (rCe1_l1993_T.a13 v) (rCe1_l1993_T.a14 v) (rCe1_l1993_T.a15 v) (rCe1_l1993_T.a16 v) (rCe1_l1993_T.a17 v) (rCe1_l1993_T.a18 v) (rCe1_l1993_T.a19 v) (rCe1_l1993_T.a20 v) (rCe1_l1993_T.a21 v) (rCe1_l1993_T.a22 v) (rCe1_l1993_T.a23 v) (rCe1_l1993_T.a24 v) (rCe1_l1993_T.a25 v) (rCe1_l1993_T.a26 v) (rCe1_l1993_T.a27 v) (rCe1_l1993_T.a28 v) (rCe1_l1993_T.a29 v) (rCe1_l1993_T.a30 v) (rCe1_l1993_T.a1 v) (rCe1_l1993_T.a0 v)) = true → (!rCe1_l1993_s1 v == (0 : Int)) = true → rCe1_l1993_s1 v ≠ (0 : Int), rCe1_l1993_s0 v = true → (!sAt_s0 (rCe1_l1993_T.a7 v) (rCe1_l1993_T.a8 v) (rCe1_l1993_T.a9 v) (rCe1_l1993_T.a10 v) (rCe1_l1993_T.a11 v) (rCe1_l1993_T.a12 v) (rCe1_l1993_T.a13 v) (rCe1_l1993_T.a14 v) (rCe1_l1993_T.a15 v) (rCe1_l1993_T.a16 v) (rCe1_l1993_T.a17 v) (rCe1_l1993_T.a18 v) (rCe1_l1993_T.a19 v) (rCe1_l1993_T.a20 v) (rCe1_l1993_T.a21 v) (rCe1_l1993_T.a22 v) (rCe1_l1993_T.a23 v) (rCe1_l1993_T.a24 v) (rCe1_l1993_T.a25 v) (rCe1_l1993_T.a26 v) (rCe1_l1993_T.a27 v) (rCe1_l1993_T.a28 v) (rCe1_l1993_T.a29 v) (rCe1_l1993_T.a30 v) (rCe1_l1993_T.a1 v) (rCe1_l1993_T.a0 v)) = true → (!rCe1_l1993_s1 v == (0 : Int)) = true → rCe1_l1993_s1 v ≠ (0 : Int), rCe1_l1993_s0 v = true → (!sAt_s0 (rCe1_l1993_T.a7 v) (rCe1_l1993_T.a8 v) (rCe1_l1993_T.a9 v) (rCe1_l1993_T.a10 v) (rCe1_l1993_T.a11 v) (rCe1_l1993_T.a12 v) (rCe1_l1993_T.a13 v) (rCe1_l1993_T.a14 v) (rCe1_l1993_T.a15 v) (rCe1_l1993_T.a16 v) (rCe1_l1993_T.a17 v) (rCe1_l1993_T.a18 v) (rCe1_l1993_T.a19 v) (rCe1_l1993_T.a20 v) (rCe1_l1993_T.a21 v) (rCe1_l1993_T.a22 v) (rCe1_l1993_T.a23 v) (rCe1_l1993_T.a24 v) (rCe1_l1993_T.a25 v) (rCe1_l1993_T.a26 v) (rCe1_l1993_T.a27 v) (rCe1_l1993_T.a28 v) (rCe1_l1993_T.a29 v) (rCe1_l1993_T.a30 v) (rCe1_l1993_T.a1 v) (rCe1_l1993_T.a0 v)) = true → (!rCe1_l1993_s1 v == (0 : Int)) = true → rCe1_l1993_s1 v ≠ (0 : Int), rCe1_l1993_s0 v = true → (!sAt_s0 (rCe1_l1993_T.a7 v) (rCe1_l1993_T.a8 v) (rCe1_l1993_T.a9 v) (rCe1_l1993_T.a10 v) (rCe1_l1993_T.a11 v) (rCe1_l1993_T.a12 v) (rCe1_l1993_T.a13 v) (rCe1_l1993_T.a14 v) (rCe1_l1993_T.a15 v) (rCe1_l1993_T.a16 v) (rCe1_l1993_T.a17 v) (rCe1_l1993_T.a18 v) (rCe1_l1993_T.a19 v) (rCe1_l1993_T.a20 v) (rCe1_l1993_T.a21 v) (rCe1_l1993_T.a22 v) (rCe1_l1993_T.a23 v) (rCe1_l1993_T.a24 v) (rCe1_l1993_T.a25 v) (rCe1_l1993_T.a26 v) (rCe1_l1993_T.a27 v) (rCe1_l1993_T.a28 v) (rCe1_l1993_T.a29 v) (rCe1_l1993_T.a30 v) (rCe1_l1993_T.a1 v) (rCe1_l1993_T.a0 v)) = true → (!rCe1_l1993_s1 v == (0 : Int)) = true → rCe1_l1993_s1 v ≠ (0 : Int), rCe1_l1993_s0 v = true → (!sAt_s0 (rCe1_l1993_T.a7 v) (rCe1_l1993_T.a8 v) (rCe1_l1993_T.a9 v) (rCe1_l1993_T.a10 v) (rCe1_l1993_T.a11 v) (rCe1_l1993_T.a12 v) (rCe1_l1993_T.a13 v) (rCe1_l1993_T.a14 v) (rCe1_l1993_T.a15 v) (rCe1_l1993_T.a16 v) (rCe1_l1993_T.a17 v) (rCe1_l1993_T.a18 v) (rCe1_l1993_T.a19 v) (rCe1_l1993_T.a20 v) (rCe1_l1993_T.a21 v) (rCe1_l1993_T.a22 v) (rCe1_l1993_T.a23 v) (rCe1_l1993_T.a24 v) (rCe1_l1993_T.a25 v) (rCe1_l1993_T.a26 v) (rCe1_l1993_T.a27 v) (rCe1_l1993_T.a28 v) (rCe1_l1993_T.a29 v) (rCe1_l1993_T.a30 v) (rCe1_l1993_T.a1 v) (rCe1_l1993_T.a0 v)) = true → (!rCe1_l1993_s1 v == (0 : Int)) = true → rCe1_l1993_s1 v ≠ (0 : Int), rCe1_l1993_s0 v = true → (!sAt_s0 (rCe1_l1993_T.a7 v) (rCe1_l1993_T.a8 v) (rCe1_l1993_T.a9 v) (rCe1_l1993_T.a10 v) (rCe1_l1993_T.a11 v) (rCe1_l1993_T.a12 v) (rCe1_l1993_T.a13 v) (rCe1_l1993_T.a14 v) (rCe1_l1993_T.a15 v) (rCe1_l1993_T.a16 v) (rCe1_l1993_T.a17 v) (rCe1_l1993_T.a18 v) (rCe1_l1993_T.a19 v) (rCe1_l1993_T.a20 v) (rCe1_l1993_T.a21 v) (rCe1_l1993_T.a22 v) (rCe1_l1993_T.a23 v) (rCe1_l1993_T.a24 v) (rCe1_l1993_T.a25 v) (rCe1_l1993_T.a26 v) (rCe1_l1993_T.a27 v) (rCe1_l1993_T.a28 v) (rCe1_l1993_T.a29 v) (rCe1_l1993_T.a30 v) (rCe1_l1993_T.a1 v) (rCe1_l1993_T.a0 v)) = true → (!rCe1_l1993_s1 v == (0 : Int)) = true → rCe1_l1993_s1 v ≠ (0 : Int), rCe1_l1993_s0 v = true → (!sAt_s0 (rCe1_l1993_T.a7 v) (rCe1_l1993_T.a8 v) (rCe1_l1993_T.a9 v) (rCe1_l1993_T.a10 v) (rCe1_l1993_T.a11 v) (rCe1_l1993_T.a12 v) (rCe1_l1993_T.a13 v) (rCe1_l1993_T.a14 v) (rCe1_l1993_T.a15 v) (rCe1_l1993_T.a16 v) (rCe1_l1993_T.a17 v) (rCe1_l1993_T.a18 v) (rCe1_l1993_T.a19 v) (rCe1_l1993_T.a20 v) (rCe1_l1993_T.a21 v) (rCe1_l1993_T.a22 v) (rCe1_l1993_T.a23 v) (rCe1_l1993_T.a24 v) (rCe1_l1993_T.a25 v) (rCe1_l1993_T.a26 v) (rCe1_l1993_T.a27 v) (rCe1_l1993_T.a28 v) (rCe1_l1993_T.a29 v) (rCe1_l1993_T.a30 v) (rCe1_l1993_T.a1 v) (rCe1_l1993_T.a0 v)) = true → (!rCe1_l1993_s1 v == (0 : Int)) = true → rCe1_l1993_s1 v ≠ (0 : Int), rCe1_l1993_s0 v = true → (!sAt_s0 (rCe1_l1993_T.a7 v) (rCe1_l1993_T.a8 v) (rCe1_l1993_T.a9 v) (rCe1_l1993_T.a10 v) (rCe1_l1993_T.a11 v) (rCe1_l1993_T.a12 v) (rCe1_l1993_T.a13 v) (rCe1_l1993_T.a14 v) (rCe1_l1993_T.a15 v) (rCe1_l1993_T.a16 v) (rCe1_l1993_T.a17 v) (rCe1_l1993_T.a18 v) (rCe1_l1993_T.a19 v) (rCe1_l1993_T.a20 v) (rCe1_l1993_T.a21 v) (rCe1_l1993_T.a22 v) (rCe1_l1993_T.a23 v) (rCe1_l1993_T.a24 v) (rCe1_l1993_T.a25 v) (rCe1_l1993_T.a26 v) (rCe1_l1993_T.a27 v) (rCe1_l1993_T.a28 v) (rCe1_l1993_T.a29 v) (rCe1_l1993_T.a30 v) (rCe1_l1993_T.a1 v) (rCe1_l1993_T.a0 v)) = true → (!rCe1_l1993_s1 v == (0 : Int)) = true → rCe1_l1993_s1 v ≠ (0 : Int), rCe1_l1993_s0 v = true → (!sAt_s0 (rCe1_l1993_T.a7 v) (rCe1_l1993_T.a8 v) (rCe1_l1993_T.a9 v) (rCe1_l1993_T.a10 v) (rCe1_l1993_T.a11 v) (rCe1_l1993_T.a12 v) (rCe1_l1993_T.a13 v) (rCe1_l1993_T.a14 v) (rCe1_l1993_T.a15 v) (rCe1_l1993_T.a16 v) (rCe1_l1993_T.a17 v) (rCe1_l1993_T.a18 v) (rCe1_l1993_T.a19 v) (rCe1_l1993_T.a20 v) (rCe1_l1993_T.a21 v) (rCe1_l1993_T.a22 v) (rCe1_l1993_T.a23 v) (rCe1_l1993_T.a24 v) (rCe1_l1993_T.a25 v) (rCe1_l1993_T.a26 v) (rCe1_l1993_T.a27 v) (rCe1_l1993_T.a28 v) (rCe1_l1993_T.a29 v) (rCe1_l1993_T.a30 v) (rCe1_l1993_T.a1 v) (rCe1_l1993_T.a0 v)) = true → (!rCe1_l1993_s2 v == (0 : Int)) = true → rCe1_l1993_s2 v ≠ (0 : Int), rCe1_l1993_s0 v = true → (!sAt_s0 (rCe1_l1993_T.a7 v) (rCe1_l1993_T.a8 v) (rCe1_l1993_T.a9 v) (rCe1_l1993_T.a10 v) (rCe1_l1993_T.a11 v) (rCe1_l1993_T.a12 v) (rCe1_l1993_T.a13 v) (rCe1_l1993_T.a14 v) (rCe1_l1993_T.a15 v) (rCe1_l1993_T.a16 v) (rCe1_l1993_T.a17 v) (rCe1_l1993_T.a18 v) (rCe1_l1993_T.a19 v) (rCe1_l1993_T.a20 v) (rCe1_l1993_T.a21 v) (rCe1_l1993_T.a22 v) (rCe1_l1993_T.a23 v) (rCe1_l1993_T.a24 v) (rCe1_l1993_T.a25 v) (rCe1_l1993_T.a26 v) (rCe1_l1993_T.a27 v) (rCe1_l1993_T.a28 v) (rCe1_l1993_T.a29 v) (rCe1_l1993_T.a30 v) (rCe1_l1993_T.a1 v) (rCe1_l1993_T.a0 v)) = true → (!rCe1_l1993_s2 v == (0 : Int)) = true → rCe1_l1993_s2 v ≠ (0 : Int), rCe1_l1993_s0 v = true → rCe1_l1993_s3 v = true → rCe1_l1993_T.a3 v = true → lSt1_s1 (rCe1_l1993_T.a4 v) (rCe1_l1993_T.a5 v) = true → (0 : Int) ≤ rCe1_l1993_T.a4 v ∧ rCe1_l1993_T.a4 v < Int.ofNat (List.length (rCe1_l1993_T.a5 v))], [(X.e (2 : Nat), !rCe1_l1993_s0 v, rCe1_l1993_T.mk (rCe1_l1993_T.a0 v) (rCe1_l1993_T.a1 v) (rCe1_l1993_T.a2 v) (rCe1_l1993_T.a3 v) (rCe1_l1993_T.a4 v) (rCe1_l1993_T.a5 v) (rCe1_l1993_T.a6 v) (rCe1_l1993_T.a7 v) (rCe1_l1993_T.a8 v) (rCe1_l1993_T.a9 v) (rCe1_l1993_T.a10 v) (rCe1_l1993_T.a11 v) (rCe1_l1993_T.a12 v) (rCe1_l1993_T.a13 v) (rCe1_l1993_T.a14 v) (rCe1_l1993_T.a15 v) (rCe1_l1993_T.a16 v) (rCe1_l1993_T.a17 v) (rCe1_l1993_T.a18 v) (rCe1_l1993_T.a19 v) (rCe1_l1993_T.a20 v) (rCe1_l1993_T.a21 v) (rCe1_l1993_T.a22 v) (rCe1_l1993_T.a23 v) (rCe1_l1993_T.a24 v) (rCe1_l1993_T.a25 v) (rCe1_l1993_T.a26 v) (rCe1_l1993_T.a27 v) (rCe1_l1993_T.a28 v) (rCe1_l1993_T.a29 v) (rCe1_l1993_T.a30 v) (rCe1_l1993_T.a31 v) (rCe1_l1993_T.a32 v) (rCe1_l1993_T.a33 v) (rCe1_l1993_T.a34 v)), (X.r, rCe1_l1993_s0 v && bif rCe1_l1993_s3 v then !lSt1_0 (rCe1_l1993_T.a4 v) (rCe1_l1993_T.a6 v) else false, rCe1_l1993_T.mk (rCe1_l1993_T.a0 v) (rCe1_l1993_T.a1 v) (rCe1_l1993_T.a2 v) (rCe1_l1993_s4 v) (bif rCe1_l1993_s3 v then lSt1_s0 (rCe1_l1993_T.a4 v) else rCe1_l1993_T.a4 v) (rCe1_l1993_T.a5 v) (rCe1_l1993_T.a6 v) (rCe1_l1993_T.a7 v) (rCe1_l1993_T.a8 v) (rCe1_l1993_T.a9 v) (rCe1_l1993_T.a10 v) (rCe1_l1993_T.a11 v) (rCe1_l1993_T.a12 v) (rCe1_l1993_T.a13 v) (rCe1_l1993_T.a14 v) (rCe1_l1993_T.a15 v) (rCe1_l1993_T.a16 v) (rCe1_l1993_T.a17 v) (rCe1_l1993_T.a18 v) (rCe1_l1993_T.a19 v) (rCe1_l1993_T.a20 v) (rCe1_l1993_T.a21 v) (rCe1_l1993_T.a22 v) (rCe1_l1993_T.a23 v) (rCe1_l1993_T.a24 v) (rCe1_l1993_T.a25 v) (rCe1_l1993_T.a26 v) (rCe1_l1993_T.a27 v) (rCe1_l1993_T.a28 v) (rCe1_l1993_T.a29 v) (rCe1_l1993_T.a30 v) (rCe1_l1993_T.a31 v) (rCe1_l1993_T.a32 v) (rCe1_l1993_T.a33 v) (rCe1_l1993_T.a34 v)), (X.n, rCe1_l1993_s0 v && !bif rCe1_l1993_s3 v then !lSt1_0 (rCe1_l1993_T.a4 v) (rCe1_l1993_T.a6 v) else false, rCe1_l1993_T.mk (rCe1_l1993_T.a0 v) (IntKind.wrap IntKind.i64 (rCe1_l1993_T.a1 v + (1 : Int))) (rCe1_l1993_T.a2 v) (rCe1_l1993_s4 v) (bif rCe1_l1993_s3 v then lSt1_s0 (rCe1_l1993_T.a4 v) else rCe1_l1993_T.a4 v) (rCe1_l1993_T.a5 v) (rCe1_l1993_T.a6 v) (rCe1_l1993_T.a7 v) (rCe1_l1993_T.a8 v) (rCe1_l1993_T.a9 v) (rCe1_l1993_T.a10 v) (rCe1_l1993_T.a11 v) (rCe1_l1993_T.a12 v) (rCe1_l1993_T.a13 v) (rCe1_l1993_T.a14 v) (rCe1_l1993_T.a15 v) (rCe1_l1993_T.a16 v) (rCe1_l1993_T.a17 v) (rCe1_l1993_T.a18 v) (rCe1_l1993_T.a19 v) (rCe1_l1993_T.a20 v) (rCe1_l1993_T.a21 v) (rCe1_l1993_T.a22 v) (rCe1_l1993_T.a23 v) (rCe1_l1993_T.a24 v) (rCe1_l1993_T.a25 v) (rCe1_l1993_T.a26 v) (rCe1_l1993_T.a27 v) (rCe1_l1993_T.a28 v) (rCe1_l1993_T.a29 v) (rCe1_l1993_T.a30 v) (rCe1_l1993_T.a31 v) (rCe1_l1993_T.a32 v) (rCe1_l1993_T.a33 v) (rCe1_l1993_T.a34 v))])
def rCe1_l1993_rd : HS → Option rCe1_l1993_T := rdS [.i, .i, .b, .b, .i, .r, .i, .i, .i, .i, .i, .i, .i, .i, .i, .i, .i, .i, .i, .i, .i, .i, .i, .i, .i, .i, .i, .i, .i, .i, .i, .i, .i, .i, .i] (fun l => rCe1_l1993_T.mk (gI l 0) (gI l 1) (gB l 2) (gB l 3) (gI l 4) (gR l 5) (gI l 6) (gI l 7) (gI l 8) (gI l 9) (gI l 10) (gI l 11) (gI l 12) (gI l 13) (gI l 14) (gI l 15) (gI l 16) (gI l 17) (gI l 18) (gI l 19) (gI l 20) (gI l 21) (gI l 22) (gI l 23) (gI l 24) (gI l 25) (gI l 26) (gI l 27) (gI l 28) (gI l 29) (gI l 30) (gI l 31) (gI l 32) (gI l 33) (gI l 34)) rCe1_l1993_hd
def rCe1_l1993_sum : V.Sum := loopS rCe1_l1993_hd rCe1_l1993_rd rCe1_l1993_st 18446744073709551616 [X.e (2 : Nat), X.r] [0, 1, 2, 4, 5, 6, 7, 8, 11, 33, 41, 62] [0, 1, 2, 4, 5, 33] [0, 1] [] [] 2
theorem rCe1_l1993_E : ∀ v, bodyF Try.prog tabRd5 (ntOf Try.prog 108) [0, 1, 2, 4, 5, 6, 7, 8, 11, 33, 41, 62] [0, 1, 2, 4, 5, 33] [] 2000 [0, 1] [] rCe1_l1993_code 7972 (rCe1_l1993_hd v) = some ((rCe1_l1993_st v).1, (rCe1_l1993_st v).2.map fun q => (q.1, q.2.1, rCe1_l1993_hd q.2.2)) := fun v => by kernel_rfl
theorem rCe1_l1993_R : ∀ h v, rCe1_l1993_rd h = some v → h = rCe1_l1993_hd v := rdS_ok fun l => by kernel_rfl
set_option maxRecDepth 100000 in
theorem rCe1_l1993_sok : SumOK Try.prog (ntOf Try.prog 108) [0, 1, 2, 4, 5, 6, 7, 8, 11, 33, 41, 62] (.block (blockOf (subs (bodyOf Try.prog 108) 1 1993)) (.loop rCe1_l1993_code)) rCe1_l1993_sum := loopS_ok tabRd5_ok follows rCe1_l1993_E rCe1_l1993_R (fun v => by kernel_rfl) (LOK_of _ _ (LOK_nil'))
noncomputable def rCe1_l31_code : Go.Code := loopOf (subs (bodyOf Try.prog 108) 1 31)
structure rCe1_l31_T where
  a0 : Int
  a1 : Bool
  a2 : Int
  a3 : List (List Int)
  a4 : Int
  a5 : Int
  a6 : Int
  a7 : Int
  a8 : Int
  a9 : Int
  a10 : Int
  a11 : Int
  a12 : Int
  a13 : Int
  a14 : Int
  a15 : Int
  a16 : Int
  a17 : Int
  a18 : Int
  a19 : Int
  a20 : Int
  a21 : Int
  a22 : Int
  a23 : Int
  a24 : Int
  a25 : Int
  a26 : Int
  a27 : Int
  a28 : Int
  a29 : Int
  a30 : Int
  a31 : Int
  a32 : Int
  deriving Inhabited
def rCe1_l31_hd (v : rCe1_l31_T) : HS := HS.mk [(nat_lit 0, LV.a (At.fn (nat_lit 49) [(nat_lit 0, nat_lit 0), (nat_lit 1, nat_lit 0), (nat_lit 2, nat_lit 0), (nat_lit 4, nat_lit 0)])), (nat_lit 1, LV.a (At.ptr (nat_lit 5) (nat_lit 0))), (nat_lit 2, LV.a (At.ptr (nat_lit 6) (nat_lit 0))), (nat_lit 4, LV.a (At.int true IntKind.i64 (rCe1_l31_T.a0 v)))] [BC.mk (Hd.mk (nat_lit 0) (nat_lit 1) false none) [some (At.bool true (rCe1_l31_T.a1 v))], BC.mk (Hd.mk (nat_lit 0) (nat_lit 1) false none) [some (At.int true IntKind.i64 (rCe1_l31_T.a2 v))], BC.mk (Hd.mk (nat_lit 0) (nat_lit 1) true none) [some (At.vec (nat_lit 3) (nat_lit 0) (nat_lit 7))], BC.mk (Hd.mk (nat_lit 0) (nat_lit 0) true (some (Rw.mk (nat_lit 0) [Kd.int IntKind.i64, Kd.int IntKind.i64, Kd.int IntKind.i64, Kd.int IntKind.i64, Kd.int IntKind.i64, Kd.int IntKind.i64, Kd.int IntKind.i64] (rCe1_l31_T.a3 v) none))) [], BC.mk (Hd.mk (nat_lit 0) (nat_lit 1) true none) [some (At.int true IntKind.u8 (rCe1_l31_T.a4 v))], BC.mk (Hd.mk (nat_lit 0) (nat_lit 24) true none) [some (At.int true IntKind.i64 (rCe1_l31_T.a5 v)), some (At.int true IntKind.i64 (rCe1_l31_T.a6 v)), some (At.int true IntKind.i64 (rCe1_l31_T.a7 v)), some (At.int true IntKind.i64 (rCe1_l31_T.a8 v)), some (At.int true IntKind.i64 (rCe1_l31_T.a9 v)), some (At.int true IntKind.i64 (rCe1_l31_T.a10 v)), some (At.int true IntKind.i64 (rCe1_l31_T.a11 v)), some (At.int true IntKind.i64 (rCe1_l31_T.a12 v)), some (At.int true IntKind.i64 (rCe1_l31_T.a13 v)), some (At.int true IntKind.i64 (rCe1_l31_T.a14 v)), some (At.int true IntKind.i64 (rCe1_l31_T.a15 v)), some (At.int true IntKind.i64 (rCe1_l31_T.a16 v)), some (At.int true IntKind.i64 (rCe1_l31_T.a17 v)), some (At.int true IntKind.i64 (rCe1_l31_T.a18 v)), some (At.int true IntKind.i64 (rCe1_l31_T.a19 v)), some (At.int true IntKind.i64 (rCe1_l31_T.a20 v)), some (At.int true IntKind.i64 (rCe1_l31_T.a21 v)), some (At.int true IntKind.i64 (rCe1_l31_T.a22 v)), some (At.int true IntKind.i64 (rCe1_l31_T.a23 v)), some (At.int true IntKind.i64 (rCe1_l31_T.a24 v)), some (At.int true IntKind.i64 (rCe1_l31_T.a25 v)), some (At.int true IntKind.i64 (rCe1_l31_T.a26 v)), some (At.int true IntKind.i64 (rCe1_l31_T.a27 v)), some (At.int true IntKind.i64 (rCe1_l31_T.a28 v))], BC.mk (Hd.mk (nat_lit 0) (nat_lit 4) true none) [some (At.int true IntKind.i64 (rCe1_l31_T.a29 v)), some (At.int true IntKind.i64 (rCe1_l31_T.a30 v)), some (At.int true IntKind.i64 (rCe1_l31_T.a31 v)), some (At.int true IntKind.i64 (rCe1_l31_T.a32 v))]]
def rCe1_l31_s0 (v : rCe1_l31_T) : Bool := decide (rCe1_l31_T.a0 v < rCe1_l31_T.a32 v)
def rCe1_l31_s1 (v : rCe1_l31_T) : Option (X × rCe1_l1993_T) := lrun rCe1_l1993_st (18446744073709551616 : Nat) (rCe1_l1993_T.mk (rCe1_l31_T.a0 v) (rCe1_l31_T.a29 v) (rCe1_l31_s0 v) (rCe1_l31_T.a1 v) (rCe1_l31_T.a2 v) (rCe1_l31_T.a3 v) (rCe1_l31_T.a4 v) (rCe1_l31_T.a5 v) (rCe1_l31_T.a6 v) (rCe1_l31_T.a7 v) (rCe1_l31_T.a8 v) (rCe1_l31_T.a9 v) (rCe1_l31_T.a10 v) (rCe1_l31_T.a11 v) (rCe1_l31_T.a12 v) (rCe1_l31_T.a13 v) (rCe1_l31_T.a14 v) (rCe1_l31_T.a15 v) (rCe1_l31_T.a16 v) (rCe1_l31_T.a17 v) (rCe1_l31_T.a18 v) (rCe1_l31_T.a19 v) (rCe1_l31_T.a20 v) (rCe1_l31_T.a21 v) (rCe1_l31_T.a22 v) (rCe1_l31_T.a23 v) (rCe1_l31_T.a24 v) (rCe1_l31_T.a25 v) (rCe1_l31_T.a26 v) (rCe1_l31_T.a27 v) (rCe1_l31_T.a28 v) (rCe1_l31_T.a29 v) (rCe1_l31_T.a30 v) (rCe1_l31_T.a31 v) (rCe1_l31_T.a32 v))
def rCe1_l31_st (v : rCe1_l31_T) : List Prop × List (X × Bool × rCe1_l31_T) := ([rCe1_l31_s0 v = true → lok rCe1_l1993_st (18446744073709551616 : Nat) (rCe1_l1993_T.mk (rCe1_l31_T.a0 v) (rCe1_l31_T.a29 v) (rCe1_l31_s0 v) (rCe1_l31_T.a1 v) (rCe1_l31_T.a2 v) (rCe1_l31_T.a3 v) (rCe1_l31_T.a4 v) (rCe1_l31_T.a5 v) (rCe1_l31_T.a6 v) (rCe1_l31_T.a7 v) (rCe1_l31_T.a8 v) (rCe1_l31_T.a9 v) (rCe1_l31_T.a10 v) (rCe1_l31_T.a11 v) (rCe1_l31_T.a12 v) (rCe1_l31_T.a13 v) (rCe1_l31_T.a14 v) (rCe1_l31_T.a15 v) (rCe1_l31_T.a16 v) (rCe1_l31_T.a17 v) (rCe1_l31_T.a18 v) (rCe1_l31_T.a19 v) (rCe1_l31_T.a20 v) (rCe1_l31_T.a21 v) (rCe1_l31_T.a22 v) (rCe1_l31_T.a23 v) (rCe1_l31_T.a24 v) (rCe1_l31_T.a25 v) (rCe1_l31_T.a26 v) (rCe1_l31_T.a27 v) (rCe1_l31_T.a28 v) (rCe1_l31_T.a29 v) (rCe1_l31_T.a30 v) (rCe1_l31_T.a31 v) (rCe1_l31_T.a32 v))], [(X.e (0 : Nat), !rCe1_l31_s0 v, rCe1_l31_T.mk (rCe1_l31_T.a0 v) (rCe1_l31_T.a1 v) (rCe1_l31_T.a2 v) (rCe1_l31_T.a3 v) (rCe1_l31_T.a4 v) (rCe1_l31_T.a5 v) (rCe1_l31_T.a6 v) (rCe1_l31_T.a7 v) (rCe1_l31_T.a8 v) (rCe1_l31_T.a9 v) (rCe1_l31_T.a10 v) (rCe1_l31_T.a11 v) (rCe1_l31_T.a12 v) (rCe1_l31_T.a13 v) (rCe1_l31_T.a14 v) (rCe1_l31_T.a15 v) (rCe1_l31_T.a16 v) (rCe1_l31_T.a17 v) (rCe1_l31_T.a18 v) (rCe1_l31_T.a19 v) (rCe1_l31_T.a20 v) (rCe1_l31_T.a21 v) (rCe1_l31_T.a22 v) (rCe1_l31_T.a23 v) (rCe1_l31_T.a24 v) (rCe1_l31_T.a25 v) (rCe1_l31_T.a26 v) (rCe1_l31_T.a27 v) (rCe1_l31_T.a28 v) (rCe1_l31_T.a29 v) (rCe1_l31_T.a30 v) (rCe1_l31_T.a31 v) (rCe1_l31_T.a32 v)), (X.r, rCe1_l31_s0 v && isX X.r (rCe1_l31_s1 v), rCe1_l31_T.mk (rCe1_l1993_T.a0 (V.valOf (rCe1_l31_s1 v))) (rCe1_l1993_T.a3 (V.valOf (rCe1_l31_s1 v))) (rCe1_l1993_T.a4 (V.valOf (rCe1_l31_s1 v))) (rCe1_l31_T.a3 v) (rCe1_l31_T.a4 v) (rCe1_l31_T.a5 v) (rCe1_l31_T.a6 v) (rCe1_l31_T.a7 v) (rCe1_l31_T.a8 v) (rCe1_l31_T.a9 v) (rCe1_l31_T.a10 v) (rCe1_l31_T.a11 v) (rCe1_l31_T.a12 v) (rCe1_l31_T.a13 v) (rCe1_l31_T.a14 v) (rCe1_l31_T.a15 v) (rCe1_l31_T.a16 v) (rCe1_l31_T.a17 v) (rCe1_l31_T.a18 v) (rCe1_l31_T.a19 v) (rCe1_l31_T.a20 v) (rCe1_l31_T.a21 v) (rCe1_l31_T.a22 v) (rCe1_l31_T.a23 v) (rCe1_l31_T.a24 v) (rCe1_l31_T.a25 v) (rCe1_l31_T.a26 v) (rCe1_l31_T.a27 v) (rCe1_l31_T.a28 v) (rCe1_l31_T.a29 v) (rCe1_l31_T.a30 v) (rCe1_l31_T.a31 v) (rCe1_l31_T.a32 v)), (X.n, rCe1_l31_s0 v && isX (X.e (2 : Nat)) (rCe1_l31_s1 v), rCe1_l31_T.mk (IntKind.wrap IntKind.i64 (rCe1_l1993_T.a0 (V.valOf (rCe1_l31_s1 v)) + (1 : Int))) (rCe1_l1993_T.a3 (V.valOf (rCe1_l31_s1 v))) (rCe1_l1993_T.a4 (V.valOf (rCe1_l31_s1 v))) (rCe1_l31_T.a3 v) (rCe1_l31_T.a4 v) (rCe1_l31_T.a5 v) (rCe1_l31_T.a6 v) (rCe1_l31_T.a7 v) (rCe1_l31_T.a8 v) (rCe1_l31_T.a9 v) (rCe1_l31_T.a10 v) (rCe1_l31_T.a11 v) (rCe1_l31_T.a12 v) (rCe1_l31_T.a13 v) (rCe1_l31_T.a14 v) (rCe1_l31_T.a15 v) (rCe1_l31_T.a16 v) (rCe1_l31_T.a17 v) (rCe1_l31_T.a18 v) (rCe1_l31_T.a19 v) (rCe1_l31_T.a20 v) (rCe1_l31_T.a21 v) (rCe1_l31_T.a22 v) (rCe1_l31_T.a23 v) (rCe1_l31_T.a24 v) (rCe1_l31_T.a25 v) (rCe1_l31_T.a26 v) (rCe1_l31_T.a27 v) (rCe1_l31_T.a28 v) (rCe1_l31_T.a29 v) (rCe1_l31_T.a30 v) (rCe1_l31_T.a31 v) (rCe1_l31_T.a32 v))])
def rCe1_l31_rd : HS → Option rCe1_l31_T := rdS [.i, .b, .i, .r, .i, .i, .i, .i, .i, .i, .i, .i, .i, .i, .i, .i, .i, .i, .i, .i, .i, .i, .i, .i, .i, .i, .i, .i, .i, .i, .i, .i, .i] (fun l => rCe1_l31_T.mk (gI l 0) (gB l 1) (gI l 2) (gR l 3) (gI l 4) (gI l 5) (gI l 6) (gI l 7) (gI l 8) (gI l 9) (gI l 10) (gI l 11) (gI l 12) (gI l 13) (gI l 14) (gI l 15) (gI l 16) (gI l 17) (gI l 18) (gI l 19) (gI l 20) (gI l 21) (gI l 22) (gI l 23) (gI l 24) (gI l 25) (gI l 26) (gI l 27) (gI l 28) (gI l 29) (gI l 30) (gI l 31) (gI l 32)) rCe1_l31_hd
def rCe1_l31_sum : V.Sum := loopS rCe1_l31_hd rCe1_l31_rd rCe1_l31_st 18446744073709551616 [X.e (0 : Nat), X.r] [0, 1, 2, 4, 5, 6, 7, 8, 11, 33, 41, 62] [0, 1, 2, 4] [0, 1] [] [] 0
theorem rCe1_l31_E : ∀ v, bodyF Try.prog tabRd5 (ntOf Try.prog 108) [0, 1, 2, 4, 5, 6, 7, 8, 11, 33, 41, 62] [0, 1, 2, 4] [(1993, rCe1_l1993_sum)] 2000 [0, 1] [] rCe1_l31_code 124 (rCe1_l31_hd v) = some ((rCe1_l31_st v).1, (rCe1_l31_st v).2.map fun q => (q.1, q.2.1, rCe1_l31_hd q.2.2)) := fun v => by kernel_rfl
theorem rCe1_l31_R : ∀ h v, rCe1_l31_rd h = some v → h = rCe1_l31_hd v := rdS_ok fun l => by kernel_rfl
set_option maxRecDepth 100000 in
theorem rCe1_l31_sok : SumOK Try.prog (ntOf Try.prog 108) [0, 1, 2, 4, 5, 6, 7, 8, 11, 33, 41, 62] (.block (blockOf (subs (bodyOf Try.prog 108) 1 31)) (.loop rCe1_l31_code)) rCe1_l31_sum := loopS_ok tabRd5_ok follows rCe1_l31_E rCe1_l31_R (fun v => by kernel_rfl) (LOK_of _ _ (LOK_cons (show subs rCe1_l31_code 124 1993 = [.block (blockOf (subs (bodyOf Try.prog 108) 1 1993)) (.loop rCe1_l1993_code)] from by kernel_rfl) rCe1_l1993_sok (LOK_nil')))
def rCe1_s0 (t0 t1 t2 t3 t4 t5 t6 t7 t8 t9 t10 t11 t12 t13 t14 t15 t16 t17 t18 t19 t20 t21 t22 t23 : Int) : Bool := sCheck_0 t0 t1 t2 t3 t4 t5 t6 t7 t8 t9 t10 t11 t12 t13 t14 t15 t16 t17 t18 t19 t20 t21 t22 t23 != (0 : Int)
def rCe1_s1 (t0 t1 t2 t3 t4 t5 t6 t7 t8 t9 t10 t11 t12 t13 t14 t15 t16 t17 t18 t19 t20 t21 t22 t23 : Int) : Bool := !rCe1_s0 t0 t1 t2 t3 t4 t5 t6 t7 t8 t9 t10 t11 t12 t13 t14 t15 t16 t17 t18 t19 t20 t21 t22 t23
def rCe1_s2 (b1 : Int) : Int := if b1 < (0 : Int) then (0 : Int) else b1
def rCe1_s3 (b0 : Int) : Int := if b0 < (0 : Int) then (0 : Int) else b0
def rCe1_s4 (b2 : Int) : Int := if (64 : Int) < b2 then (64 : Int) else b2
def rCe1_s5 (b3 : Int) : Int := if (64 : Int) < b3 then (64 : Int) else b3
def rCe1_s6 (r : Bool) (k : Int) (l : List (List Int)) (u t0 t1 t2 t3 t4 t5 t6 t7 t8 t9 t10 t11 t12 t13 t14 t15 t16 t17 t18 t19 t20 t21 t22 t23 b0 b1 b2 b3 : Int) : Option (X × rCe1_l31_T) := lrun rCe1_l31_st (18446744073709551616 : Nat) (rCe1_l31_T.mk (rCe1_s2 b1) r k l u t0 t1 t2 t3 t4 t5 t6 t7 t8 t9 t10 t11 t12 t13 t14 t15 t16 t17 t18 t19 t20 t21 t22 t23 (rCe1_s3 b0) (rCe1_s2 b1) (rCe1_s4 b2) (rCe1_s5 b3))
def rCe1_s7 (r : Bool) (k : Int) (l : List (List Int)) (u t0 t1 t2 t3 t4 t5 t6 t7 t8 t9 t10 t11 t12 t13 t14 t15 t16 t17 t18 t19 t20 t21 t22 t23 b0 b1 b2 b3 : Int) : Bool := rCe1_s0 t0 t1 t2 t3 t4 t5 t6 t7 t8 t9 t10 t11 t12 t13 t14 t15 t16 t17 t18 t19 t20 t21 t22 t23 || rCe1_s1 t0 t1 t2 t3 t4 t5 t6 t7 t8 t9 t10 t11 t12 t13 t14 t15 t16 t17 t18 t19 t20 t21 t22 t23 && isX X.r (rCe1_s6 r k l u t0 t1 t2 t3 t4 t5 t6 t7 t8 t9 t10 t11 t12 t13 t14 t15 t16 t17 t18 t19 t20 t21 t22 t23 b0 b1 b2 b3)
def rCe1_s8 (r : Bool) (k : Int) (l : List (List Int)) (u t0 t1 t2 t3 t4 t5 t6 t7 t8 t9 t10 t11 t12 t13 t14 t15 t16 t17 t18 t19 t20 t21 t22 t23 b0 b1 b2 b3 : Int) : Bool := rCe1_l31_T.a1 (V.valOf (rCe1_s6 r k l u t0 t1 t2 t3 t4 t5 t6 t7 t8 t9 t10 t11 t12 t13 t14 t15 t16 t17 t18 t19 t20 t21 t22 t23 b0 b1 b2 b3))
def rCe1_0 (r : Bool) (k : Int) (l : List (List Int)) (u t0 t1 t2 t3 t4 t5 t6 t7 t8 t9 t10 t11 t12 t13 t14 t15 t16 t17 t18 t19 t20 t21 t22 t23 b0 b1 b2 b3 : Int) : Bool := bif rCe1_s7 r k l u t0 t1 t2 t3 t4 t5 t6 t7 t8 t9 t10 t11 t12 t13 t14 t15 t16 t17 t18 t19 t20 t21 t22 t23 b0 b1 b2 b3 then bif rCe1_s0 t0 t1 t2 t3 t4 t5 t6 t7 t8 t9 t10 t11 t12 t13 t14 t15 t16 t17 t18 t19 t20 t21 t22 t23 then r else rCe1_s8 r k l u t0 t1 t2 t3 t4 t5 t6 t7 t8 t9 t10 t11 t12 t13 t14 t15 t16 t17 t18 t19 t20 t21 t22 t23 b0 b1 b2 b3 else rCe1_s8 r k l u t0 t1 t2 t3 t4 t5 t6 t7 t8 t9 t10 t11 t12 t13 t14 t15 t16 t17 t18 t19 t20 t21 t22 t23 b0 b1 b2 b3
def rCe1_s9 (r : Bool) (k : Int) (l : List (List Int)) (u t0 t1 t2 t3 t4 t5 t6 t7 t8 t9 t10 t11 t12 t13 t14 t15 t16 t17 t18 t19 t20 t21 t22 t23 b0 b1 b2 b3 : Int) : Int := rCe1_l31_T.a2 (V.valOf (rCe1_s6 r k l u t0 t1 t2 t3 t4 t5 t6 t7 t8 t9 t10 t11 t12 t13 t14 t15 t16 t17 t18 t19 t20 t21 t22 t23 b0 b1 b2 b3))
def rCe1_1 (r : Bool) (k : Int) (l : List (List Int)) (u t0 t1 t2 t3 t4 t5 t6 t7 t8 t9 t10 t11 t12 t13 t14 t15 t16 t17 t18 t19 t20 t21 t22 t23 b0 b1 b2 b3 : Int) : Int := bif rCe1_s7 r k l u t0 t1 t2 t3 t4 t5 t6 t7 t8 t9 t10 t11 t12 t13 t14 t15 t16 t17 t18 t19 t20 t21 t22 t23 b0 b1 b2 b3 then bif rCe1_s0 t0 t1 t2 t3 t4 t5 t6 t7 t8 t9 t10 t11 t12 t13 t14 t15 t16 t17 t18 t19 t20 t21 t22 t23 then k else rCe1_s9 r k l u t0 t1 t2 t3 t4 t5 t6 t7 t8 t9 t10 t11 t12 t13 t14 t15 t16 t17 t18 t19 t20 t21 t22 t23 b0 b1 b2 b3 else rCe1_s9 r k l u t0 t1 t2 t3 t4 t5 t6 t7 t8 t9 t10 t11 t12 t13 t14 t15 t16 t17 t18 t19 t20 t21 t22 t23 b0 b1 b2 b3
def rCe1_2 (r : Bool) (k : Int) (l : List (List Int)) (u t0 t1 t2 t3 t4 t5 t6 t7 t8 t9 t10 t11 t12 t13 t14 t15 t16 t17 t18 t19 t20 t21 t22 t23 b0 b1 b2 b3 : Int) : Int := bif rCe1_s7 r k l u t0 t1 t2 t3 t4 t5 t6 t7 t8 t9 t10 t11 t12 t13 t14 t15 t16 t17 t18 t19 t20 t21 t22 t23 b0 b1 b2 b3 then bif rCe1_s0 t0 t1 t2 t3 t4 t5 t6 t7 t8 t9 t10 t11 t12 t13 t14 t15 t16 t17 t18 t19 t20 t21 t22 t23 then b0 else rCe1_s3 b0 else rCe1_s3 b0
def rCe1_3 (r : Bool) (k : Int) (l : List (List Int)) (u t0 t1 t2 t3 t4 t5 t6 t7 t8 t9 t10 t11 t12 t13 t14 t15 t16 t17 t18 t19 t20 t21 t22 t23 b0 b1 b2 b3 : Int) : Int := bif rCe1_s7 r k l u t0 t1 t2 t3 t4 t5 t6 t7 t8 t9 t10 t11 t12 t13 t14 t15 t16 t17 t18 t19 t20 t21 t22 t23 b0 b1 b2 b3 then bif rCe1_s0 t0 t1 t2 t3 t4 t5 t6 t7 t8 t9 t10 t11 t12 t13 t14 t15 t16 t17 t18 t19 t20 t21 t22 t23 then b1 else rCe1_s2 b1 else rCe1_s2 b1
def rCe1_4 (r : Bool) (k : Int) (l : List (List Int)) (u t0 t1 t2 t3 t4 t5 t6 t7 t8 t9 t10 t11 t12 t13 t14 t15 t16 t17 t18 t19 t20 t21 t22 t23 b0 b1 b2 b3 : Int) : Int := bif rCe1_s7 r k l u t0 t1 t2 t3 t4 t5 t6 t7 t8 t9 t10 t11 t12 t13 t14 t15 t16 t17 t18 t19 t20 t21 t22 t23 b0 b1 b2 b3 then bif rCe1_s0 t0 t1 t2 t3 t4 t5 t6 t7 t8 t9 t10 t11 t12 t13 t14 t15 t16 t17 t18 t19 t20 t21 t22 t23 then b2 else rCe1_s4 b2 else rCe1_s4 b2
def rCe1_5 (r : Bool) (k : Int) (l : List (List Int)) (u t0 t1 t2 t3 t4 t5 t6 t7 t8 t9 t10 t11 t12 t13 t14 t15 t16 t17 t18 t19 t20 t21 t22 t23 b0 b1 b2 b3 : Int) : Int := bif rCe1_s7 r k l u t0 t1 t2 t3 t4 t5 t6 t7 t8 t9 t10 t11 t12 t13 t14 t15 t16 t17 t18 t19 t20 t21 t22 t23 b0 b1 b2 b3 then bif rCe1_s0 t0 t1 t2 t3 t4 t5 t6 t7 t8 t9 t10 t11 t12 t13 t14 t15 t16 t17 t18 t19 t20 t21 t22 t23 then b3 else rCe1_s5 b3 else rCe1_s5 b3
def rCe1_o (r : Bool) (k : Int) (f0 f1 : Bool) (l : List (List Int)) (f2 : Bool) (u : Int) (f3 : Bool) (t0 t1 t2 t3 t4 t5 t6 t7 t8 t9 t10 t11 t12 t13 t14 t15 t16 t17 t18 t19 t20 t21 t22 t23 b0 b1 b2 b3 : Int) : List Prop := [rCe1_s1 t0 t1 t2 t3 t4 t5 t6 t7 t8 t9 t10 t11 t12 t13 t14 t15 t16 t17 t18 t19 t20 t21 t22 t23 = true → lok rCe1_l31_st (18446744073709551616 : Nat) (rCe1_l31_T.mk (rCe1_s2 b1) r k l u t0 t1 t2 t3 t4 t5 t6 t7 t8 t9 t10 t11 t12 t13 t14 t15 t16 t17 t18 t19 t20 t21 t22 t23 (rCe1_s3 b0) (rCe1_s2 b1) (rCe1_s4 b2) (rCe1_s5 b3))]
theorem rCe1_p (r : Bool) (k : Int) (f0 f1 : Bool) (l : List (List Int)) (f2 : Bool) (u : Int) (f3 : Bool) (t0 t1 t2 t3 t4 t5 t6 t7 t8 t9 t10 t11 t12 t13 t14 t15 t16 t17 t18 t19 t20 t21 t22 t23 b0 b1 b2 b3 : Int) : evG Try.prog tabRd5 2000 108 [0, 1, 2, 4, 5, 6, 7, 8, 11, 33, 41, 62] [(31, rCe1_l31_sum), (1993, rCe1_l1993_sum)] [0, 1, 6] [.a (.fn 49 [(0, 0), (1, 0), (2, 0), (4, 0)]), .a (.ptr 5 0), .a (.ptr 6 0)] (padBs [⟨⟨0, 1, false, none⟩, [some (.bool true r)]⟩, ⟨⟨0, 1, false, none⟩, [some (.int true .i64 k)]⟩, ⟨⟨0, 1, f0, none⟩, [some (.vec 3 0 7)]⟩, ⟨⟨0, 0, f1, some ⟨0, [.int .i64, .int .i64, .int .i64, .int .i64, .int .i64, .int .i64, .int .i64], l, none⟩⟩, []⟩, ⟨⟨0, 1, f2, none⟩, [some (.int true .u8 u)]⟩, ⟨⟨0, 24, f3, none⟩, [some (.int true .i64 t0), some (.int true .i64 t1), some (.int true .i64 t2), some (.int true .i64 t3), some (.int true .i64 t4), some (.int true .i64 t5), some (.int true .i64 t6), some (.int true .i64 t7), some (.int true .i64 t8), some (.int true .i64 t9), some (.int true .i64 t10), some (.int true .i64 t11), some (.int true .i64 t12), some (.int true .i64 t13), some (.int true .i64 t14), some (.int true .i64 t15), some (.int true .i64 t16), some (.int true .i64 t17), some (.int true .i64 t18), some (.int true .i64 t19), some (.int true .i64 t20), some (.int true .i64 t21), some (.int true .i64 t22), some (.int true .i64 t23)]⟩, ⟨⟨0, 4, false, none⟩, [some (.int true .i64 b0), some (.int true .i64 b1), some (.int true .i64 b2), some (.int true .i64 b3)]⟩]) = some (rCe1_o r k f0 f1 l f2 u f3 t0 t1 t2 t3 t4 t5 t6 t7 t8 t9 t10 t11 t12 t13 t14 t15 t16 t17 t18 t19 t20 t21 t22 t23 b0 b1 b2 b3, LV.t [], padOut [some (BC.mk (Hd.mk (nat_lit 0) (nat_lit 1) false none) [some (At.bool true (rCe1_0 r k l u t0 t1 t2 t3 t4 t5 t6 t7 t8 t9 t10 t11 t12 t13 t14 t15 t16 t17 t18 t19 t20 t21 t22 t23 b0 b1 b2 b3))]), some (BC.mk (Hd.mk (nat_lit 0) (nat_lit 1) false none) [some (At.int true IntKind.i64 (rCe1_1 r k l u t0 t1 t2 t3 t4 t5 t6 t7 t8 t9 t10 t11 t12 t13 t14 t15 t16 t17 t18 t19 t20 t21 t22 t23 b0 b1 b2 b3))]), none, none, none, none, some (BC.mk (Hd.mk (nat_lit 0) (nat_lit 4) false none) [some (At.int true IntKind.i64 (rCe1_2 r k l u t0 t1 t2 t3 t4 t5 t6 t7 t8 t9 t10 t11 t12 t13 t14 t15 t16 t17 t18 t19 t20 t21 t22 t23 b0 b1 b2 b3)), some (At.int true IntKind.i64 (rCe1_3 r k l u t0 t1 t2 t3 t4 t5 t6 t7 t8 t9 t10 t11 t12 t13 t14 t15 t16 t17 t18 t19 t20 t21 t22 t23 b0 b1 b2 b3)), some (At.int true IntKind.i64 (rCe1_4 r k l u t0 t1 t2 t3 t4 t5 t6 t7 t8 t9 t10 t11 t12 t13 t14 t15 t16 t17 t18 t19 t20 t21 t22 t23 b0 b1 b2 b3)), some (At.int true IntKind.i64 (rCe1_5 r k l u t0 t1 t2 t3 t4 t5 t6 t7 t8 t9 t10 t11 t12 t13 t14 t15 t16 t17 t18 t19 t20 t21 t22 t23 b0 b1 b2 b3))])]) := by kernel_rfl
def rdC : List (Option At) → Option (List Int)
  | [] => some []
  | some (.int true .i64 n) :: r => match rdC r with
    | some z => some (n :: z)
    | none => none
  | _ => none
theorem rdC_ok : ∀ {cs : List (Option At)} {z : List Int}, rdC cs = some z → cs = z.map fun n => some (.int true .i64 n)
  | [], z, h => by simp only [rdC, Option.some.injEq] at h; subst h; rfl
  | c :: r, z, h => by
    unfold rdC at h
    split at h
    · rename_i heq; cases heq
    · rename_i n r' heq
      cases heq
      split at h
      · rename_i z' hz
        simp only [Option.some.injEq] at h
        subst h
        rw [rdC_ok hz]; rfl
      · cases h
    · cases h
def rCe1_c0 : Con
  | [.a (.fn 49 [(0, 0), (1, 0), (2, 0), (4, 0)]), .a (.ptr 5 0), .a (.ptr 6 0)], [⟨⟨0, 1, false, none⟩, [some (.bool true r)]⟩, ⟨⟨0, 1, false, none⟩, [some (.int true .i64 k)]⟩, ⟨⟨0, 1, f0, none⟩, [some (.vec 3 0 7)]⟩, ⟨⟨0, 0, f1, some ⟨0, [.int .i64, .int .i64, .int .i64, .int .i64, .int .i64, .int .i64, .int .i64], l, none⟩⟩, []⟩, ⟨⟨0, 1, f2, none⟩, [some (.int true .u8 u)]⟩, ⟨⟨0, 24, f3, none⟩, cs⟩, ⟨⟨0, 4, false, none⟩, [some (.int true .i64 b0), some (.int true .i64 b1), some (.int true .i64 b2), some (.int true .i64 b3)]⟩] => match rdC cs with
    | some [t0, t1, t2, t3, t4, t5, t6, t7, t8, t9, t10, t11, t12, t13, t14, t15, t16, t17, t18, t19, t20, t21, t22, t23] => some (rCe1_o r k f0 f1 l f2 u f3 t0 t1 t2 t3 t4 t5 t6 t7 t8 t9 t10 t11 t12 t13 t14 t15 t16 t17 t18 t19 t20 t21 t22 t23 b0 b1 b2 b3, LV.t [], [some (BC.mk (Hd.mk (nat_lit 0) (nat_lit 1) false none) [some (At.bool true (rCe1_0 r k l u t0 t1 t2 t3 t4 t5 t6 t7 t8 t9 t10 t11 t12 t13 t14 t15 t16 t17 t18 t19 t20 t21 t22 t23 b0 b1 b2 b3))]), some (BC.mk (Hd.mk (nat_lit 0) (nat_lit 1) false none) [some (At.int true IntKind.i64 (rCe1_1 r k l u t0 t1 t2 t3 t4 t5 t6 t7 t8 t9 t10 t11 t12 t13 t14 t15 t16 t17 t18 t19 t20 t21 t22 t23 b0 b1 b2 b3))]), none, none, none, none, some (BC.mk (Hd.mk (nat_lit 0) (nat_lit 4) false none) [some (At.int true IntKind.i64 (rCe1_2 r k l u t0 t1 t2 t3 t4 t5 t6 t7 t8 t9 t10 t11 t12 t13 t14 t15 t16 t17 t18 t19 t20 t21 t22 t23 b0 b1 b2 b3)), some (At.int true IntKind.i64 (rCe1_3 r k l u t0 t1 t2 t3 t4 t5 t6 t7 t8 t9 t10 t11 t12 t13 t14 t15 t16 t17 t18 t19 t20 t21 t22 t23 b0 b1 b2 b3)), some (At.int true IntKind.i64 (rCe1_4 r k l u t0 t1 t2 t3 t4 t5 t6 t7 t8 t9 t10 t11 t12 t13 t14 t15 t16 t17 t18 t19 t20 t21 t22 t23 b0 b1 b2 b3)), some (At.int true IntKind.i64 (rCe1_5 r k l u t0 t1 t2 t3 t4 t5 t6 t7 t8 t9 t10 t11 t12 t13 t14 t15 t16 t17 t18 t19 t20 t21 t22 t23 b0 b1 b2 b3))])])
    | _ => none
  | _, _ => none
def rCe1_c : Con := packC rCe1_c0
theorem rCe1_ok : ConOK Try.prog 108 (normC rCe1_c) := normC_ok (packC_ok (by
  intro args bs obs lv out h ho φ vs w may ha hM
  unfold rCe1_c0 at h
  split at h
  · rename_i r k f0 f1 l f2 u f3 cs b0 b1 b2 b3
    split at h
    · rename_i t0 t1 t2 t3 t4 t5 t6 t7 t8 t9 t10 t11 t12 t13 t14 t15 t16 t17 t18 t19 t20 t21 t22 t23 hcs
      have hcs := rdC_ok hcs
      subst hcs
      simp only [Option.some.injEq, Prod.mk.injEq] at h
      obtain ⟨rfl, rfl, rfl⟩ := h
      exact evG_okL' tabRd5_ok follows (LOK_cons (show subs (bodyOf Try.prog 108) 1 31 = [.block (blockOf (subs (bodyOf Try.prog 108) 1 31)) (.loop rCe1_l31_code)] from by kernel_rfl) rCe1_l31_sok (LOK_cons (show subs (bodyOf Try.prog 108) 1 1993 = [.block (blockOf (subs (bodyOf Try.prog 108) 1 1993)) (.loop rCe1_l1993_code)] from by kernel_rfl) rCe1_l1993_sok (LOK_nil'))) _ _ _ _ _ (rCe1_p r k f0 f1 l f2 u f3 t0 t1 t2 t3 t4 t5 t6 t7 t8 t9 t10 t11 t12 t13 t14 t15 t16 t17 t18 t19 t20 t21 t22 t23 b0 b1 b2 b3) ho φ vs w may ha hM
    · cases h
  · cases h))
theorem rCe1_en : Enters Try.prog 108 := fun args => by kernel_rfl
-- 12057 3886 47 ms

def tabRd6 : Tab := (108, normC rCe1_c) :: tabRd5
theorem tabRd6_ok : TOK Try.prog tabRd6 := TOK.cons rCe1_en rCe1_ok (tabRd5_ok)

end Go.Proofs.Ytcdejlgophpdjaa
end

section
namespace Go.Proofs.Ytcdejlgophpdjaa
open Go Go.RowKit Go.Proofs.Ytcdejlgophpdjaa.V
set_option linter.unusedVariables false

/-! azulejo/azulejolaw18.RasterStops -/
def lRasSt_s0 (x0_0 x0_1 x0_2 x0_3 x0_4 x0_5 x0_6 x0_7 x0_8 x0_9 x0_10 x0_11 x0_12 x0_13 x0_14 x0_15 x0_16 x0_17 x0_18 x0_19 x0_20 x0_21 x0_22 x0_23 x0_24 x1_0 x1_1 x1_2 x1_3 : Int) : List (List Int) := lc (sm13Tri_0 x0_0 x0_1 x0_2 x0_3 x0_4 x0_5 x0_24) (sm13Tri_1 x0_0 x0_1 x0_2 x0_3 x0_4 x0_5 x0_24) (sm13Tri_2 x0_0 x0_1 x0_2 x0_3 x0_4 x0_5 x0_24) (sm13Tri_3 x0_0 x0_1 x0_2 x0_3 x0_4 x0_5 x0_24) (sm13Tri_4 x0_0 x0_1 x0_2 x0_3 x0_4 x0_5 x0_24) (sm13Tri_5 x0_0 x0_1 x0_2 x0_3 x0_4 x0_5 x0_24) (IntKind.wrap IntKind.i64 x0_6) (IntKind.wrap IntKind.i64 x0_7) (IntKind.wrap IntKind.i64 x0_8) (sm13Tri_6 x0_9) (sm13Tri_7 x0_10) (sm13Tri_8 x0_11) (IntKind.wrap IntKind.i64 x0_12) (IntKind.wrap IntKind.i64 x0_13) (IntKind.wrap IntKind.i64 x0_14) (IntKind.wrap IntKind.i64 x0_15) (IntKind.wrap IntKind.i64 x0_16) (IntKind.wrap IntKind.i64 x0_17) (IntKind.wrap IntKind.i64 x0_18) (IntKind.wrap IntKind.i64 x0_19) (IntKind.wrap IntKind.i64 x0_20) (IntKind.wrap IntKind.i64 x0_21) (IntKind.wrap IntKind.i64 x0_22) (IntKind.wrap IntKind.i64 x0_23) (l18box_0 x1_0) (l18box_1 x1_1) (l18box_2 x1_2) (l18box_3 x1_3)
def lRasSt_s1 (x2 : Int) : Int := IntKind.wrap IntKind.i64 (IntKind.wrap IntKind.i64 (Int.tmod x2 (40 : Int)) + (1 : Int))
def lRasSt_s2 (x0_0 x0_1 x0_2 x0_3 x0_4 x0_5 x0_6 x0_7 x0_8 x0_9 x0_10 x0_11 x0_12 x0_13 x0_14 x0_15 x0_16 x0_17 x0_18 x0_19 x0_20 x0_21 x0_22 x0_23 x0_24 x1_0 x1_1 x1_2 x1_3 : Int) : Int := Int.ofNat (List.length (lRasSt_s0 x0_0 x0_1 x0_2 x0_3 x0_4 x0_5 x0_6 x0_7 x0_8 x0_9 x0_10 x0_11 x0_12 x0_13 x0_14 x0_15 x0_16 x0_17 x0_18 x0_19 x0_20 x0_21 x0_22 x0_23 x0_24 x1_0 x1_1 x1_2 x1_3))
def lRasSt_0 (x0_0 x0_1 x0_2 x0_3 x0_4 x0_5 x0_6 x0_7 x0_8 x0_9 x0_10 x0_11 x0_12 x0_13 x0_14 x0_15 x0_16 x0_17 x0_18 x0_19 x0_20 x0_21 x0_22 x0_23 x0_24 x1_0 x1_1 x1_2 x1_3 x2 : Int) : Bool := bif !l18Aw_0 then false else bif rCe1_0 true (0 : Int) (lRasSt_s0 x0_0 x0_1 x0_2 x0_3 x0_4 x0_5 x0_6 x0_7 x0_8 x0_9 x0_10 x0_11 x0_12 x0_13 x0_14 x0_15 x0_16 x0_17 x0_18 x0_19 x0_20 x0_21 x0_22 x0_23 x0_24 x1_0 x1_1 x1_2 x1_3) x2 (sm13Tri_0 x0_0 x0_1 x0_2 x0_3 x0_4 x0_5 x0_24) (sm13Tri_1 x0_0 x0_1 x0_2 x0_3 x0_4 x0_5 x0_24) (sm13Tri_2 x0_0 x0_1 x0_2 x0_3 x0_4 x0_5 x0_24) (sm13Tri_3 x0_0 x0_1 x0_2 x0_3 x0_4 x0_5 x0_24) (sm13Tri_4 x0_0 x0_1 x0_2 x0_3 x0_4 x0_5 x0_24) (sm13Tri_5 x0_0 x0_1 x0_2 x0_3 x0_4 x0_5 x0_24) (IntKind.wrap IntKind.i64 x0_6) (IntKind.wrap IntKind.i64 x0_7) (IntKind.wrap IntKind.i64 x0_8) (sm13Tri_6 x0_9) (sm13Tri_7 x0_10) (sm13Tri_8 x0_11) (IntKind.wrap IntKind.i64 x0_12) (IntKind.wrap IntKind.i64 x0_13) (IntKind.wrap IntKind.i64 x0_14) (IntKind.wrap IntKind.i64 x0_15) (IntKind.wrap IntKind.i64 x0_16) (IntKind.wrap IntKind.i64 x0_17) (IntKind.wrap IntKind.i64 x0_18) (IntKind.wrap IntKind.i64 x0_19) (IntKind.wrap IntKind.i64 x0_20) (IntKind.wrap IntKind.i64 x0_21) (IntKind.wrap IntKind.i64 x0_22) (IntKind.wrap IntKind.i64 x0_23) (l18box_0 x1_0) (l18box_1 x1_1) (l18box_2 x1_2) (l18box_3 x1_3) then rCe1_1 true (0 : Int) (lRasSt_s0 x0_0 x0_1 x0_2 x0_3 x0_4 x0_5 x0_6 x0_7 x0_8 x0_9 x0_10 x0_11 x0_12 x0_13 x0_14 x0_15 x0_16 x0_17 x0_18 x0_19 x0_20 x0_21 x0_22 x0_23 x0_24 x1_0 x1_1 x1_2 x1_3) x2 (sm13Tri_0 x0_0 x0_1 x0_2 x0_3 x0_4 x0_5 x0_24) (sm13Tri_1 x0_0 x0_1 x0_2 x0_3 x0_4 x0_5 x0_24) (sm13Tri_2 x0_0 x0_1 x0_2 x0_3 x0_4 x0_5 x0_24) (sm13Tri_3 x0_0 x0_1 x0_2 x0_3 x0_4 x0_5 x0_24) (sm13Tri_4 x0_0 x0_1 x0_2 x0_3 x0_4 x0_5 x0_24) (sm13Tri_5 x0_0 x0_1 x0_2 x0_3 x0_4 x0_5 x0_24) (IntKind.wrap IntKind.i64 x0_6) (IntKind.wrap IntKind.i64 x0_7) (IntKind.wrap IntKind.i64 x0_8) (sm13Tri_6 x0_9) (sm13Tri_7 x0_10) (sm13Tri_8 x0_11) (IntKind.wrap IntKind.i64 x0_12) (IntKind.wrap IntKind.i64 x0_13) (IntKind.wrap IntKind.i64 x0_14) (IntKind.wrap IntKind.i64 x0_15) (IntKind.wrap IntKind.i64 x0_16) (IntKind.wrap IntKind.i64 x0_17) (IntKind.wrap IntKind.i64 x0_18) (IntKind.wrap IntKind.i64 x0_19) (IntKind.wrap IntKind.i64 x0_20) (IntKind.wrap IntKind.i64 x0_21) (IntKind.wrap IntKind.i64 x0_22) (IntKind.wrap IntKind.i64 x0_23) (l18box_0 x1_0) (l18box_1 x1_1) (l18box_2 x1_2) (l18box_3 x1_3) == if lRasSt_s1 x2 < lRasSt_s2 x0_0 x0_1 x0_2 x0_3 x0_4 x0_5 x0_6 x0_7 x0_8 x0_9 x0_10 x0_11 x0_12 x0_13 x0_14 x0_15 x0_16 x0_17 x0_18 x0_19 x0_20 x0_21 x0_22 x0_23 x0_24 x1_0 x1_1 x1_2 x1_3 then lRasSt_s1 x2 else lRasSt_s2 x0_0 x0_1 x0_2 x0_3 x0_4 x0_5 x0_6 x0_7 x0_8 x0_9 x0_10 x0_11 x0_12 x0_13 x0_14 x0_15 x0_16 x0_17 x0_18 x0_19 x0_20 x0_21 x0_22 x0_23 x0_24 x1_0 x1_1 x1_2 x1_3 else false
def lRasSt_o (x0_0 x0_1 x0_2 x0_3 x0_4 x0_5 x0_6 x0_7 x0_8 x0_9 x0_10 x0_11 x0_12 x0_13 x0_14 x0_15 x0_16 x0_17 x0_18 x0_19 x0_20 x0_21 x0_22 x0_23 x0_24 x1_0 x1_1 x1_2 x1_3 x2 : Int) : List Prop := [(!!l18Aw_0) = true → rCe1_s1 (sm13Tri_0 x0_0 x0_1 x0_2 x0_3 x0_4 x0_5 x0_24) (sm13Tri_1 x0_0 x0_1 x0_2 x0_3 x0_4 x0_5 x0_24) (sm13Tri_2 x0_0 x0_1 x0_2 x0_3 x0_4 x0_5 x0_24) (sm13Tri_3 x0_0 x0_1 x0_2 x0_3 x0_4 x0_5 x0_24) (sm13Tri_4 x0_0 x0_1 x0_2 x0_3 x0_4 x0_5 x0_24) (sm13Tri_5 x0_0 x0_1 x0_2 x0_3 x0_4 x0_5 x0_24) (IntKind.wrap IntKind.i64 x0_6) (IntKind.wrap IntKind.i64 x0_7) (IntKind.wrap IntKind.i64 x0_8) (sm13Tri_6 x0_9) (sm13Tri_7 x0_10) (sm13Tri_8 x0_11) (IntKind.wrap IntKind.i64 x0_12) (IntKind.wrap IntKind.i64 x0_13) (IntKind.wrap IntKind.i64 x0_14) (IntKind.wrap IntKind.i64 x0_15) (IntKind.wrap IntKind.i64 x0_16) (IntKind.wrap IntKind.i64 x0_17) (IntKind.wrap IntKind.i64 x0_18) (IntKind.wrap IntKind.i64 x0_19) (IntKind.wrap IntKind.i64 x0_20) (IntKind.wrap IntKind.i64 x0_21) (IntKind.wrap IntKind.i64 x0_22) (IntKind.wrap IntKind.i64 x0_23) = true → lok rCe1_l31_st (18446744073709551616 : Nat) (rCe1_l31_T.mk (rCe1_s2 (l18box_1 x1_1)) true (0 : Int) (lRasSt_s0 x0_0 x0_1 x0_2 x0_3 x0_4 x0_5 x0_6 x0_7 x0_8 x0_9 x0_10 x0_11 x0_12 x0_13 x0_14 x0_15 x0_16 x0_17 x0_18 x0_19 x0_20 x0_21 x0_22 x0_23 x0_24 x1_0 x1_1 x1_2 x1_3) x2 (sm13Tri_0 x0_0 x0_1 x0_2 x0_3 x0_4 x0_5 x0_24) (sm13Tri_1 x0_0 x0_1 x0_2 x0_3 x0_4 x0_5 x0_24) (sm13Tri_2 x0_0 x0_1 x0_2 x0_3 x0_4 x0_5 x0_24) (sm13Tri_3 x0_0 x0_1 x0_2 x0_3 x0_4 x0_5 x0_24) (sm13Tri_4 x0_0 x0_1 x0_2 x0_3 x0_4 x0_5 x0_24) (sm13Tri_5 x0_0 x0_1 x0_2 x0_3 x0_4 x0_5 x0_24) (IntKind.wrap IntKind.i64 x0_6) (IntKind.wrap IntKind.i64 x0_7) (IntKind.wrap IntKind.i64 x0_8) (sm13Tri_6 x0_9) (sm13Tri_7 x0_10) (sm13Tri_8 x0_11) (IntKind.wrap IntKind.i64 x0_12) (IntKind.wrap IntKind.i64 x0_13) (IntKind.wrap IntKind.i64 x0_14) (IntKind.wrap IntKind.i64 x0_15) (IntKind.wrap IntKind.i64 x0_16) (IntKind.wrap IntKind.i64 x0_17) (IntKind.wrap IntKind.i64 x0_18) (IntKind.wrap IntKind.i64 x0_19) (IntKind.wrap IntKind.i64 x0_20) (IntKind.wrap IntKind.i64 x0_21) (IntKind.wrap IntKind.i64 x0_22) (IntKind.wrap IntKind.i64 x0_23) (rCe1_s3 (l18box_0 x1_0)) (rCe1_s2 (l18box_1 x1_1)) (rCe1_s4 (l18box_2 x1_2)) (rCe1_s5 (l18box_3 x1_3)))]
theorem lRasSt_p (x0_0 x0_1 x0_2 x0_3 x0_4 x0_5 x0_6 x0_7 x0_8 x0_9 x0_10 x0_11 x0_12 x0_13 x0_14 x0_15 x0_16 x0_17 x0_18 x0_19 x0_20 x0_21 x0_22 x0_23 x0_24 x1_0 x1_1 x1_2 x1_3 x2 : Int) : evG Try.prog tabRd6 2000 6 [0, 1, 2, 3, 4, 5, 6, 7, 9, 10, 11, 13] [] [] [.g [.int true .i8 x0_0, .int true .i8 x0_1, .int true .i8 x0_2, .int true .i8 x0_3, .int true .i8 x0_4, .int true .i8 x0_5, .int true .u16 x0_6, .int true .u16 x0_7, .int true .u16 x0_8, .int true .u16 x0_9, .int true .u16 x0_10, .int true .u16 x0_11, .int true .u16 x0_12, .int true .u16 x0_13, .int true .u16 x0_14, .int true .u16 x0_15, .int true .u16 x0_16, .int true .u16 x0_17, .int true .u16 x0_18, .int true .u16 x0_19, .int true .u16 x0_20, .int true .u16 x0_21, .int true .u16 x0_22, .int true .u16 x0_23, .int true .u8 x0_24], .g [.int true .u8 x1_0, .int true .u8 x1_1, .int true .u8 x1_2, .int true .u8 x1_3], .a (.int true .u8 x2)] [] = some (lRasSt_o x0_0 x0_1 x0_2 x0_3 x0_4 x0_5 x0_6 x0_7 x0_8 x0_9 x0_10 x0_11 x0_12 x0_13 x0_14 x0_15 x0_16 x0_17 x0_18 x0_19 x0_20 x0_21 x0_22 x0_23 x0_24 x1_0 x1_1 x1_2 x1_3 x2, LV.a (At.bool true (lRasSt_0 x0_0 x0_1 x0_2 x0_3 x0_4 x0_5 x0_6 x0_7 x0_8 x0_9 x0_10 x0_11 x0_12 x0_13 x0_14 x0_15 x0_16 x0_17 x0_18 x0_19 x0_20 x0_21 x0_22 x0_23 x0_24 x1_0 x1_1 x1_2 x1_3 x2)), []) := by kernel_rfl
def lRasSt_c : Con
  | [.g [.int true .i8 x0_0, .int true .i8 x0_1, .int true .i8 x0_2, .int true .i8 x0_3, .int true .i8 x0_4, .int true .i8 x0_5, .int true .u16 x0_6, .int true .u16 x0_7, .int true .u16 x0_8, .int true .u16 x0_9, .int true .u16 x0_10, .int true .u16 x0_11, .int true .u16 x0_12, .int true .u16 x0_13, .int true .u16 x0_14, .int true .u16 x0_15, .int true .u16 x0_16, .int true .u16 x0_17, .int true .u16 x0_18, .int true .u16 x0_19, .int true .u16 x0_20, .int true .u16 x0_21, .int true .u16 x0_22, .int true .u16 x0_23, .int true .u8 x0_24], .g [.int true .u8 x1_0, .int true .u8 x1_1, .int true .u8 x1_2, .int true .u8 x1_3], .a (.int true .u8 x2)], [] => some (lRasSt_o x0_0 x0_1 x0_2 x0_3 x0_4 x0_5 x0_6 x0_7 x0_8 x0_9 x0_10 x0_11 x0_12 x0_13 x0_14 x0_15 x0_16 x0_17 x0_18 x0_19 x0_20 x0_21 x0_22 x0_23 x0_24 x1_0 x1_1 x1_2 x1_3 x2, LV.a (At.bool true (lRasSt_0 x0_0 x0_1 x0_2 x0_3 x0_4 x0_5 x0_6 x0_7 x0_8 x0_9 x0_10 x0_11 x0_12 x0_13 x0_14 x0_15 x0_16 x0_17 x0_18 x0_19 x0_20 x0_21 x0_22 x0_23 x0_24 x1_0 x1_1 x1_2 x1_3 x2)), [])
  | _, _ => none
theorem lRasSt_ok : ConOK Try.prog 6 (normC lRasSt_c) := normC_ok (by
  intro args bs obs lv out h ho φ vs w may ha hM
  unfold lRasSt_c at h
  split at h
  · simp only [Option.some.injEq, Prod.mk.injEq] at h
    obtain ⟨rfl, rfl, rfl⟩ := h
    rename_i x0_0 x0_1 x0_2 x0_3 x0_4 x0_5 x0_6 x0_7 x0_8 x0_9 x0_10 x0_11 x0_12 x0_13 x0_14 x0_15 x0_16 x0_17 x0_18 x0_19 x0_20 x0_21 x0_22 x0_23 x0_24 x1_0 x1_1 x1_2 x1_3 x2
    exact evG_ok tabRd6_ok follows _ _ _ _ _ (lRasSt_p x0_0 x0_1 x0_2 x0_3 x0_4 x0_5 x0_6 x0_7 x0_8 x0_9 x0_10 x0_11 x0_12 x0_13 x0_14 x0_15 x0_16 x0_17 x0_18 x0_19 x0_20 x0_21 x0_22 x0_23 x0_24 x1_0 x1_1 x1_2 x1_3 x2) ho φ vs w may ha hM
  · cases h)
theorem lRasSt_en : Enters Try.prog 6 := fun args => by kernel_rfl
-- 732 33 24 ms

def tabRd7 : Tab := (6, normC lRasSt_c) :: tabRd6
theorem tabRd7_ok : TOK Try.prog tabRd7 := TOK.cons lRasSt_en lRasSt_ok (tabRd6_ok)

end Go.Proofs.Ytcdejlgophpdjaa
end

section
namespace Go.Proofs.Ytcdejlgophpdjaa
open Go Go.RowKit Go.Proofs.Ytcdejlgophpdjaa.V
set_option linter.unusedVariables false
set_option linter.unusedSectionVars false

namespace Ra
theorem rowX_app (t : Nat → Int) (y : Int) : ∀ (n : Nat) (x : Int) (l : List (List Int)), rowX t y n x l = l ++ rowX t y n x []
  | 0, x, l => by unfold rowX; rw [List.append_nil]
  | n + 1, x, l => by
    unfold rowX
    cases Ra.at5 t x y with
    | false => exact rowX_app t y n (x + 1) l
    | true =>
      rw [cond_true, cond_true, rowX_app t y n (x + 1) (l ++ [row t x y]), rowX_app t y n (x + 1) ([] ++ [row t x y]), List.nil_append, List.append_assoc]
theorem rowsY_app (t : Nat → Int) (m : Nat) (a : Int) : ∀ (n : Nat) (y : Int) (l : List (List Int)), rowsY t m a n y l = l ++ rowsY t m a n y []
  | 0, y, l => by unfold rowsY; rw [List.append_nil]
  | n + 1, y, l => by
    unfold rowsY
    rw [rowsY_app t m a n (y + 1) (rowX t y m a l), rowsY_app t m a n (y + 1) (rowX t y m a []), rowX_app t y m a l, List.append_assoc]
theorem rget_at (p r : List (List Int)) (q : List Int) (j : Nat) : rget (p ++ q :: r) p.length j = q.getD j 0 := by
  unfold rget
  rw [show (p ++ q :: r).getD p.length [] = q from by rw [List.getD_eq_getElem?_getD, List.getElem?_append_right (Nat.le_refl _), Nat.sub_self]; rfl]

section
variable (pa pb pc pd pe pf z0 z1 z2 n0 n1 n2 k00 k01 k02 k03 k10 k11 k12 k13 k20 k21 k22 k23 : Int) (u b0 b1 b2 b3 : Int)
theorem st_s0 (y x q r n G) : rCe1_l1993_s0 (.mk y x q r n G u pa pb pc pd pe pf z0 z1 z2 n0 n1 n2 k00 k01 k02 k03 k10 k11 k12 k13 k20 k21 k22 k23 b0 b1 b2 b3) = decide (x < b2) := rfl
theorem st_s3 (y x q r n G) : rCe1_l1993_s3 (.mk y x q r n G u pa pb pc pd pe pf z0 z1 z2 n0 n1 n2 k00 k01 k02 k03 k10 k11 k12 k13 k20 k21 k22 k23 b0 b1 b2 b3) = at5 (tg pa pb pc pd pe pf z0 z1 z2 n0 n1 n2 k00 k01 k02 k03 k10 k11 k12 k13 k20 k21 k22 k23) x y := rfl
theorem st_s4 (y x : Int) (p r : List (List Int)) : rCe1_l1993_s4 (.mk y x true true (Int.ofNat p.length) (p ++ row (tg pa pb pc pd pe pf z0 z1 z2 n0 n1 n2 k00 k01 k02 k03 k10 k11 k12 k13 k20 k21 k22 k23) x y :: r) u pa pb pc pd pe pf z0 z1 z2 n0 n1 n2 k00 k01 k02 k03 k10 k11 k12 k13 k20 k21 k22 k23 b0 b1 b2 b3 : rCe1_l1993_T) = true := by
  have q : ∀ j, rget (p ++ row (tg pa pb pc pd pe pf z0 z1 z2 n0 n1 n2 k00 k01 k02 k03 k10 k11 k12 k13 k20 k21 k22 k23) x y :: r) p.length j = (row (tg pa pb pc pd pe pf z0 z1 z2 n0 n1 n2 k00 k01 k02 k03 k10 k11 k12 k13 k20 k21 k22 k23) x y).getD j 0 := fun j => rget_at p r _ j
  have q0 : rget (p ++ row (tg pa pb pc pd pe pf z0 z1 z2 n0 n1 n2 k00 k01 k02 k03 k10 k11 k12 k13 k20 k21 k22 k23) x y :: r) p.length 0 = x := q 0
  have q1 : rget (p ++ row (tg pa pb pc pd pe pf z0 z1 z2 n0 n1 n2 k00 k01 k02 k03 k10 k11 k12 k13 k20 k21 k22 k23) x y :: r) p.length 1 = y := q 1
  have q2 : rget (p ++ row (tg pa pb pc pd pe pf z0 z1 z2 n0 n1 n2 k00 k01 k02 k03 k10 k11 k12 k13 k20 k21 k22 k23) x y :: r) p.length 2 = at0 (tg pa pb pc pd pe pf z0 z1 z2 n0 n1 n2 k00 k01 k02 k03 k10 k11 k12 k13 k20 k21 k22 k23) x y := q 2
  have q3 : rget (p ++ row (tg pa pb pc pd pe pf z0 z1 z2 n0 n1 n2 k00 k01 k02 k03 k10 k11 k12 k13 k20 k21 k22 k23) x y :: r) p.length 3 = at1 (tg pa pb pc pd pe pf z0 z1 z2 n0 n1 n2 k00 k01 k02 k03 k10 k11 k12 k13 k20 k21 k22 k23) x y := q 3
  have q4 : rget (p ++ row (tg pa pb pc pd pe pf z0 z1 z2 n0 n1 n2 k00 k01 k02 k03 k10 k11 k12 k13 k20 k21 k22 k23) x y :: r) p.length 4 = at2 (tg pa pb pc pd pe pf z0 z1 z2 n0 n1 n2 k00 k01 k02 k03 k10 k11 k12 k13 k20 k21 k22 k23) x y := q 4
  have q5 : rget (p ++ row (tg pa pb pc pd pe pf z0 z1 z2 n0 n1 n2 k00 k01 k02 k03 k10 k11 k12 k13 k20 k21 k22 k23) x y :: r) p.length 5 = at3 (tg pa pb pc pd pe pf z0 z1 z2 n0 n1 n2 k00 k01 k02 k03 k10 k11 k12 k13 k20 k21 k22 k23) x y := q 5
  have q6 : rget (p ++ row (tg pa pb pc pd pe pf z0 z1 z2 n0 n1 n2 k00 k01 k02 k03 k10 k11 k12 k13 k20 k21 k22 k23) x y :: r) p.length 6 = at4 (tg pa pb pc pd pe pf z0 z1 z2 n0 n1 n2 k00 k01 k02 k03 k10 k11 k12 k13 k20 k21 k22 k23) x y := q 6
  have e2 : lSt1_s1 (Int.ofNat p.length) (p ++ row (tg pa pb pc pd pe pf z0 z1 z2 n0 n1 n2 k00 k01 k02 k03 k10 k11 k12 k13 k20 k21 k22 k23) x y :: r) = true := decide_eq_true (by
    rw [List.length_append, List.length_cons]
    exact Int.ofNat_lt.2 (by omega))
  have e : rCe1_l1993_s4 (.mk y x true true (Int.ofNat p.length) (p ++ row (tg pa pb pc pd pe pf z0 z1 z2 n0 n1 n2 k00 k01 k02 k03 k10 k11 k12 k13 k20 k21 k22 k23) x y :: r) u pa pb pc pd pe pf z0 z1 z2 n0 n1 n2 k00 k01 k02 k03 k10 k11 k12 k13 k20 k21 k22 k23 b0 b1 b2 b3 : rCe1_l1993_T) = (bif at5 (tg pa pb pc pd pe pf z0 z1 z2 n0 n1 n2 k00 k01 k02 k03 k10 k11 k12 k13 k20 k21 k22 k23) x y then (bif lSt1_s1 (Int.ofNat p.length) (p ++ row (tg pa pb pc pd pe pf z0 z1 z2 n0 n1 n2 k00 k01 k02 k03 k10 k11 k12 k13 k20 k21 k22 k23) x y :: r) then x == rget (p ++ row (tg pa pb pc pd pe pf z0 z1 z2 n0 n1 n2 k00 k01 k02 k03 k10 k11 k12 k13 k20 k21 k22 k23) x y :: r) p.length 0 && (y == rget (p ++ row (tg pa pb pc pd pe pf z0 z1 z2 n0 n1 n2 k00 k01 k02 k03 k10 k11 k12 k13 k20 k21 k22 k23) x y :: r) p.length 1 && (at0 (tg pa pb pc pd pe pf z0 z1 z2 n0 n1 n2 k00 k01 k02 k03 k10 k11 k12 k13 k20 k21 k22 k23) x y == rget (p ++ row (tg pa pb pc pd pe pf z0 z1 z2 n0 n1 n2 k00 k01 k02 k03 k10 k11 k12 k13 k20 k21 k22 k23) x y :: r) p.length 2 && (at1 (tg pa pb pc pd pe pf z0 z1 z2 n0 n1 n2 k00 k01 k02 k03 k10 k11 k12 k13 k20 k21 k22 k23) x y == rget (p ++ row (tg pa pb pc pd pe pf z0 z1 z2 n0 n1 n2 k00 k01 k02 k03 k10 k11 k12 k13 k20 k21 k22 k23) x y :: r) p.length 3 && (at2 (tg pa pb pc pd pe pf z0 z1 z2 n0 n1 n2 k00 k01 k02 k03 k10 k11 k12 k13 k20 k21 k22 k23) x y == rget (p ++ row (tg pa pb pc pd pe pf z0 z1 z2 n0 n1 n2 k00 k01 k02 k03 k10 k11 k12 k13 k20 k21 k22 k23) x y :: r) p.length 4 && (at3 (tg pa pb pc pd pe pf z0 z1 z2 n0 n1 n2 k00 k01 k02 k03 k10 k11 k12 k13 k20 k21 k22 k23) x y == rget (p ++ row (tg pa pb pc pd pe pf z0 z1 z2 n0 n1 n2 k00 k01 k02 k03 k10 k11 k12 k13 k20 k21 k22 k23) x y :: r) p.length 5 && at4 (tg pa pb pc pd pe pf z0 z1 z2 n0 n1 n2 k00 k01 k02 k03 k10 k11 k12 k13 k20 k21 k22 k23) x y == rget (p ++ row (tg pa pb pc pd pe pf z0 z1 z2 n0 n1 n2 k00 k01 k02 k03 k10 k11 k12 k13 k20 k21 k22 k23) x y :: r) p.length 6))))) else false) else true) := rfl
  rw [e, e2, q0, q1, q2, q3, q4, q5, q6]
  simp
theorem st_ob (y x : Int) (n : Nat) (q : Bool) (G : List (List Int)) : Alls (rCe1_l1993_st (.mk y x q true (Int.ofNat n) G u pa pb pc pd pe pf z0 z1 z2 n0 n1 n2 k00 k01 k02 k03 k10 k11 k12 k13 k20 k21 k22 k23 b0 b1 b2 b3 : rCe1_l1993_T)).1 := by
  have kz : ∀ z : Int, (!(z == 0)) = true → z ≠ 0 := fun z h e => by subst e; exact absurd h (by decide)
  unfold rCe1_l1993_st
  repeat' first
    | refine ⟨fun _ _ h => kz _ h, ?_⟩
    | refine ⟨fun _ _ _ h => ⟨Int.natCast_nonneg n, of_decide_eq_true h⟩, trivial⟩

variable {u} (hu : 0 ≤ IntKind.wrap .i64 (Int.tmod u 40) ∧ IntKind.wrap .i64 (Int.tmod u 40) ≤ 39)
include hu
theorem st_in (hb : b2 ≤ 64) (y : Int) (G : List (List Int)) (hG : G.length ≤ 4096) : ∀ (n : Nat) (x : Int) (p r : List (List Int)), 0 ≤ x → (b2 - x).toNat = n → G = p ++ rowX (tg pa pb pc pd pe pf z0 z1 z2 n0 n1 n2 k00 k01 k02 k03 k10 k11 k12 k13 k20 k21 k22 k23) y n x [] ++ r → (p.length : Int) ≤ IntKind.wrap .i64 (Int.tmod u 40) → ∀ f, n < f →
    ((∃ x', lrun rCe1_l1993_st f (.mk y x true true (Int.ofNat p.length) G u pa pb pc pd pe pf z0 z1 z2 n0 n1 n2 k00 k01 k02 k03 k10 k11 k12 k13 k20 k21 k22 k23 b0 b1 b2 b3 : rCe1_l1993_T) = some (.e 2, (.mk y x' true true (Int.ofNat (p ++ rowX (tg pa pb pc pd pe pf z0 z1 z2 n0 n1 n2 k00 k01 k02 k03 k10 k11 k12 k13 k20 k21 k22 k23) y n x []).length) G u pa pb pc pd pe pf z0 z1 z2 n0 n1 n2 k00 k01 k02 k03 k10 k11 k12 k13 k20 k21 k22 k23 b0 b1 b2 b3 : rCe1_l1993_T)) ∧ ((p ++ rowX (tg pa pb pc pd pe pf z0 z1 z2 n0 n1 n2 k00 k01 k02 k03 k10 k11 k12 k13 k20 k21 k22 k23) y n x []).length : Int) ≤ IntKind.wrap .i64 (Int.tmod u 40)) ∨
      (∃ v', lrun rCe1_l1993_st f (.mk y x true true (Int.ofNat p.length) G u pa pb pc pd pe pf z0 z1 z2 n0 n1 n2 k00 k01 k02 k03 k10 k11 k12 k13 k20 k21 k22 k23 b0 b1 b2 b3 : rCe1_l1993_T) = some (.r, v') ∧ v'.a3 = true ∧ v'.a4 = IntKind.wrap .i64 (Int.tmod u 40) + 1 ∧ IntKind.wrap .i64 (Int.tmod u 40) + 1 ≤ (G.length : Int))) ∧ lok rCe1_l1993_st f (.mk y x true true (Int.ofNat p.length) G u pa pb pc pd pe pf z0 z1 z2 n0 n1 n2 k00 k01 k02 k03 k10 k11 k12 k13 k20 k21 k22 k23 b0 b1 b2 b3 : rCe1_l1993_T)
  | n, x, p, r, hx, hn, hg, hp, 0, hf => by omega
  | 0, x, p, r, hx, hn, hg, hp, f + 1, hf => by
    have ob := st_ob pa pb pc pd pe pf z0 z1 z2 n0 n1 n2 k00 k01 k02 k03 k10 k11 k12 k13 k20 k21 k22 k23 u b0 b1 b2 b3 y x p.length true G
    have e : pick1 (rCe1_l1993_st (.mk y x true true (Int.ofNat p.length) G u pa pb pc pd pe pf z0 z1 z2 n0 n1 n2 k00 k01 k02 k03 k10 k11 k12 k13 k20 k21 k22 k23 b0 b1 b2 b3 : rCe1_l1993_T)).2 = some (.e 2, (.mk y x true true (Int.ofNat p.length) G u pa pb pc pd pe pf z0 z1 z2 n0 n1 n2 k00 k01 k02 k03 k10 k11 k12 k13 k20 k21 k22 k23 b0 b1 b2 b3 : rCe1_l1993_T)) := by
      unfold rCe1_l1993_st
      rw [st_s0, decide_eq_false (by omega)]
      rfl
    unfold lrun lok
    rw [e]
    refine ⟨.inl ⟨x, ?_, ?_⟩, ob, trivial⟩
    · unfold rowX
      rw [List.append_nil]
    · unfold rowX
      rw [List.append_nil]
      exact hp
  | n + 1, x, p, r, hx, hn, hg, hp, f + 1, hf => by
    have ob := st_ob pa pb pc pd pe pf z0 z1 z2 n0 n1 n2 k00 k01 k02 k03 k10 k11 k12 k13 k20 k21 k22 k23 u b0 b1 b2 b3 y x p.length true G
    have ew : IntKind.wrap .i64 (x + 1) = x + 1 := w64_in (by omega) (by omega)
    unfold lrun lok
    cases hq : at5 (tg pa pb pc pd pe pf z0 z1 z2 n0 n1 n2 k00 k01 k02 k03 k10 k11 k12 k13 k20 k21 k22 k23) x y with
    | false =>
      have e : pick1 (rCe1_l1993_st (.mk y x true true (Int.ofNat p.length) G u pa pb pc pd pe pf z0 z1 z2 n0 n1 n2 k00 k01 k02 k03 k10 k11 k12 k13 k20 k21 k22 k23 b0 b1 b2 b3 : rCe1_l1993_T)).2 = some (.n, (.mk y (x + 1) true true (Int.ofNat p.length) G u pa pb pc pd pe pf z0 z1 z2 n0 n1 n2 k00 k01 k02 k03 k10 k11 k12 k13 k20 k21 k22 k23 b0 b1 b2 b3 : rCe1_l1993_T)) := by
        have s4 : rCe1_l1993_s4 (.mk y x true true (Int.ofNat p.length) G u pa pb pc pd pe pf z0 z1 z2 n0 n1 n2 k00 k01 k02 k03 k10 k11 k12 k13 k20 k21 k22 k23 b0 b1 b2 b3 : rCe1_l1993_T) = true := by
          show (bif rCe1_l1993_s3 (.mk y x true true (Int.ofNat p.length) G u pa pb pc pd pe pf z0 z1 z2 n0 n1 n2 k00 k01 k02 k03 k10 k11 k12 k13 k20 k21 k22 k23 b0 b1 b2 b3 : rCe1_l1993_T) then _ else true) = true
          rw [st_s3, hq]
          rfl
        unfold rCe1_l1993_st
        rw [st_s0, decide_eq_true (by omega : x < b2), s4, st_s3, hq]
        show some (X.n, (.mk y (IntKind.wrap .i64 (x + 1)) true true (Int.ofNat p.length) G u pa pb pc pd pe pf z0 z1 z2 n0 n1 n2 k00 k01 k02 k03 k10 k11 k12 k13 k20 k21 k22 k23 b0 b1 b2 b3 : rCe1_l1993_T)) = _
        rw [ew]
      have er : rowX (tg pa pb pc pd pe pf z0 z1 z2 n0 n1 n2 k00 k01 k02 k03 k10 k11 k12 k13 k20 k21 k22 k23) y (n + 1) x [] = rowX (tg pa pb pc pd pe pf z0 z1 z2 n0 n1 n2 k00 k01 k02 k03 k10 k11 k12 k13 k20 k21 k22 k23) y n (x + 1) [] := by
        conv => lhs; unfold rowX
        rw [hq]; rfl
      have hg' : G = p ++ rowX (tg pa pb pc pd pe pf z0 z1 z2 n0 n1 n2 k00 k01 k02 k03 k10 k11 k12 k13 k20 k21 k22 k23) y n (x + 1) [] ++ r := by rw [hg, er]
      obtain ⟨i1, i2⟩ := st_in hb y G hG n (x + 1) p r (by omega) (by omega) hg' hp f (by omega)
      rw [e]
      refine ⟨?_, ob, i2⟩
      rw [er]
      exact i1
    | true =>
      have er : rowX (tg pa pb pc pd pe pf z0 z1 z2 n0 n1 n2 k00 k01 k02 k03 k10 k11 k12 k13 k20 k21 k22 k23) y (n + 1) x [] = row (tg pa pb pc pd pe pf z0 z1 z2 n0 n1 n2 k00 k01 k02 k03 k10 k11 k12 k13 k20 k21 k22 k23) x y :: rowX (tg pa pb pc pd pe pf z0 z1 z2 n0 n1 n2 k00 k01 k02 k03 k10 k11 k12 k13 k20 k21 k22 k23) y n (x + 1) [] := by
        conv => lhs; unfold rowX
        rw [hq, cond_true, List.nil_append, rowX_app]; rfl
      have hg1 : G = p ++ row (tg pa pb pc pd pe pf z0 z1 z2 n0 n1 n2 k00 k01 k02 k03 k10 k11 k12 k13 k20 k21 k22 k23) x y :: (rowX (tg pa pb pc pd pe pf z0 z1 z2 n0 n1 n2 k00 k01 k02 k03 k10 k11 k12 k13 k20 k21 k22 k23) y n (x + 1) [] ++ r) := by rw [hg, er, List.append_assoc]; rfl
      have s4 := st_s4 pa pb pc pd pe pf z0 z1 z2 n0 n1 n2 k00 k01 k02 k03 k10 k11 k12 k13 k20 k21 k22 k23 u b0 b1 b2 b3 y x p (rowX (tg pa pb pc pd pe pf z0 z1 z2 n0 n1 n2 k00 k01 k02 k03 k10 k11 k12 k13 k20 k21 k22 k23) y n (x + 1) [] ++ r)
      rw [← hg1] at s4
      have hpl : p.length < G.length := by rw [hg1, List.length_append, List.length_cons]; omega
      have ek : Int.ofNat p.length = (p.length : Int) := rfl
      have ei : lSt1_s0 (Int.ofNat p.length) = Int.ofNat (p ++ [row (tg pa pb pc pd pe pf z0 z1 z2 n0 n1 n2 k00 k01 k02 k03 k10 k11 k12 k13 k20 k21 k22 k23) x y]).length := by
        unfold lSt1_s0
        rw [w64_in (by omega) (by omega), List.length_append]; rfl
      have el : ((p ++ [row (tg pa pb pc pd pe pf z0 z1 z2 n0 n1 n2 k00 k01 k02 k03 k10 k11 k12 k13 k20 k21 k22 k23) x y]).length : Int) = (p.length : Int) + 1 := by rw [List.length_append]; rfl
      by_cases hs : ((p.length : Int) + 1) ≤ IntKind.wrap .i64 (Int.tmod u 40)
      · have e0 : lSt1_0 (Int.ofNat p.length) u = true := by
          unfold lSt1_0
          rw [ei]
          refine decide_eq_true ?_
          show ((p ++ [row (tg pa pb pc pd pe pf z0 z1 z2 n0 n1 n2 k00 k01 k02 k03 k10 k11 k12 k13 k20 k21 k22 k23) x y]).length : Int) ≤ _
          omega
        have e : pick1 (rCe1_l1993_st (.mk y x true true (Int.ofNat p.length) G u pa pb pc pd pe pf z0 z1 z2 n0 n1 n2 k00 k01 k02 k03 k10 k11 k12 k13 k20 k21 k22 k23 b0 b1 b2 b3 : rCe1_l1993_T)).2 = some (.n, (.mk y (x + 1) true true (Int.ofNat (p ++ [row (tg pa pb pc pd pe pf z0 z1 z2 n0 n1 n2 k00 k01 k02 k03 k10 k11 k12 k13 k20 k21 k22 k23) x y]).length) G u pa pb pc pd pe pf z0 z1 z2 n0 n1 n2 k00 k01 k02 k03 k10 k11 k12 k13 k20 k21 k22 k23 b0 b1 b2 b3 : rCe1_l1993_T)) := by
          unfold rCe1_l1993_st
          rw [st_s0, decide_eq_true (by omega : x < b2), s4, st_s3, hq]
          show pick1 [(X.e 2, false, (.mk y x true true (Int.ofNat p.length) G u pa pb pc pd pe pf z0 z1 z2 n0 n1 n2 k00 k01 k02 k03 k10 k11 k12 k13 k20 k21 k22 k23 b0 b1 b2 b3 : rCe1_l1993_T)), (X.r, !lSt1_0 (Int.ofNat p.length) u, (.mk y x true true (lSt1_s0 (Int.ofNat p.length)) G u pa pb pc pd pe pf z0 z1 z2 n0 n1 n2 k00 k01 k02 k03 k10 k11 k12 k13 k20 k21 k22 k23 b0 b1 b2 b3 : rCe1_l1993_T)), (X.n, !!lSt1_0 (Int.ofNat p.length) u, (.mk y (IntKind.wrap .i64 (x + 1)) true true (lSt1_s0 (Int.ofNat p.length)) G u pa pb pc pd pe pf z0 z1 z2 n0 n1 n2 k00 k01 k02 k03 k10 k11 k12 k13 k20 k21 k22 k23 b0 b1 b2 b3 : rCe1_l1993_T))] = _
          rw [e0, ew, ei]
          rfl
        have hg' : G = (p ++ [row (tg pa pb pc pd pe pf z0 z1 z2 n0 n1 n2 k00 k01 k02 k03 k10 k11 k12 k13 k20 k21 k22 k23) x y]) ++ rowX (tg pa pb pc pd pe pf z0 z1 z2 n0 n1 n2 k00 k01 k02 k03 k10 k11 k12 k13 k20 k21 k22 k23) y n (x + 1) [] ++ r := by rw [hg1]; simp
        obtain ⟨i1, i2⟩ := st_in hb y G hG n (x + 1) (p ++ [row (tg pa pb pc pd pe pf z0 z1 z2 n0 n1 n2 k00 k01 k02 k03 k10 k11 k12 k13 k20 k21 k22 k23) x y]) r (by omega) (by omega) hg' (by omega) f (by omega)
        rw [e]
        refine ⟨?_, ob, i2⟩
        rw [er, show p ++ row (tg pa pb pc pd pe pf z0 z1 z2 n0 n1 n2 k00 k01 k02 k03 k10 k11 k12 k13 k20 k21 k22 k23) x y :: rowX (tg pa pb pc pd pe pf z0 z1 z2 n0 n1 n2 k00 k01 k02 k03 k10 k11 k12 k13 k20 k21 k22 k23) y n (x + 1) [] = p ++ [row (tg pa pb pc pd pe pf z0 z1 z2 n0 n1 n2 k00 k01 k02 k03 k10 k11 k12 k13 k20 k21 k22 k23) x y] ++ rowX (tg pa pb pc pd pe pf z0 z1 z2 n0 n1 n2 k00 k01 k02 k03 k10 k11 k12 k13 k20 k21 k22 k23) y n (x + 1) [] from by simp]
        exact i1
      · have e0 : lSt1_0 (Int.ofNat p.length) u = false := by
          unfold lSt1_0
          rw [ei]
          refine decide_eq_false ?_
          show ¬ ((p ++ [row (tg pa pb pc pd pe pf z0 z1 z2 n0 n1 n2 k00 k01 k02 k03 k10 k11 k12 k13 k20 k21 k22 k23) x y]).length : Int) ≤ _
          omega
        have e : pick1 (rCe1_l1993_st (.mk y x true true (Int.ofNat p.length) G u pa pb pc pd pe pf z0 z1 z2 n0 n1 n2 k00 k01 k02 k03 k10 k11 k12 k13 k20 k21 k22 k23 b0 b1 b2 b3 : rCe1_l1993_T)).2 = some (.r, (.mk y x true true (lSt1_s0 (Int.ofNat p.length)) G u pa pb pc pd pe pf z0 z1 z2 n0 n1 n2 k00 k01 k02 k03 k10 k11 k12 k13 k20 k21 k22 k23 b0 b1 b2 b3 : rCe1_l1993_T)) := by
          unfold rCe1_l1993_st
          rw [st_s0, decide_eq_true (by omega : x < b2), s4, st_s3, hq]
          show pick1 [(X.e 2, false, (.mk y x true true (Int.ofNat p.length) G u pa pb pc pd pe pf z0 z1 z2 n0 n1 n2 k00 k01 k02 k03 k10 k11 k12 k13 k20 k21 k22 k23 b0 b1 b2 b3 : rCe1_l1993_T)), (X.r, !lSt1_0 (Int.ofNat p.length) u, (.mk y x true true (lSt1_s0 (Int.ofNat p.length)) G u pa pb pc pd pe pf z0 z1 z2 n0 n1 n2 k00 k01 k02 k03 k10 k11 k12 k13 k20 k21 k22 k23 b0 b1 b2 b3 : rCe1_l1993_T)), (X.n, !!lSt1_0 (Int.ofNat p.length) u, (.mk y (IntKind.wrap .i64 (x + 1)) true true (lSt1_s0 (Int.ofNat p.length)) G u pa pb pc pd pe pf z0 z1 z2 n0 n1 n2 k00 k01 k02 k03 k10 k11 k12 k13 k20 k21 k22 k23 b0 b1 b2 b3 : rCe1_l1993_T))] = _
          rw [e0]
          rfl
        rw [e]
        refine ⟨.inr ⟨_, rfl, rfl, ?_, ?_⟩, ob, trivial⟩
        · show lSt1_s0 (Int.ofNat p.length) = _
          rw [ei]
          show ((p ++ [row (tg pa pb pc pd pe pf z0 z1 z2 n0 n1 n2 k00 k01 k02 k03 k10 k11 k12 k13 k20 k21 k22 k23) x y]).length : Int) = _
          omega
        · omega

theorem st_out (hb : b2 ≤ 64) (hb3 : b3 ≤ 64) (hb0 : 0 ≤ b0) (G : List (List Int)) (hG : G.length ≤ 4096) (m : Nat) (hm : m = (b2 - b0).toNat) : ∀ (n : Nat) (y : Int) (p : List (List Int)), 0 ≤ y → (b3 - y).toNat = n → G = p ++ rowsY (tg pa pb pc pd pe pf z0 z1 z2 n0 n1 n2 k00 k01 k02 k03 k10 k11 k12 k13 k20 k21 k22 k23) m b0 n y [] → (p.length : Int) ≤ IntKind.wrap .i64 (Int.tmod u 40) → ∀ f, n < f →
    ((∃ y', lrun rCe1_l31_st f (.mk y true (Int.ofNat p.length) G u pa pb pc pd pe pf z0 z1 z2 n0 n1 n2 k00 k01 k02 k03 k10 k11 k12 k13 k20 k21 k22 k23 b0 b1 b2 b3 : rCe1_l31_T) = some (.e 0, (.mk y' true (Int.ofNat G.length) G u pa pb pc pd pe pf z0 z1 z2 n0 n1 n2 k00 k01 k02 k03 k10 k11 k12 k13 k20 k21 k22 k23 b0 b1 b2 b3 : rCe1_l31_T)) ∧ (G.length : Int) ≤ IntKind.wrap .i64 (Int.tmod u 40)) ∨
      (∃ v', lrun rCe1_l31_st f (.mk y true (Int.ofNat p.length) G u pa pb pc pd pe pf z0 z1 z2 n0 n1 n2 k00 k01 k02 k03 k10 k11 k12 k13 k20 k21 k22 k23 b0 b1 b2 b3 : rCe1_l31_T) = some (.r, v') ∧ v'.a1 = true ∧ v'.a2 = IntKind.wrap .i64 (Int.tmod u 40) + 1 ∧ IntKind.wrap .i64 (Int.tmod u 40) + 1 ≤ (G.length : Int))) ∧ lok rCe1_l31_st f (.mk y true (Int.ofNat p.length) G u pa pb pc pd pe pf z0 z1 z2 n0 n1 n2 k00 k01 k02 k03 k10 k11 k12 k13 k20 k21 k22 k23 b0 b1 b2 b3 : rCe1_l31_T)
  | n, y, p, hy, hn, hg, hp, 0, hf => by omega
  | 0, y, p, hy, hn, hg, hp, f + 1, hf => by
    have s0 : rCe1_l31_s0 (.mk y true (Int.ofNat p.length) G u pa pb pc pd pe pf z0 z1 z2 n0 n1 n2 k00 k01 k02 k03 k10 k11 k12 k13 k20 k21 k22 k23 b0 b1 b2 b3 : rCe1_l31_T) = false := decide_eq_false (by show ¬ y < b3; omega)
    have e : pick1 (rCe1_l31_st (.mk y true (Int.ofNat p.length) G u pa pb pc pd pe pf z0 z1 z2 n0 n1 n2 k00 k01 k02 k03 k10 k11 k12 k13 k20 k21 k22 k23 b0 b1 b2 b3 : rCe1_l31_T)).2 = some (.e 0, (.mk y true (Int.ofNat p.length) G u pa pb pc pd pe pf z0 z1 z2 n0 n1 n2 k00 k01 k02 k03 k10 k11 k12 k13 k20 k21 k22 k23 b0 b1 b2 b3 : rCe1_l31_T)) := by
      unfold rCe1_l31_st
      rw [s0]
      rfl
    have ob : Alls (rCe1_l31_st (.mk y true (Int.ofNat p.length) G u pa pb pc pd pe pf z0 z1 z2 n0 n1 n2 k00 k01 k02 k03 k10 k11 k12 k13 k20 k21 k22 k23 b0 b1 b2 b3 : rCe1_l31_T)).1 := by
      unfold rCe1_l31_st
      rw [s0]
      exact ⟨nofun, trivial⟩
    have : G = p := by rw [hg]; unfold rowsY; rw [List.append_nil]
    unfold lrun lok
    rw [e]
    refine ⟨.inl ⟨y, ?_, ?_⟩, ob, trivial⟩
    · rw [this]
    · rw [this]; exact hp
  | n + 1, y, p, hy, hn, hg, hp, f + 1, hf => by
    have s0 : rCe1_l31_s0 (.mk y true (Int.ofNat p.length) G u pa pb pc pd pe pf z0 z1 z2 n0 n1 n2 k00 k01 k02 k03 k10 k11 k12 k13 k20 k21 k22 k23 b0 b1 b2 b3 : rCe1_l31_T) = true := decide_eq_true (by show y < b3; omega)
    have er : rowsY (tg pa pb pc pd pe pf z0 z1 z2 n0 n1 n2 k00 k01 k02 k03 k10 k11 k12 k13 k20 k21 k22 k23) m b0 (n + 1) y [] = rowX (tg pa pb pc pd pe pf z0 z1 z2 n0 n1 n2 k00 k01 k02 k03 k10 k11 k12 k13 k20 k21 k22 k23) y m b0 [] ++ rowsY (tg pa pb pc pd pe pf z0 z1 z2 n0 n1 n2 k00 k01 k02 k03 k10 k11 k12 k13 k20 k21 k22 k23) m b0 n (y + 1) [] := by
      conv => lhs; unfold rowsY
      rw [rowsY_app]
    have hg1 : G = p ++ rowX (tg pa pb pc pd pe pf z0 z1 z2 n0 n1 n2 k00 k01 k02 k03 k10 k11 k12 k13 k20 k21 k22 k23) y m b0 [] ++ rowsY (tg pa pb pc pd pe pf z0 z1 z2 n0 n1 n2 k00 k01 k02 k03 k10 k11 k12 k13 k20 k21 k22 k23) m b0 n (y + 1) [] := by rw [hg, er, List.append_assoc]
    obtain ⟨i1, i2⟩ := st_in pa pb pc pd pe pf z0 z1 z2 n0 n1 n2 k00 k01 k02 k03 k10 k11 k12 k13 k20 k21 k22 k23 b0 b1 b2 b3 hu hb y G hG m b0 p _ hb0 hm.symm hg1 hp 18446744073709551616 (by omega)
    have ob : Alls (rCe1_l31_st (.mk y true (Int.ofNat p.length) G u pa pb pc pd pe pf z0 z1 z2 n0 n1 n2 k00 k01 k02 k03 k10 k11 k12 k13 k20 k21 k22 k23 b0 b1 b2 b3 : rCe1_l31_T)).1 := by
      unfold rCe1_l31_st
      rw [s0]
      exact ⟨fun _ => i2, trivial⟩
    unfold lrun lok
    rcases i1 with ⟨x', i1, i3⟩ | ⟨v', i1, i3, i4, i5⟩
    · have s1 : rCe1_l31_s1 (.mk y true (Int.ofNat p.length) G u pa pb pc pd pe pf z0 z1 z2 n0 n1 n2 k00 k01 k02 k03 k10 k11 k12 k13 k20 k21 k22 k23 b0 b1 b2 b3 : rCe1_l31_T) = some (.e 2, (.mk y x' true true (Int.ofNat (p ++ rowX (tg pa pb pc pd pe pf z0 z1 z2 n0 n1 n2 k00 k01 k02 k03 k10 k11 k12 k13 k20 k21 k22 k23) y m b0 []).length) G u pa pb pc pd pe pf z0 z1 z2 n0 n1 n2 k00 k01 k02 k03 k10 k11 k12 k13 k20 k21 k22 k23 b0 b1 b2 b3 : rCe1_l1993_T)) := by
        unfold rCe1_l31_s1
        rw [s0]
        exact i1
      have ew : IntKind.wrap .i64 (y + 1) = y + 1 := w64_in (by omega) (by omega)
      have e : pick1 (rCe1_l31_st (.mk y true (Int.ofNat p.length) G u pa pb pc pd pe pf z0 z1 z2 n0 n1 n2 k00 k01 k02 k03 k10 k11 k12 k13 k20 k21 k22 k23 b0 b1 b2 b3 : rCe1_l31_T)).2 = some (.n, (.mk (y + 1) true (Int.ofNat (p ++ rowX (tg pa pb pc pd pe pf z0 z1 z2 n0 n1 n2 k00 k01 k02 k03 k10 k11 k12 k13 k20 k21 k22 k23) y m b0 []).length) G u pa pb pc pd pe pf z0 z1 z2 n0 n1 n2 k00 k01 k02 k03 k10 k11 k12 k13 k20 k21 k22 k23 b0 b1 b2 b3 : rCe1_l31_T)) := by
        unfold rCe1_l31_st
        rw [s0, s1]
        show some (X.n, (.mk (IntKind.wrap .i64 (y + 1)) true (Int.ofNat (p ++ rowX (tg pa pb pc pd pe pf z0 z1 z2 n0 n1 n2 k00 k01 k02 k03 k10 k11 k12 k13 k20 k21 k22 k23) y m b0 []).length) G u pa pb pc pd pe pf z0 z1 z2 n0 n1 n2 k00 k01 k02 k03 k10 k11 k12 k13 k20 k21 k22 k23 b0 b1 b2 b3 : rCe1_l31_T)) = _
        rw [ew]
      obtain ⟨j1, j2⟩ := st_out hb hb3 hb0 G hG m hm n (y + 1) _ (by omega) (by omega) hg1 i3 f (by omega)
      rw [e]
      exact ⟨j1, ob, j2⟩
    · have s1 : rCe1_l31_s1 (.mk y true (Int.ofNat p.length) G u pa pb pc pd pe pf z0 z1 z2 n0 n1 n2 k00 k01 k02 k03 k10 k11 k12 k13 k20 k21 k22 k23 b0 b1 b2 b3 : rCe1_l31_T) = some (.r, v') := by
        unfold rCe1_l31_s1
        rw [s0]
        exact i1
      have e : pick1 (rCe1_l31_st (.mk y true (Int.ofNat p.length) G u pa pb pc pd pe pf z0 z1 z2 n0 n1 n2 k00 k01 k02 k03 k10 k11 k12 k13 k20 k21 k22 k23 b0 b1 b2 b3 : rCe1_l31_T)).2 = some (.r, (.mk v'.a0 v'.a3 v'.a4 G u pa pb pc pd pe pf z0 z1 z2 n0 n1 n2 k00 k01 k02 k03 k10 k11 k12 k13 k20 k21 k22 k23 b0 b1 b2 b3 : rCe1_l31_T)) := by
        unfold rCe1_l31_st
        rw [s0, s1]
        rfl
      rw [e]
      exact ⟨.inr ⟨_, rfl, i3, i4, i5⟩, ob, trivial⟩
end

/-- All of it: what is handed back. -/
theorem st_all (pa pb pc pd pe pf z0 z1 z2 n0 n1 n2 k00 k01 k02 k03 k10 k11 k12 k13 k20 k21 k22 k23 u b0 b1 b2 b3 : Int) (hu : 0 ≤ IntKind.wrap .i64 (Int.tmod u 40) ∧ IntKind.wrap .i64 (Int.tmod u 40) ≤ 39) : rCe1_0 true 0 (lc pa pb pc pd pe pf z0 z1 z2 n0 n1 n2 k00 k01 k02 k03 k10 k11 k12 k13 k20 k21 k22 k23 b0 b1 b2 b3) u pa pb pc pd pe pf z0 z1 z2 n0 n1 n2 k00 k01 k02 k03 k10 k11 k12 k13 k20 k21 k22 k23 b0 b1 b2 b3 = true ∧
    rCe1_1 true 0 (lc pa pb pc pd pe pf z0 z1 z2 n0 n1 n2 k00 k01 k02 k03 k10 k11 k12 k13 k20 k21 k22 k23 b0 b1 b2 b3) u pa pb pc pd pe pf z0 z1 z2 n0 n1 n2 k00 k01 k02 k03 k10 k11 k12 k13 k20 k21 k22 k23 b0 b1 b2 b3 = (if IntKind.wrap .i64 (Int.tmod u 40) + 1 < Int.ofNat (lc pa pb pc pd pe pf z0 z1 z2 n0 n1 n2 k00 k01 k02 k03 k10 k11 k12 k13 k20 k21 k22 k23 b0 b1 b2 b3).length then IntKind.wrap .i64 (Int.tmod u 40) + 1 else Int.ofNat (lc pa pb pc pd pe pf z0 z1 z2 n0 n1 n2 k00 k01 k02 k03 k10 k11 k12 k13 k20 k21 k22 k23 b0 b1 b2 b3).length) ∧
    (rCe1_s1 pa pb pc pd pe pf z0 z1 z2 n0 n1 n2 k00 k01 k02 k03 k10 k11 k12 k13 k20 k21 k22 k23 = true → lok rCe1_l31_st 18446744073709551616 (.mk (rCe1_s2 b1) true 0 (lc pa pb pc pd pe pf z0 z1 z2 n0 n1 n2 k00 k01 k02 k03 k10 k11 k12 k13 k20 k21 k22 k23 b0 b1 b2 b3) u pa pb pc pd pe pf z0 z1 z2 n0 n1 n2 k00 k01 k02 k03 k10 k11 k12 k13 k20 k21 k22 k23 (rCe1_s3 b0) (rCe1_s2 b1) (rCe1_s4 b2) (rCe1_s5 b3))) := by
  have hG : (lc pa pb pc pd pe pf z0 z1 z2 n0 n1 n2 k00 k01 k02 k03 k10 k11 k12 k13 k20 k21 k22 k23 b0 b1 b2 b3).length ≤ 4096 := cells_len _ _ _ _ _
  cases hk : ck (tg pa pb pc pd pe pf z0 z1 z2 n0 n1 n2 k00 k01 k02 k03 k10 k11 k12 k13 k20 k21 k22 k23) != 0 with
  | true =>
    have h0 : rCe1_s0 pa pb pc pd pe pf z0 z1 z2 n0 n1 n2 k00 k01 k02 k03 k10 k11 k12 k13 k20 k21 k22 k23 = true := hk
    have hl : lc pa pb pc pd pe pf z0 z1 z2 n0 n1 n2 k00 k01 k02 k03 k10 k11 k12 k13 k20 k21 k22 k23 b0 b1 b2 b3 = [] := cells_none hk
    have h7 : ∀ r k l, rCe1_s7 r k l u pa pb pc pd pe pf z0 z1 z2 n0 n1 n2 k00 k01 k02 k03 k10 k11 k12 k13 k20 k21 k22 k23 b0 b1 b2 b3 = true := fun r k l => by unfold rCe1_s7; rw [h0]; rfl
    refine ⟨?_, ?_, fun h => ?_⟩
    · unfold rCe1_0
      rw [h7, h0]; rfl
    · unfold rCe1_1
      rw [h7, h0, hl]
      rw [if_neg]
      · rfl
      · show ¬ _ < (0 : Int)
        omega
    · unfold rCe1_s1 at h
      rw [h0] at h
      cases h
  | false =>
    have h0 : rCe1_s0 pa pb pc pd pe pf z0 z1 z2 n0 n1 n2 k00 k01 k02 k03 k10 k11 k12 k13 k20 k21 k22 k23 = false := hk
    have hg : lc pa pb pc pd pe pf z0 z1 z2 n0 n1 n2 k00 k01 k02 k03 k10 k11 k12 k13 k20 k21 k22 k23 b0 b1 b2 b3 = [] ++ rowsY (tg pa pb pc pd pe pf z0 z1 z2 n0 n1 n2 k00 k01 k02 k03 k10 k11 k12 k13 k20 k21 k22 k23) (up b2 - lo b0).toNat (lo b0) (up b3 - lo b1).toNat (lo b1) [] := by
      unfold lc cells
      rw [hk]; rfl
    have l0 := lo_ge b0
    have l1 := lo_ge b1
    have u2 := up_le b2
    have u3 := up_le b3
    obtain ⟨j1, j2⟩ := st_out pa pb pc pd pe pf z0 z1 z2 n0 n1 n2 k00 k01 k02 k03 k10 k11 k12 k13 k20 k21 k22 k23 (lo b0) (lo b1) (up b2) (up b3) hu u2.1 u3.1 l0.1 _ hG _ rfl (up b3 - lo b1).toNat (lo b1) [] l1.1 rfl hg hu.1 18446744073709551616 (by omega)
    refine ⟨?_, ?_, fun _ => j2⟩
    · have e : rCe1_0 true 0 (lc pa pb pc pd pe pf z0 z1 z2 n0 n1 n2 k00 k01 k02 k03 k10 k11 k12 k13 k20 k21 k22 k23 b0 b1 b2 b3) u pa pb pc pd pe pf z0 z1 z2 n0 n1 n2 k00 k01 k02 k03 k10 k11 k12 k13 k20 k21 k22 k23 b0 b1 b2 b3 = rCe1_s8 true 0 (lc pa pb pc pd pe pf z0 z1 z2 n0 n1 n2 k00 k01 k02 k03 k10 k11 k12 k13 k20 k21 k22 k23 b0 b1 b2 b3) u pa pb pc pd pe pf z0 z1 z2 n0 n1 n2 k00 k01 k02 k03 k10 k11 k12 k13 k20 k21 k22 k23 b0 b1 b2 b3 := by
        unfold rCe1_0
        rw [h0]
        cases rCe1_s7 true 0 (lc pa pb pc pd pe pf z0 z1 z2 n0 n1 n2 k00 k01 k02 k03 k10 k11 k12 k13 k20 k21 k22 k23 b0 b1 b2 b3) u pa pb pc pd pe pf z0 z1 z2 n0 n1 n2 k00 k01 k02 k03 k10 k11 k12 k13 k20 k21 k22 k23 b0 b1 b2 b3 <;> rfl
      rw [e]
      unfold rCe1_s8
      rcases j1 with ⟨y', j1, j3⟩ | ⟨v', j1, j3, j4, j5⟩
      · have h6 : rCe1_s6 true 0 (lc pa pb pc pd pe pf z0 z1 z2 n0 n1 n2 k00 k01 k02 k03 k10 k11 k12 k13 k20 k21 k22 k23 b0 b1 b2 b3) u pa pb pc pd pe pf z0 z1 z2 n0 n1 n2 k00 k01 k02 k03 k10 k11 k12 k13 k20 k21 k22 k23 b0 b1 b2 b3 = _ := j1
        rw [h6]; rfl
      · have h6 : rCe1_s6 true 0 (lc pa pb pc pd pe pf z0 z1 z2 n0 n1 n2 k00 k01 k02 k03 k10 k11 k12 k13 k20 k21 k22 k23 b0 b1 b2 b3) u pa pb pc pd pe pf z0 z1 z2 n0 n1 n2 k00 k01 k02 k03 k10 k11 k12 k13 k20 k21 k22 k23 b0 b1 b2 b3 = _ := j1
        rw [h6]; exact j3
    · have e : rCe1_1 true 0 (lc pa pb pc pd pe pf z0 z1 z2 n0 n1 n2 k00 k01 k02 k03 k10 k11 k12 k13 k20 k21 k22 k23 b0 b1 b2 b3) u pa pb pc pd pe pf z0 z1 z2 n0 n1 n2 k00 k01 k02 k03 k10 k11 k12 k13 k20 k21 k22 k23 b0 b1 b2 b3 = rCe1_s9 true 0 (lc pa pb pc pd pe pf z0 z1 z2 n0 n1 n2 k00 k01 k02 k03 k10 k11 k12 k13 k20 k21 k22 k23 b0 b1 b2 b3) u pa pb pc pd pe pf z0 z1 z2 n0 n1 n2 k00 k01 k02 k03 k10 k11 k12 k13 k20 k21 k22 k23 b0 b1 b2 b3 := by
        unfold rCe1_1
        rw [h0]
        cases rCe1_s7 true 0 (lc pa pb pc pd pe pf z0 z1 z2 n0 n1 n2 k00 k01 k02 k03 k10 k11 k12 k13 k20 k21 k22 k23 b0 b1 b2 b3) u pa pb pc pd pe pf z0 z1 z2 n0 n1 n2 k00 k01 k02 k03 k10 k11 k12 k13 k20 k21 k22 k23 b0 b1 b2 b3 <;> rfl
      rw [e]
      unfold rCe1_s9
      rcases j1 with ⟨y', j1, j3⟩ | ⟨v', j1, j3, j4, j5⟩
      · have h6 : rCe1_s6 true 0 (lc pa pb pc pd pe pf z0 z1 z2 n0 n1 n2 k00 k01 k02 k03 k10 k11 k12 k13 k20 k21 k22 k23 b0 b1 b2 b3) u pa pb pc pd pe pf z0 z1 z2 n0 n1 n2 k00 k01 k02 k03 k10 k11 k12 k13 k20 k21 k22 k23 b0 b1 b2 b3 = _ := j1
        rw [h6, if_neg]
        · rfl
        · show ¬ _ < ((lc pa pb pc pd pe pf z0 z1 z2 n0 n1 n2 k00 k01 k02 k03 k10 k11 k12 k13 k20 k21 k22 k23 b0 b1 b2 b3).length : Int)
          omega
      · have h6 : rCe1_s6 true 0 (lc pa pb pc pd pe pf z0 z1 z2 n0 n1 n2 k00 k01 k02 k03 k10 k11 k12 k13 k20 k21 k22 k23 b0 b1 b2 b3) u pa pb pc pd pe pf z0 z1 z2 n0 n1 n2 k00 k01 k02 k03 k10 k11 k12 k13 k20 k21 k22 k23 b0 b1 b2 b3 = _ := j1
        rw [h6]
        show v'.a2 = _
        rw [j4]
        have hL : Int.ofNat (lc pa pb pc pd pe pf z0 z1 z2 n0 n1 n2 k00 k01 k02 k03 k10 k11 k12 k13 k20 k21 k22 k23 b0 b1 b2 b3).length = ((lc pa pb pc pd pe pf z0 z1 z2 n0 n1 n2 k00 k01 k02 k03 k10 k11 k12 k13 k20 k21 k22 k23 b0 b1 b2 b3).length : Int) := rfl
        by_cases h : IntKind.wrap .i64 (Int.tmod u 40) + 1 < Int.ofNat (lc pa pb pc pd pe pf z0 z1 z2 n0 n1 n2 k00 k01 k02 k03 k10 k11 k12 k13 k20 k21 k22 k23 b0 b1 b2 b3).length
        · rw [if_pos h]
        · rw [if_neg h]; omega
theorem u8_40 {x : Int} (a : IntKind.min .u8 ≤ x) (b : x ≤ IntKind.max .u8) : 0 ≤ IntKind.wrap .i64 (Int.tmod x 40) ∧ IntKind.wrap .i64 (Int.tmod x 40) ≤ 39 := by
  have m : IntKind.min .u8 = 0 := by decide
  have M : IntKind.max .u8 = 255 := by decide
  rw [Int.tmod_eq_emod_of_nonneg (by omega), w64_in (by omega) (by omega)]
  omega
end Ra

theorem RasterStops_true (x0_0 : Int) (a0_0 : IntKind.min .i8 ≤ x0_0) (b0_0 : x0_0 ≤ IntKind.max .i8) (x0_1 : Int) (a0_1 : IntKind.min .i8 ≤ x0_1) (b0_1 : x0_1 ≤ IntKind.max .i8) (x0_2 : Int) (a0_2 : IntKind.min .i8 ≤ x0_2) (b0_2 : x0_2 ≤ IntKind.max .i8) (x0_3 : Int) (a0_3 : IntKind.min .i8 ≤ x0_3) (b0_3 : x0_3 ≤ IntKind.max .i8) (x0_4 : Int) (a0_4 : IntKind.min .i8 ≤ x0_4) (b0_4 : x0_4 ≤ IntKind.max .i8) (x0_5 : Int) (a0_5 : IntKind.min .i8 ≤ x0_5) (b0_5 : x0_5 ≤ IntKind.max .i8) (x0_6 : Int) (a0_6 : IntKind.min .u16 ≤ x0_6) (b0_6 : x0_6 ≤ IntKind.max .u16) (x0_7 : Int) (a0_7 : IntKind.min .u16 ≤ x0_7) (b0_7 : x0_7 ≤ IntKind.max .u16) (x0_8 : Int) (a0_8 : IntKind.min .u16 ≤ x0_8) (b0_8 : x0_8 ≤ IntKind.max .u16) (x0_9 : Int) (a0_9 : IntKind.min .u16 ≤ x0_9) (b0_9 : x0_9 ≤ IntKind.max .u16) (x0_10 : Int) (a0_10 : IntKind.min .u16 ≤ x0_10) (b0_10 : x0_10 ≤ IntKind.max .u16) (x0_11 : Int) (a0_11 : IntKind.min .u16 ≤ x0_11) (b0_11 : x0_11 ≤ IntKind.max .u16) (x0_12 : Int) (a0_12 : IntKind.min .u16 ≤ x0_12) (b0_12 : x0_12 ≤ IntKind.max .u16) (x0_13 : Int) (a0_13 : IntKind.min .u16 ≤ x0_13) (b0_13 : x0_13 ≤ IntKind.max .u16) (x0_14 : Int) (a0_14 : IntKind.min .u16 ≤ x0_14) (b0_14 : x0_14 ≤ IntKind.max .u16) (x0_15 : Int) (a0_15 : IntKind.min .u16 ≤ x0_15) (b0_15 : x0_15 ≤ IntKind.max .u16) (x0_16 : Int) (a0_16 : IntKind.min .u16 ≤ x0_16) (b0_16 : x0_16 ≤ IntKind.max .u16) (x0_17 : Int) (a0_17 : IntKind.min .u16 ≤ x0_17) (b0_17 : x0_17 ≤ IntKind.max .u16) (x0_18 : Int) (a0_18 : IntKind.min .u16 ≤ x0_18) (b0_18 : x0_18 ≤ IntKind.max .u16) (x0_19 : Int) (a0_19 : IntKind.min .u16 ≤ x0_19) (b0_19 : x0_19 ≤ IntKind.max .u16) (x0_20 : Int) (a0_20 : IntKind.min .u16 ≤ x0_20) (b0_20 : x0_20 ≤ IntKind.max .u16) (x0_21 : Int) (a0_21 : IntKind.min .u16 ≤ x0_21) (b0_21 : x0_21 ≤ IntKind.max .u16) (x0_22 : Int) (a0_22 : IntKind.min .u16 ≤ x0_22) (b0_22 : x0_22 ≤ IntKind.max .u16) (x0_23 : Int) (a0_23 : IntKind.min .u16 ≤ x0_23) (b0_23 : x0_23 ≤ IntKind.max .u16) (x0_24 : Int) (a0_24 : IntKind.min .u8 ≤ x0_24) (b0_24 : x0_24 ≤ IntKind.max .u8) (x1_0 : Int) (a1_0 : IntKind.min .u8 ≤ x1_0) (b1_0 : x1_0 ≤ IntKind.max .u8) (x1_1 : Int) (a1_1 : IntKind.min .u8 ≤ x1_1) (b1_1 : x1_1 ≤ IntKind.max .u8) (x1_2 : Int) (a1_2 : IntKind.min .u8 ≤ x1_2) (b1_2 : x1_2 ≤ IntKind.max .u8) (x1_3 : Int) (a1_3 : IntKind.min .u8 ≤ x1_3) (b1_3 : x1_3 ≤ IntKind.max .u8) (x2 : Int) (a2 : IntKind.min .u8 ≤ x2) (b2 : x2 ≤ IntKind.max .u8) : lRasSt_0 x0_0 x0_1 x0_2 x0_3 x0_4 x0_5 x0_6 x0_7 x0_8 x0_9 x0_10 x0_11 x0_12 x0_13 x0_14 x0_15 x0_16 x0_17 x0_18 x0_19 x0_20 x0_21 x0_22 x0_23 x0_24 x1_0 x1_1 x1_2 x1_3 x2 = true := by
  have hu := Ra.u8_40 a2 b2
  obtain ⟨h1, h2, -⟩ := Ra.st_all (sm13Tri_0 x0_0 x0_1 x0_2 x0_3 x0_4 x0_5 x0_24) (sm13Tri_1 x0_0 x0_1 x0_2 x0_3 x0_4 x0_5 x0_24) (sm13Tri_2 x0_0 x0_1 x0_2 x0_3 x0_4 x0_5 x0_24) (sm13Tri_3 x0_0 x0_1 x0_2 x0_3 x0_4 x0_5 x0_24) (sm13Tri_4 x0_0 x0_1 x0_2 x0_3 x0_4 x0_5 x0_24) (sm13Tri_5 x0_0 x0_1 x0_2 x0_3 x0_4 x0_5 x0_24) (IntKind.wrap .i64 x0_6) (IntKind.wrap .i64 x0_7) (IntKind.wrap .i64 x0_8) (sm13Tri_6 x0_9) (sm13Tri_7 x0_10) (sm13Tri_8 x0_11) (IntKind.wrap .i64 x0_12) (IntKind.wrap .i64 x0_13) (IntKind.wrap .i64 x0_14) (IntKind.wrap .i64 x0_15) (IntKind.wrap .i64 x0_16) (IntKind.wrap .i64 x0_17) (IntKind.wrap .i64 x0_18) (IntKind.wrap .i64 x0_19) (IntKind.wrap .i64 x0_20) (IntKind.wrap .i64 x0_21) (IntKind.wrap .i64 x0_22) (IntKind.wrap .i64 x0_23) x2 (l18box_0 x1_0) (l18box_1 x1_1) (l18box_2 x1_2) (l18box_3 x1_3) hu
  unfold lRasSt_0
  have es : lRasSt_s1 x2 = IntKind.wrap .i64 (Int.tmod x2 40) + 1 := w64_in (by omega) (by omega)
  rw [Ra.aw, es]
  show (bif rCe1_0 true 0 (lc (sm13Tri_0 x0_0 x0_1 x0_2 x0_3 x0_4 x0_5 x0_24) (sm13Tri_1 x0_0 x0_1 x0_2 x0_3 x0_4 x0_5 x0_24) (sm13Tri_2 x0_0 x0_1 x0_2 x0_3 x0_4 x0_5 x0_24) (sm13Tri_3 x0_0 x0_1 x0_2 x0_3 x0_4 x0_5 x0_24) (sm13Tri_4 x0_0 x0_1 x0_2 x0_3 x0_4 x0_5 x0_24) (sm13Tri_5 x0_0 x0_1 x0_2 x0_3 x0_4 x0_5 x0_24) (IntKind.wrap .i64 x0_6) (IntKind.wrap .i64 x0_7) (IntKind.wrap .i64 x0_8) (sm13Tri_6 x0_9) (sm13Tri_7 x0_10) (sm13Tri_8 x0_11) (IntKind.wrap .i64 x0_12) (IntKind.wrap .i64 x0_13) (IntKind.wrap .i64 x0_14) (IntKind.wrap .i64 x0_15) (IntKind.wrap .i64 x0_16) (IntKind.wrap .i64 x0_17) (IntKind.wrap .i64 x0_18) (IntKind.wrap .i64 x0_19) (IntKind.wrap .i64 x0_20) (IntKind.wrap .i64 x0_21) (IntKind.wrap .i64 x0_22) (IntKind.wrap .i64 x0_23) (l18box_0 x1_0) (l18box_1 x1_1) (l18box_2 x1_2) (l18box_3 x1_3)) x2 (sm13Tri_0 x0_0 x0_1 x0_2 x0_3 x0_4 x0_5 x0_24) (sm13Tri_1 x0_0 x0_1 x0_2 x0_3 x0_4 x0_5 x0_24) (sm13Tri_2 x0_0 x0_1 x0_2 x0_3 x0_4 x0_5 x0_24) (sm13Tri_3 x0_0 x0_1 x0_2 x0_3 x0_4 x0_5 x0_24) (sm13Tri_4 x0_0 x0_1 x0_2 x0_3 x0_4 x0_5 x0_24) (sm13Tri_5 x0_0 x0_1 x0_2 x0_3 x0_4 x0_5 x0_24) (IntKind.wrap .i64 x0_6) (IntKind.wrap .i64 x0_7) (IntKind.wrap .i64 x0_8) (sm13Tri_6 x0_9) (sm13Tri_7 x0_10) (sm13Tri_8 x0_11) (IntKind.wrap .i64 x0_12) (IntKind.wrap .i64 x0_13) (IntKind.wrap .i64 x0_14) (IntKind.wrap .i64 x0_15) (IntKind.wrap .i64 x0_16) (IntKind.wrap .i64 x0_17) (IntKind.wrap .i64 x0_18) (IntKind.wrap .i64 x0_19) (IntKind.wrap .i64 x0_20) (IntKind.wrap .i64 x0_21) (IntKind.wrap .i64 x0_22) (IntKind.wrap .i64 x0_23) (l18box_0 x1_0) (l18box_1 x1_1) (l18box_2 x1_2) (l18box_3 x1_3) then rCe1_1 true 0 (lc (sm13Tri_0 x0_0 x0_1 x0_2 x0_3 x0_4 x0_5 x0_24) (sm13Tri_1 x0_0 x0_1 x0_2 x0_3 x0_4 x0_5 x0_24) (sm13Tri_2 x0_0 x0_1 x0_2 x0_3 x0_4 x0_5 x0_24) (sm13Tri_3 x0_0 x0_1 x0_2 x0_3 x0_4 x0_5 x0_24) (sm13Tri_4 x0_0 x0_1 x0_2 x0_3 x0_4 x0_5 x0_24) (sm13Tri_5 x0_0 x0_1 x0_2 x0_3 x0_4 x0_5 x0_24) (IntKind.wrap .i64 x0_6) (IntKind.wrap .i64 x0_7) (IntKind.wrap .i64 x0_8) (sm13Tri_6 x0_9) (sm13Tri_7 x0_10) (sm13Tri_8 x0_11) (IntKind.wrap .i64 x0_12) (IntKind.wrap .i64 x0_13) (IntKind.wrap .i64 x0_14) (IntKind.wrap .i64 x0_15) (IntKind.wrap .i64 x0_16) (IntKind.wrap .i64 x0_17) (IntKind.wrap .i64 x0_18) (IntKind.wrap .i64 x0_19) (IntKind.wrap .i64 x0_20) (IntKind.wrap .i64 x0_21) (IntKind.wrap .i64 x0_22) (IntKind.wrap .i64 x0_23) (l18box_0 x1_0) (l18box_1 x1_1) (l18box_2 x1_2) (l18box_3 x1_3)) x2 (sm13Tri_0 x0_0 x0_1 x0_2 x0_3 x0_4 x0_5 x0_24) (sm13Tri_1 x0_0 x0_1 x0_2 x0_3 x0_4 x0_5 x0_24) (sm13Tri_2 x0_0 x0_1 x0_2 x0_3 x0_4 x0_5 x0_24) (sm13Tri_3 x0_0 x0_1 x0_2 x0_3 x0_4 x0_5 x0_24) (sm13Tri_4 x0_0 x0_1 x0_2 x0_3 x0_4 x0_5 x0_24) (sm13Tri_5 x0_0 x0_1 x0_2 x0_3 x0_4 x0_5 x0_24) (IntKind.wrap .i64 x0_6) (IntKind.wrap .i64 x0_7) (IntKind.wrap .i64 x0_8) (sm13Tri_6 x0_9) (sm13Tri_7 x0_10) (sm13Tri_8 x0_11) (IntKind.wrap .i64 x0_12) (IntKind.wrap .i64 x0_13) (IntKind.wrap .i64 x0_14) (IntKind.wrap .i64 x0_15) (IntKind.wrap .i64 x0_16) (IntKind.wrap .i64 x0_17) (IntKind.wrap .i64 x0_18) (IntKind.wrap .i64 x0_19) (IntKind.wrap .i64 x0_20) (IntKind.wrap .i64 x0_21) (IntKind.wrap .i64 x0_22) (IntKind.wrap .i64 x0_23) (l18box_0 x1_0) (l18box_1 x1_1) (l18box_2 x1_2) (l18box_3 x1_3) == _ else false) = true
  rw [h1, h2]
  exact beq_self_eq_true _

theorem RasterStops_obs (x0_0 : Int) (a0_0 : IntKind.min .i8 ≤ x0_0) (b0_0 : x0_0 ≤ IntKind.max .i8) (x0_1 : Int) (a0_1 : IntKind.min .i8 ≤ x0_1) (b0_1 : x0_1 ≤ IntKind.max .i8) (x0_2 : Int) (a0_2 : IntKind.min .i8 ≤ x0_2) (b0_2 : x0_2 ≤ IntKind.max .i8) (x0_3 : Int) (a0_3 : IntKind.min .i8 ≤ x0_3) (b0_3 : x0_3 ≤ IntKind.max .i8) (x0_4 : Int) (a0_4 : IntKind.min .i8 ≤ x0_4) (b0_4 : x0_4 ≤ IntKind.max .i8) (x0_5 : Int) (a0_5 : IntKind.min .i8 ≤ x0_5) (b0_5 : x0_5 ≤ IntKind.max .i8) (x0_6 : Int) (a0_6 : IntKind.min .u16 ≤ x0_6) (b0_6 : x0_6 ≤ IntKind.max .u16) (x0_7 : Int) (a0_7 : IntKind.min .u16 ≤ x0_7) (b0_7 : x0_7 ≤ IntKind.max .u16) (x0_8 : Int) (a0_8 : IntKind.min .u16 ≤ x0_8) (b0_8 : x0_8 ≤ IntKind.max .u16) (x0_9 : Int) (a0_9 : IntKind.min .u16 ≤ x0_9) (b0_9 : x0_9 ≤ IntKind.max .u16) (x0_10 : Int) (a0_10 : IntKind.min .u16 ≤ x0_10) (b0_10 : x0_10 ≤ IntKind.max .u16) (x0_11 : Int) (a0_11 : IntKind.min .u16 ≤ x0_11) (b0_11 : x0_11 ≤ IntKind.max .u16) (x0_12 : Int) (a0_12 : IntKind.min .u16 ≤ x0_12) (b0_12 : x0_12 ≤ IntKind.max .u16) (x0_13 : Int) (a0_13 : IntKind.min .u16 ≤ x0_13) (b0_13 : x0_13 ≤ IntKind.max .u16) (x0_14 : Int) (a0_14 : IntKind.min .u16 ≤ x0_14) (b0_14 : x0_14 ≤ IntKind.max .u16) (x0_15 : Int) (a0_15 : IntKind.min .u16 ≤ x0_15) (b0_15 : x0_15 ≤ IntKind.max .u16) (x0_16 : Int) (a0_16 : IntKind.min .u16 ≤ x0_16) (b0_16 : x0_16 ≤ IntKind.max .u16) (x0_17 : Int) (a0_17 : IntKind.min .u16 ≤ x0_17) (b0_17 : x0_17 ≤ IntKind.max .u16) (x0_18 : Int) (a0_18 : IntKind.min .u16 ≤ x0_18) (b0_18 : x0_18 ≤ IntKind.max .u16) (x0_19 : Int) (a0_19 : IntKind.min .u16 ≤ x0_19) (b0_19 : x0_19 ≤ IntKind.max .u16) (x0_20 : Int) (a0_20 : IntKind.min .u16 ≤ x0_20) (b0_20 : x0_20 ≤ IntKind.max .u16) (x0_21 : Int) (a0_21 : IntKind.min .u16 ≤ x0_21) (b0_21 : x0_21 ≤ IntKind.max .u16) (x0_22 : Int) (a0_22 : IntKind.min .u16 ≤ x0_22) (b0_22 : x0_22 ≤ IntKind.max .u16) (x0_23 : Int) (a0_23 : IntKind.min .u16 ≤ x0_23) (b0_23 : x0_23 ≤ IntKind.max .u16) (x0_24 : Int) (a0_24 : IntKind.min .u8 ≤ x0_24) (b0_24 : x0_24 ≤ IntKind.max .u8) (x1_0 : Int) (a1_0 : IntKind.min .u8 ≤ x1_0) (b1_0 : x1_0 ≤ IntKind.max .u8) (x1_1 : Int) (a1_1 : IntKind.min .u8 ≤ x1_1) (b1_1 : x1_1 ≤ IntKind.max .u8) (x1_2 : Int) (a1_2 : IntKind.min .u8 ≤ x1_2) (b1_2 : x1_2 ≤ IntKind.max .u8) (x1_3 : Int) (a1_3 : IntKind.min .u8 ≤ x1_3) (b1_3 : x1_3 ≤ IntKind.max .u8) (x2 : Int) (a2 : IntKind.min .u8 ≤ x2) (b2 : x2 ≤ IntKind.max .u8) : Alls (lRasSt_o x0_0 x0_1 x0_2 x0_3 x0_4 x0_5 x0_6 x0_7 x0_8 x0_9 x0_10 x0_11 x0_12 x0_13 x0_14 x0_15 x0_16 x0_17 x0_18 x0_19 x0_20 x0_21 x0_22 x0_23 x0_24 x1_0 x1_1 x1_2 x1_3 x2) := by
  have hu := Ra.u8_40 a2 b2
  exact ⟨fun _ => (Ra.st_all (sm13Tri_0 x0_0 x0_1 x0_2 x0_3 x0_4 x0_5 x0_24) (sm13Tri_1 x0_0 x0_1 x0_2 x0_3 x0_4 x0_5 x0_24) (sm13Tri_2 x0_0 x0_1 x0_2 x0_3 x0_4 x0_5 x0_24) (sm13Tri_3 x0_0 x0_1 x0_2 x0_3 x0_4 x0_5 x0_24) (sm13Tri_4 x0_0 x0_1 x0_2 x0_3 x0_4 x0_5 x0_24) (sm13Tri_5 x0_0 x0_1 x0_2 x0_3 x0_4 x0_5 x0_24) (IntKind.wrap .i64 x0_6) (IntKind.wrap .i64 x0_7) (IntKind.wrap .i64 x0_8) (sm13Tri_6 x0_9) (sm13Tri_7 x0_10) (sm13Tri_8 x0_11) (IntKind.wrap .i64 x0_12) (IntKind.wrap .i64 x0_13) (IntKind.wrap .i64 x0_14) (IntKind.wrap .i64 x0_15) (IntKind.wrap .i64 x0_16) (IntKind.wrap .i64 x0_17) (IntKind.wrap .i64 x0_18) (IntKind.wrap .i64 x0_19) (IntKind.wrap .i64 x0_20) (IntKind.wrap .i64 x0_21) (IntKind.wrap .i64 x0_22) (IntKind.wrap .i64 x0_23) x2 (l18box_0 x1_0) (l18box_1 x1_1) (l18box_2 x1_2) (l18box_3 x1_3) hu).2.2, trivial⟩

end Go.Proofs.Ytcdejlgophpdjaa
end

