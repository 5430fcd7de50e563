/-
  All pixels of a triangle in a list: the loop over the function.
-/
import Derived.RangeFuncLeaves
import Derived.Test.YtcdejlgophpdjaaQRasterCells8
section
namespace Go.Proofs.Ytcdejlgophpdjaa
open Go Go.RowKit Go.Proofs.Ytcdejlgophpdjaa.V
set_option linter.unusedVariables false
set_option linter.unusedSectionVars false

namespace Ra
theorem body45 : Try.f45.body = some cL := by kernel_rfl
theorem body108 : Try.f108.body = some cC := by kernel_rfl
theorem nt45 : Try.f45.ntmps = 16 := by kernel_rfl
theorem nt108 : Try.f108.ntmps = 63 := by kernel_rfl
theorem res45 : Try.f45.results = #[.tmp 4] := by kernel_rfl
theorem res108 : Try.f108.results = #[] := by kernel_rfl
theorem call108 (args : Array Value) (w : World) : (callFunc 108 args).run Try.prog w = .ok (.enter 108 args) w := calm_run _ (f108_en args) w

theorem app3 (x y z : Value) (tl : Array Value) : (#[x, y, z] ++ tl).getD 0 undef = x ∧ (#[x, y, z] ++ tl).getD 1 undef = y ∧ (#[x, y, z] ++ tl).getD 2 undef = z := by
  refine ⟨?_, ?_, ?_⟩ <;> (rw [Array.getD_eq_getD_getElem?, Array.getElem?_append_left (by simp)]; rfl)

/-- The world ahead of the loop, with the loop's record and the block for deferred calls. -/
def wIn (w : World) (rec : Loop) : World := (w.alloc (.deferred (some []))).alloc (.loop rec)
theorem wIn_size (w : World) (rec : Loop) : (wIn w rec).heap.size = w.heap.size + 2 := by unfold wIn; rw [World.size_alloc, World.size_alloc]
theorem wIn_l (w : World) (rec : Loop) : (wIn w rec).heap[w.heap.size + 1]? = some (.loop rec) := by
  have := World.alloc_heap_new (w.alloc (.deferred (some []))) (.loop rec); rwa [World.size_alloc] at this
theorem wIn_d (w : World) (rec : Loop) : (wIn w rec).heap[w.heap.size]? = some (.deferred (some [])) := by
  exact (Below.heap_alloc _ _ _ (by simp)).trans (World.alloc_heap_new w _)
theorem wIn_old (w : World) (rec : Loop) {k : Nat} (h : k < w.heap.size) : (wIn w rec).heap[k]? = w.heap[k]? := by
  unfold wIn
  rw [Below.heap_alloc _ _ _ (by rw [World.size_alloc]; omega), Below.heap_alloc _ _ _ h]
theorem wIn_frz (w : World) (rec : Loop) (p : Addr) : (wIn w rec).frozen? p = w.frozen? p := by
  unfold wIn
  rw [frozen_allocO rfl, frozen_allocO rfl]

theorem two_size {φ : Phi} {x y : Nat × Nat} {cs : Array Value} (h : All2 (prel φ) [x, y] cs.toList) : ∃ v1 v2, cs = #[v1, v2] ∧ prel φ x v1 ∧ prel φ y v2 := by
  obtain ⟨l⟩ := cs
  cases h with
  | cons h1 h2 => cases h2 with
    | cons h3 h4 => cases h4; exact ⟨_, _, rfl, h1, h3⟩

set_option maxRecDepth 100000 in
theorem loop_wp (t : Nat → Int) (a b c d : Int) {w w3 : World} {may : Nat → Prop} {ψ : Phi} {a3 : Act} (s3 : SR 16 lvL w may ψ (S2 t a b c d) (M2 t a b c d) (H2 t a b c d) 112 a3 w3) {Q : Exit → Act → World → Prop}
    (hQ : ∀ (rec : Loop) (w4 : World) (χ : Phi) (e0 e1 e2 e3 : Int), MR ((wIn w3 rec).putObj (w3.heap.size + 1) (.loop { rec with state := .exhausted })) (fun e => (may e ∨ w.heap.size ≤ e) ∧ e < w3.heap.size) χ (memOf (bsF t (cells t a b c d) e0 e1 e2 e3)) (hdsB (bsF t (cells t a b c d) e0 e1 e2 e3)) (fun e => 4 ≤ e) w4 →
      TRel χ (V.look [(5, .a (.ptr 2 0))]) a3.tmps → Q .normal { a3 with defers := { target := .collected w3.heap.size, args := #[] } :: a3.defers } w4) :
    (Code.rangeFunc (.tmp 9) #[10] (rfA RF) (rfB RF)).wp Try.prog Q a3 w3 := by
  refine (wpIn_wide (n := 1)).1 (wpIn_rangeFunc ?_)
  intro fn _
  obtain ⟨cs, h9, hcs⟩ := fn_inv (s3.tr 9 _ (s2_9 t a b c d))
  obtain ⟨v1, v2, rfl, hv1, hv2⟩ := two_size hcs
  obtain ⟨⟨-, -⟩, i48, hi48, -, hp48⟩ := (show prel ψ (48, 0) (a3.tmps.getD 5 undef) from s3.tr 5 _ (s2_5 t a b c d))
  obtain ⟨j48, hj48, hv48, hro48, -⟩ := s3.mr.hdr 48 _ (h2_48 t a b c d)
  rw [hi48] at hj48
  obtain rfl := Option.some.inj hj48
  obtain ⟨r, o, hir, h5⟩ := hp48 hv48.symm
  obtain ⟨-, rfl, -⟩ := s3.mr.own 48 _ r o hi48 hir hro48
  obtain ⟨rec, hrec⟩ : ∃ rec : Loop, rec = { state := .ready, pending := none, fn, tmps := a3.tmps, params := #[10], assign := rfA RF, body := rfB RF, defers := w3.heap.size } := ⟨_, rfl⟩
  have eg : a3.eval (.tmp 9) = .func (.func 108) #[] #[v1, v2] := h9
  refine ⟨w3.heap.size + 1, [{ target := .collected w3.heap.size, args := #[] }], wIn w3 rec, { target := .fn (.func 108) #[v1, v2], args := #[.func (.yield (w3.heap.size + 1)) #[] #[]] }, wIn w3 rec, 108,
    #[.func (.yield (w3.heap.size + 1)) #[] #[], v1, v2], wIn w3 rec, ?_, ?_, fun _ _ => trivial, ?_, fun h => by simp [Fence.wide] at h, ?_⟩
  · subst hrec; exact run_enterLoop_outer _ _ _ _ _
  · simp only [resolve, eg]
    simp [go_sem]
  · have := call108 #[.func (.yield (w3.heap.size + 1)) #[] #[], v1, v2] (wIn w3 rec)
    simp [invoke, go_sem, this]
  refine callsIn_wide.2 (calls_of_wp Try.func108 body108 ?_)
  have hmr := ren_mr s3.mr (blks t a b c d) rfl
  have hm := ren_moves (out := []) s3.mr (foot := [96, 97, 48])
  have h96 : prel (phiC ψ [96, 97, 48] []) (0, 0) v1 := prel_move hv1 (hm _ _ _ (ren96 t a b c d))
  have h97 : prel (phiC ψ [96, 97, 48] []) (1, 0) v2 := prel_move hv2 (hm _ _ _ (ren97 t a b c d))
  have n3 : phiC ψ [96, 97, 48] [] 3 = none := hmr.dom 3 (Nat.le_refl 3)
  have hle : (phiC ψ [96, 97, 48] []).le (phi3 (phiC ψ [96, 97, 48] [])) := fun e i hi => ⟨i, by
    unfold phi3
    by_cases h : e = 3
    · subst h; rw [n3] at hi; cases hi
    · rw [if_neg h]; exact hi, .inl rfl⟩
  have hp2 : phi3 (phiC ψ [96, 97, 48] []) 2 = some ⟨i48.ty, i48.a, i48.z, i48.n, 0, i48.ro⟩ := by
    show phiC ψ [96, 97, 48] [] 2 = _
    exact phiC_nil_mk (foot := [96, 97, 48]) (i := 2) (b := 48) rfl hi48
  have hM1 := start_mr t a b c d hmr (o1 := .deferred (some [])) (o2 := .loop rec) rfl rfl
  have hl : w3.heap.size + 1 < (wIn w3 rec).heap.size := by rw [wIn_size]; omega
  have hnl : ¬ ((may (w3.heap.size + 1) ∨ w.heap.size ≤ w3.heap.size + 1) ∧ w3.heap.size + 1 < w3.heap.size) := fun h => by omega
  have hra : RecAt (wIn w3 rec) (w3.heap.size + 1) r rec := ⟨wIn_l w3 rec, by rw [hrec], by rw [hrec], by rw [hrec], by rw [hrec], by rw [hrec], by rw [hrec]; exact s3.sz, by rw [hrec]; exact h5⟩
  have hr : HR 63 lvC (wIn w3 rec) (fun e => (may e ∨ w.heap.size ≤ e) ∧ e < w3.heap.size) (phi3 (phiC ψ [96, 97, 48] [])) (hd (.func (.yield (w3.heap.size + 1)) #[] #[]) t a b c d [] [])
      { tmps := #[.func (.yield (w3.heap.size + 1)) #[] #[], v1, v2] ++ Array.replicate (Try.f108.ntmps - (#[Value.func (.yield (w3.heap.size + 1)) #[] #[], v1, v2]).size) undef, defers := [] } (wIn w3 rec) := by
    refine ⟨⟨?_, by rw [nt108]; simp, rfl, hM1⟩, ?_⟩
    · intro e lv h
      unfold filt at h
      split at h
      · match e, h with
        | 0, h =>
          obtain rfl : lv = .a (.val (.func (.yield (w3.heap.size + 1)) #[] #[])) := (Option.some.inj h).symm
          rw [(app3 _ _ _ _).1]
          exact ⟨⟨rfl, rfl⟩, rfl⟩
        | 1, h =>
          obtain rfl : lv = .a (.ptr 0 0) := (Option.some.inj h).symm
          rw [(app3 _ _ _ _).2.1]
          exact vrel.mono hle h96
        | 2, h =>
          obtain rfl : lv = .a (.ptr 1 0) := (Option.some.inj h).symm
          rw [(app3 _ _ _ _).2.2]
          exact vrel.mono hle h97
        | n + 3, h => cases h
      · cases h
    · intro e j hj
      unfold phi3 at hj
      split at hj
      · rename_i h3
        subst h3
        obtain rfl := Option.some.inj hj
        exact ⟨by rw [hd_len]; omega, rfl⟩
      · obtain ⟨b', j1, k1, -, rfl⟩ := phiC_nil_get hj
        have := (List.getElem?_eq_some_iff.1 k1).1
        have h3 : e < 3 := this
        exact ⟨by rw [hd_len]; omega, rfl⟩
  have fin : ∀ (a' : Act) (w' : World) (χ : Phi) (e0 e1 e2 e3 : Int) (m : List (Nat × LV)), Kp [3] (phi3 (phiC ψ [96, 97, 48] [])) χ → HR 63 lvC (wIn w3 rec) (fun e => (may e ∨ w.heap.size ≤ e) ∧ e < w3.heap.size) χ (hd (.func (.yield (w3.heap.size + 1)) #[] #[]) t e0 e1 e2 e3 (cells t a b c d) m) a' w' →
      a'.defers = [] ∧ ∃ v, (results Try.f108 a'.tmps).run Try.prog w' = .ok v w' ∧ rangePost Fence.wide 1 Try.prog (w3.heap.size + 1) Q { a3 with defers := [{ target := .collected w3.heap.size, args := #[] }] ++ a3.defers } (.returned v) w' := by
    intro a' w' χ e0 e1 e2 e3 m hk hr'
    refine ⟨hr'.sr.df, .tuple #[], by simp [results], ?_⟩
    have hM' := hr'.sr.mr
    have hw' := (hM'.block _ hl hnl).trans (wIn_l w3 rec)
    have hend := run_endLoop (P := Try.prog) hw' (by rw [hrec]; simp)
    have hpe : rec.pending = none := by rw [hrec]
    refine ⟨none, w'.putObj (w3.heap.size + 1) (.loop { rec with state := .exhausted }), by rw [hend, hpe], ?_⟩
    have hput := hM'.putO hw' rfl (wIn_l w3 rec) rfl (o' := .loop { rec with state := .exhausted }) rfl
    refine hQ rec _ χ e0 e1 e2 e3 (hput : _) ?_
    intro e lv h
    by_cases he : e = 5
    · subst he
      obtain rfl : lv = .a (.ptr 2 0) := (Option.some.inj h).symm
      rw [h5]
      obtain ⟨j, q1, -, q3⟩ := hk 2 _ hp2
      rw [q3 rfl] at q1
      exact ⟨⟨rfl, rfl⟩, _, q1, Nat.le_refl _, fun _ => ⟨r, 0, hir, rfl⟩⟩
    · exfalso
      unfold V.look at h
      rw [show Nat.beq e 5 = false from by cases q : Nat.beq e 5; rfl; exact absurd (Nat.eq_of_beq_eq_true q) he] at h
      cases h
  refine cells_wp hl hnl hra t a b c d hr ⟨_, hp2, hir⟩ fun a' w' χ e0 e1 e2 e3 m hk hr' => ⟨fin a' w' χ e0 e1 e2 e3 m hk hr', fin a' w' χ e0 e1 e2 e3 m hk hr'⟩
end Ra

end Go.Proofs.Ytcdejlgophpdjaa
end

section
namespace Go.Proofs.Ytcdejlgophpdjaa
open Go Go.RowKit Go.Proofs.Ytcdejlgophpdjaa.V
set_option linter.unusedVariables false
set_option linter.unusedSectionVars false

namespace Ra

theorem y0_eq (t : Nat → Int) (a b c d : Int) : ev Try.prog tabRa6 16 lvL [] 2000 false L0 1 (V.look [(0, trG t), (1, bxG a b c d)]) (fun _ => none) (fun _ => none) 0 = some ([], [⟨.n, false, true, evD (Y0 t a b c d), 48⟩]) := by
  have h := oneN_spec (y0_one t a b c d)
  rw [y0_obs, y0_n] at h
  exact h
theorem y1_eq (t : Nat → Int) (a b c d : Int) : ev Try.prog tabRa6 16 lvL [] 2000 false L1 1 (S0 t a b c d) (M0 t a b c d) (H0 t a b c d) 48 = some ([], [⟨.n, false, true, evD (Y1 t a b c d), 64⟩]) := by
  have h := oneN_spec (y1_one t a b c d)
  rw [y1_obs, y1_n] at h
  exact h
theorem y2_eq (t : Nat → Int) (a b c d : Int) : ev Try.prog tabRa6 16 lvL [] 2000 false L2 1 (S1 t a b c d) (M1 t a b c d) (H1 t a b c d) 64 = some ([], [⟨.n, false, true, evD (Y2 t a b c d), 112⟩]) := by
  have h := oneN_spec (y2_one t a b c d)
  rw [y2_obs, y2_n] at h
  exact h

/-- A list's block, as it is left. -/
def outL (l : List (List Int)) : List (Option BC) := [some (rB l)]

/-- Behind all: what is handed back. -/
theorem end_mr {w w8 : World} {may : Nat → Prop} {χ : Phi} {l : List (List Int)} {i : Inf} (hφ : χ 3 = some i) (hh : HdOK (w8.heap[·]?) i ⟨0, 0, false, some ⟨0, sh7, l, none⟩⟩)
    (how : ∀ r o, i.a = some (r, o) → i.ro = false → (may r ∨ w.heap.size ≤ r) ∧ o = 0 ∧ ∃ arr, w8.heap[r]? = some (.cells arr i.ty (0, 0)) ∧ arr.size = i.z)
    (hos : w8.os = w.os) (htape : w8.tape = w.tape) (hout : w8.output = w.output) (hsize : w.heap.size ≤ w8.heap.size) (hblk : ∀ k, k < w.heap.size → ¬ may k → w8.heap[k]? = w.heap[k]?) (hfrz : ∀ p, w8.frozen? p = w.frozen? p) :
    MR w may (fun e => if e = 0 then some i else none) (memAft [] (outL l)) (hdsAft [] (outL l)) (fun b => (outL l).length ≤ b) w8 := by
  have inv : ∀ {e : Nat} {j : Inf}, (fun e => if e = 0 then some i else none : Phi) e = some j → e = 0 ∧ j = i := fun {e j} h => by
    by_cases h0 : e = 0
    · subst h0
      have : some i = some j := h
      exact ⟨rfl, (Option.some.inj this).symm⟩
    · simp only [if_neg h0] at h
      cases h
  have nomem : ∀ k, memAft [] (outL l) k = none := fun k => by
    unfold memAft aft outL
    by_cases h0 : k / 65536 = 0
    · rw [h0]; rfl
    · obtain ⟨m, hm⟩ : ∃ m, k / 65536 = m + 1 := ⟨k / 65536 - 1, by omega⟩
      rw [hm]
      cases m <;> rfl
  have hro : i.ro = false := hh.2.1
  constructor
  · intro k x hx; rw [nomem] at hx; cases hx
  · intro e g hg
    unfold hdsAft aft outL at hg
    by_cases h0 : e = 0
    · subst h0
      have hg' : g = ⟨0, 0, false, some ⟨0, sh7, l, none⟩⟩ := by
        have : some (⟨0, 0, false, some ⟨0, sh7, l, none⟩⟩ : Hd) = some g := hg
        exact (Option.some.inj this).symm
      subst hg'
      exact ⟨i, by simp, hh⟩
    · obtain ⟨m, hm⟩ : ∃ m, e = m + 1 := ⟨e - 1, by omega⟩
      rw [hm] at hg
      cases m <;> cases hg
  · intro k x g hx; rw [nomem] at hx; cases hx
  · intro e e' j j' r o o' he he' _ _
    exact .inl ((inv he).1.trans (inv he').1.symm)
  · intro e j r o he hj hjr
    obtain ⟨_, rfl⟩ := inv he
    exact how r o hj hjr
  · intro e j r o he hj hjr
    obtain ⟨_, rfl⟩ := inv he
    rw [hro] at hjr; cases hjr
  · intro e he
    have : 1 ≤ e := he
    show (if e = 0 then some i else none) = none
    rw [if_neg (by omega)]
  · intro e j r o he hj
    obtain ⟨_, rfl⟩ := inv he
    obtain ⟨_, _, arr, h, _⟩ := how r o hj hro
    exact (Array.getElem?_eq_some_iff.1 h).1
  · exact hos
  · exact htape
  · exact hout
  · exact hsize
  · exact hblk
  · exact hfrz

set_option maxRecDepth 100000 in
/-- Behind the loop: the list is loaded and handed back. -/
theorem back_ok (t : Nat → Int) (a b c d : Int) {w w3 : World} {may : Nat → Prop} {φ ψ : Phi} {a3 : Act} (s3 : SR 16 lvL w may ψ (S2 t a b c d) (M2 t a b c d) (H2 t a b c d) 112 a3 w3) (hφ : ∀ e, φ e = none) {rec : Loop} {w4 : World} {χ : Phi} {e0 e1 e2 e3 : Int}
    (h4 : MR ((wIn w3 rec).putObj (w3.heap.size + 1) (.loop { rec with state := .exhausted })) (fun e => (may e ∨ w.heap.size ≤ e) ∧ e < w3.heap.size) χ (memOf (bsF t (cells t a b c d) e0 e1 e2 e3)) (hdsB (bsF t (cells t a b c d) e0 e1 e2 e3)) (fun e => 4 ≤ e) w4)
    (ht : TRel χ (V.look [(5, .a (.ptr 2 0))]) a3.tmps) {R : Ending → World → Prop} (hR : (fun (e : Ending) (w' : World) => ∃ v' φ', e = .returned v' ∧ φ.le φ' ∧ (LV.a (.vec 0 0 7)).rel φ' v' ∧ MR w may φ' (memAft [] (outL (cells t a b c d))) (hdsAft [] (outL (cells t a b c d))) (fun e => (outL (cells t a b c d)).length ≤ e) w') = R) :
    (Code.seq (.region (idOf L5) (opsOf L5) false) .ret).wp Try.prog (bodyPostM Fence.wide 1 Try.prog Try.f45 R) { a3 with defers := { target := .collected w3.heap.size, args := #[] } :: a3.defers } w4 := by
  refine wp_seq ((wpIn_wide (n := 1)).1 (wpIn_region_list ?_))
  show wpListIn (roF none) 1 Try.prog (opsOf L5) _ (opsOf L5).toList _ w4
  refine runOps_wp0 tabRa6_ok (opsOf L5).toList 4 _ _ _ (x7_eq t (cells t a b c d) e0 e1 e2 e3) trivial χ _ w4 ht s3.sz h4 fun χ2 a5 w5 q1 q2 q3 q4 q5 => ?_
  show Code.ret.wp Try.prog (bodyPostM Fence.wide 1 Try.prog Try.f45 R) a5 w5
  refine wp_ret ?_
  have hd : w3.heap.size < ((wIn w3 rec).putObj (w3.heap.size + 1) (.loop { rec with state := .exhausted })).heap.size := by rw [World.putObj_size, wIn_size]; omega
  have hd0 : ((wIn w3 rec).putObj (w3.heap.size + 1) (.loop { rec with state := .exhausted })).heap[w3.heap.size]? = some (.deferred (some [])) := (World.putObj_heap_other (by omega)).trans (wIn_d w3 rec)
  have hd5 : w5.heap[w3.heap.size]? = some (.deferred (some [])) := (q5.block _ hd (fun h => by omega)).trans hd0
  have q6 := q5.putO hd5 rfl hd0 rfl (o' := .deferred none) rfl
  have hdef : a5.defers = [{ target := .collected w3.heap.size, args := #[] }] := by rw [q4, s3.df]
  show LeavesInM Fence.wide 1 Try.prog Try.f45 a5.tmps R a5.defers .returning w5
  rw [hdef]
  refine ⟨by simp, .inl ⟨w3.heap.size, _, rfl, run_takeDeferred hd5, ?_⟩⟩
  refine ⟨_, results_tmp res45 _ _ _, ?_⟩
  subst hR
  obtain ⟨i, hi, hh⟩ := q6.hdr 3 _ (x7_h t (cells t a b c d) e0 e1 e2 e3)
  obtain ⟨k1, i', hi', k2, k3⟩ := (show vrel χ2 3 0 (a5.tmps.getD 4 undef) (vecR 7 (a5.tmps.getD 4 undef)) from q2 4 _ (x7_4 t (cells t a b c d) e0 e1 e2 e3))
  rw [hi] at hi'
  obtain rfl := Option.some.inj hi'
  refine ⟨_, fun e => if e = 0 then some i else none, rfl, (fun e j hj => by rw [hφ e] at hj; cases hj), ⟨k1, i, by simp, k2, k3⟩, ?_⟩
  have old : ∀ {k : Nat}, k < w3.heap.size → (((wIn w3 rec).putObj (w3.heap.size + 1) (.loop { rec with state := .exhausted })).putObj w3.heap.size (.deferred none)).heap[k]? = w3.heap[k]? := fun {k} h => by
    rw [World.putObj_heap_other (by omega), World.putObj_heap_other (by omega), wIn_old w3 rec h]
  have hsz : (((wIn w3 rec).putObj (w3.heap.size + 1) (.loop { rec with state := .exhausted })).putObj w3.heap.size (.deferred none)).heap.size = w3.heap.size + 2 := by rw [World.putObj_size, World.putObj_size, wIn_size]
  have hs := q6.size
  rw [hsz] at hs
  refine end_mr (w := w) (may := may) hi hh ?_ ?_ ?_ ?_ ?_ ?_ ?_
  · intro r o ha hro
    obtain ⟨f1, f2⟩ := q6.own 3 i r o hi ha hro
    refine ⟨?_, f2⟩
    rcases f1 with f1 | f1
    · exact f1.1
    · rw [hsz] at f1
      have := s3.mr.size
      exact .inr (by omega)
  · rw [q6.os]; exact s3.mr.os
  · rw [q6.tape]; exact s3.mr.tape
  · rw [q6.output]; exact s3.mr.output
  · have := s3.mr.size; omega
  · intro k hk hm
    have h3 : k < w3.heap.size := Nat.lt_of_lt_of_le hk s3.mr.size
    rw [q6.block k (by rw [hsz]; omega) (fun h => h.1.elim hm (fun h => by omega)), old h3]
    exact s3.mr.block k hk hm
  · intro p
    rw [q6.frz, frozen_putO hd0 rfl rfl, frozen_putO (wIn_l w3 rec) rfl rfl, wIn_frz]
    exact s3.mr.frz p

set_option maxRecDepth 100000 in
theorem list_calls (t : Nat → Int) (a b c d : Int) (φ : Phi) (vs : Array Value) (w : World) (may : Nat → Prop) (ha : All2 (LV.rel φ) [trG t, bxG a b c d] vs.toList) (hM : MR w may φ (memOf []) (hdsIn [] (outL (cells t a b c d))) (fun e => ([] : List BC).length ≤ e) w) :
    Calls Try.prog 45 vs w fun e w' => ∃ v' φ', e = .returned v' ∧ φ.le φ' ∧ (LV.a (.vec 0 0 7)).rel φ' v' ∧ MR w may φ' (memAft [] (outL (cells t a b c d))) (hdsAft [] (outL (cells t a b c d))) (fun e => (outL (cells t a b c d)).length ≤ e) w' := by
  have hvs : vs.size = 2 := by
    have := ha.length
    simpa using this.symm
  refine (callsIn_wide (n := 1)).1 (callsIn_of_wp_marks Try.func45 body45 trivial ?_ rfl)
  refine wpIn_wide.2 ?_
  rw [cl_eq]
  have hM0 : MR w may φ (fun _ => none) (fun _ => none) (fun e => 0 ≤ e) w := hM.less (fun k x h => by cases h) (fun e g h => by cases h)
  have s0 : SR 16 lvL w may φ (V.look [(0, trG t), (1, bxG a b c d)]) (fun _ => none) (fun _ => none) 0 { tmps := vs ++ Array.replicate (Try.f45.ntmps - vs.size) undef, defers := [] } w := by
    refine ⟨?_, by rw [nt45, hvs]; simp [hvs], rfl, hM0⟩
    intro e lv h
    unfold filt at h
    split at h
    · obtain ⟨_, h2⟩ := args0_look [trG t, bxG a b c d] 0 e lv h
      simp only [Nat.sub_zero] at h2
      obtain ⟨x, hx, hr⟩ := ha.get h2
      have hx' : vs[e]? = some x := by simpa using hx
      have hlt : e < vs.size := (Array.getElem?_eq_some_iff.1 hx').1
      rw [Array.getD_eq_getD_getElem?, Array.getElem?_append_left hlt, hx']
      exact hr
    · cases h
  refine wp_seq ?_
  have k0 := ev_wp tabRa6_ok follows 2000 false L0 1 _ _ _ _ (y0_eq t a b c d) (LOK_nil _ _) trivial w may φ _ w s0 (Exit.then ((Code.seq L1 (.seq (.seq L2 (.block 0 (.rangeFunc (.tmp 9) #[10] (rfA RF) (rfB RF)))) (.seq (.region (idOf L5) (opsOf L5) false) .ret))).wp Try.prog (bodyPostM Fence.wide 1 Try.prog Try.f45 fun e w' => ∃ v' φ', e = .returned v' ∧ φ.le φ' ∧ (LV.a (.vec 0 0 7)).rel φ' v' ∧ MR w may φ' (memAft [] (outL (cells t a b c d))) (hdsAft [] (outL (cells t a b c d))) (fun e => (outL (cells t a b c d)).length ≤ e) w')) (bodyPostM Fence.wide 1 Try.prog Try.f45 fun e w' => ∃ v' φ', e = .returned v' ∧ φ.le φ' ∧ (LV.a (.vec 0 0 7)).rel φ' v' ∧ MR w may φ' (memAft [] (outL (cells t a b c d))) (hdsAft [] (outL (cells t a b c d))) (fun e => (outL (cells t a b c d)).length ≤ e) w')) fun e a1 w1 hg => by
    obtain ⟨⟨α, hα, hx, -, ψ, hle, s1⟩, -⟩ := hg
    rw [List.mem_singleton] at hα
    subst hα
    subst hx
    generalize hR : (fun (e : Ending) (w' : World) => ∃ v' φ', e = .returned v' ∧ φ.le φ' ∧ (LV.a (.vec 0 0 7)).rel φ' v' ∧ MR w may φ' (memAft [] (outL (cells t a b c d))) (hdsAft [] (outL (cells t a b c d))) (fun e => (outL (cells t a b c d)).length ≤ e) w') = R
    show (Code.seq L1 _).wp Try.prog (bodyPostM Fence.wide 1 Try.prog Try.f45 R) a1 w1
    refine wp_seq ?_
    have k1 := ev_wp tabRa6_ok follows 2000 false L1 1 _ _ _ _ (y1_eq t a b c d) (LOK_nil _ _) trivial w may ψ a1 w1 s1 (Exit.then ((Code.seq (.seq L2 (.block 0 (.rangeFunc (.tmp 9) #[10] (rfA RF) (rfB RF)))) (.seq (.region (idOf L5) (opsOf L5) false) .ret)).wp Try.prog (bodyPostM Fence.wide 1 Try.prog Try.f45 R)) (bodyPostM Fence.wide 1 Try.prog Try.f45 R)) fun e a2 w2 hg => by
      obtain ⟨⟨α, hα, hx, -, ψ2, hle2, s2⟩, -⟩ := hg
      rw [List.mem_singleton] at hα
      subst hα
      subst hx
      show (Code.seq (.seq L2 _) _).wp Try.prog (bodyPostM Fence.wide 1 Try.prog Try.f45 R) a2 w2
      refine wp_seq (wp_seq ?_)
      have k2 := ev_wp tabRa6_ok follows 2000 false L2 1 _ _ _ _ (y2_eq t a b c d) (LOK_nil _ _) trivial w may ψ2 a2 w2 s2 (Exit.then ((Code.block 0 (.rangeFunc (.tmp 9) #[10] (rfA RF) (rfB RF))).wp Try.prog (Exit.then ((Code.seq (.region (idOf L5) (opsOf L5) false) .ret).wp Try.prog (bodyPostM Fence.wide 1 Try.prog Try.f45 R)) (bodyPostM Fence.wide 1 Try.prog Try.f45 R))) (Exit.then ((Code.seq (.region (idOf L5) (opsOf L5) false) .ret).wp Try.prog (bodyPostM Fence.wide 1 Try.prog Try.f45 R)) (bodyPostM Fence.wide 1 Try.prog Try.f45 R))) fun e a3 w3 hg => by
        obtain ⟨⟨α, hα, hx, -, ψ3, hle3, s3⟩, -⟩ := hg
        rw [List.mem_singleton] at hα
        subst hα
        subst hx
        show (Code.block 0 (.rangeFunc (.tmp 9) #[10] (rfA RF) (rfB RF))).wp Try.prog _ a3 w3
        refine wp_block (loop_wp t a b c d s3 fun rec w4 χ e0 e1 e2 e3 h4 ht => ?_)
        have b4 := back_ok t a b c d s3 (fun e => hM0.dom e (Nat.zero_le e)) h4 ht hR
        simpa [Exit.inBlock, Exit.then] using b4
      simpa using k2
    simpa using k1
  simpa using k0
end Ra

end Go.Proofs.Ytcdejlgophpdjaa
end

section
namespace Go.Proofs.Ytcdejlgophpdjaa
open Go Go.RowKit Go.Proofs.Ytcdejlgophpdjaa.V
set_option linter.unusedVariables false

/-- A triangle by its numbers. -/
def tg (x0 x1 x2 x3 x4 x5 x6 x7 x8 x9 x10 x11 x12 x13 x14 x15 x16 x17 x18 x19 x20 x21 x22 x23 : Int) : Nat → Int := fun n => [x0, x1, x2, x3, x4, x5, x6, x7, x8, x9, x10, x11, x12, x13, x14, x15, x16, x17, x18, x19, x20, x21, x22, x23].getD n 0
/-- Its pixels in a box. -/
def lc (x0 x1 x2 x3 x4 x5 x6 x7 x8 x9 x10 x11 x12 x13 x14 x15 x16 x17 x18 x19 x20 x21 x22 x23 : Int) (b0 b1 b2 b3 : Int) : List (List Int) := Ra.cells (tg x0 x1 x2 x3 x4 x5 x6 x7 x8 x9 x10 x11 x12 x13 x14 x15 x16 x17 x18 x19 x20 x21 x22 x23) b0 b1 b2 b3
def listC : Con
  | [.g [.int true .i64 x0, .int true .i64 x1, .int true .i64 x2, .int true .i64 x3, .int true .i64 x4, .int true .i64 x5, .int true .i64 x6, .int true .i64 x7, .int true .i64 x8, .int true .i64 x9, .int true .i64 x10, .int true .i64 x11, .int true .i64 x12, .int true .i64 x13, .int true .i64 x14, .int true .i64 x15, .int true .i64 x16, .int true .i64 x17, .int true .i64 x18, .int true .i64 x19, .int true .i64 x20, .int true .i64 x21, .int true .i64 x22, .int true .i64 x23], .g [.int true .i64 b0, .int true .i64 b1, .int true .i64 b2, .int true .i64 b3]], [] => some ([], .a (.vec 0 0 7), [some ⟨⟨0, 0, false, some ⟨0, [.int .i64, .int .i64, .int .i64, .int .i64, .int .i64, .int .i64, .int .i64], lc x0 x1 x2 x3 x4 x5 x6 x7 x8 x9 x10 x11 x12 x13 x14 x15 x16 x17 x18 x19 x20 x21 x22 x23 b0 b1 b2 b3, none⟩⟩, []⟩])
  | _, _ => none
theorem listC_ok : ConOK Try.prog 45 (normC listC) := normC_ok (by
  intro args bs obs lv out h ho φ vs w may ha hM
  unfold listC at h
  split at h
  · simp only [Option.some.injEq, Prod.mk.injEq] at h
    obtain ⟨rfl, rfl, rfl⟩ := h
    rename_i x0 x1 x2 x3 x4 x5 x6 x7 x8 x9 x10 x11 x12 x13 x14 x15 x16 x17 x18 x19 x20 x21 x22 x23 b0 b1 b2 b3
    exact Ra.list_calls (tg x0 x1 x2 x3 x4 x5 x6 x7 x8 x9 x10 x11 x12 x13 x14 x15 x16 x17 x18 x19 x20 x21 x22 x23) b0 b1 b2 b3 φ vs w may ha hM
  · cases h)
def tabRd0 : Tab := (45, normC listC) :: tabRa6
theorem tabRd0_ok : TOK Try.prog tabRd0 := TOK.cons Ra.f45_en listC_ok tabRa6_ok

end Go.Proofs.Ytcdejlgophpdjaa
end

section
namespace Go.Proofs.Ytcdejlgophpdjaa
open Go Go.RowKit Go.Proofs.Ytcdejlgophpdjaa.V
set_option linter.unusedVariables false

/-! azulejo/azulejolaw18.Awake -/
def l18Aw_0 : Bool := bif sm13Tri_9 (-100 : Int) (-100 : Int) (120 : Int) (-100 : Int) (-100 : Int) (120 : Int) (0 : Int) then bif decide ((20 : Int) < Int.ofNat (91 : Nat)) then Int.ofNat (0 : Nat) == (0 : Int) else false else false
theorem l18Aw_p  : evG Try.prog tabRd0 2000 43 [0, 1, 2] [] [] [] [] = some ([], LV.a (At.bool true l18Aw_0), []) := by kernel_rfl
def l18Aw_c : Con
  | [], [] => some ([], LV.a (At.bool true l18Aw_0), [])
  | _, _ => none
theorem l18Aw_ok : ConOK Try.prog 43 (normC l18Aw_c) := normC_ok (by
  intro args bs obs lv out h ho φ vs w may ha hM
  unfold l18Aw_c at h
  split at h
  · simp only [Option.some.injEq, Prod.mk.injEq] at h
    obtain ⟨rfl, rfl, rfl⟩ := h
    exact evG_ok tabRd0_ok follows _ _ _ _ _ (l18Aw_p ) ho φ vs w may ha hM
  · cases h)
theorem l18Aw_en : Enters Try.prog 43 := fun args => by kernel_rfl
-- 296 572 3 ms

def tabRd1 : Tab := (43, normC l18Aw_c) :: tabRd0
theorem tabRd1_ok : TOK Try.prog tabRd1 := TOK.cons l18Aw_en l18Aw_ok (tabRd0_ok)

end Go.Proofs.Ytcdejlgophpdjaa
end

section
namespace Go.Proofs.Ytcdejlgophpdjaa
open Go Go.RowKit Go.Proofs.Ytcdejlgophpdjaa.V
set_option linter.unusedVariables false
set_option linter.unusedSectionVars false

namespace Ra
theorem rowX_mem (t : Nat → Int) (y : Int) : ∀ (n : Nat) (x : Int) (l : List (List Int)) (r : List Int), r ∈ rowX t y n x l → r ∈ l ∨ ∃ x', x ≤ x' ∧ x' < x + n ∧ at5 t x' y = true ∧ r = row t x' y
  | 0, x, l, r, h => .inl h
  | n + 1, x, l, r, h => by
    unfold rowX at h
    rcases rowX_mem t y n (x + 1) _ r h with h | ⟨x', h1, h2, h3⟩
    · cases hq : at5 t x y with
      | false => rw [hq] at h; exact .inl h
      | true =>
        rw [hq] at h
        simp only [cond_true, List.mem_append, List.mem_singleton] at h
        rcases h with h | h
        · exact .inl h
        · exact .inr ⟨x, Int.le_refl _, by omega, hq, h⟩
    · exact .inr ⟨x', by omega, by omega, h3⟩
theorem rowsY_mem (t : Nat → Int) (m : Nat) (a : Int) : ∀ (n : Nat) (y : Int) (l : List (List Int)) (r : List Int), r ∈ rowsY t m a n y l → r ∈ l ∨ ∃ x' y', a ≤ x' ∧ x' < a + m ∧ y ≤ y' ∧ y' < y + n ∧ at5 t x' y' = true ∧ r = row t x' y'
  | 0, y, l, r, h => .inl h
  | n + 1, y, l, r, h => by
    unfold rowsY at h
    rcases rowsY_mem t m a n (y + 1) _ r h with h | ⟨x', y', h1, h2, h3, h4, h5⟩
    · rcases rowX_mem t y m a l r h with h | ⟨x', h1, h2, h3⟩
      · exact .inl h
      · exact .inr ⟨x', y, h1, h2, Int.le_refl _, by omega, h3⟩
    · exact .inr ⟨x', y', h1, h2, by omega, by omega, h5⟩
theorem rowsY_len (t : Nat → Int) (m : Nat) (a : Int) : ∀ (n : Nat) (y : Int) (l : List (List Int)), (rowsY t m a n y l).length ≤ l.length + n * m
  | 0, y, l => by unfold rowsY; omega
  | n + 1, y, l => by
    unfold rowsY
    have h1 := rowsY_len t m a n (y + 1) (rowX t y m a l)
    have h2 := rowX_len t y m a l
    rw [Nat.succ_mul]
    omega
theorem lo_ge (a : Int) : 0 ≤ lo a ∧ a ≤ lo a := by unfold lo; split <;> omega
theorem up_le (a : Int) : up a ≤ 64 ∧ up a ≤ a := by unfold up; split <;> omega
theorem cells_len (t : Nat → Int) (a b c d : Int) : (cells t a b c d).length ≤ 4096 := by
  unfold cells
  cases ck t != 0
  · show (rowsY t (up c - lo a).toNat (lo a) (up d - lo b).toNat (lo b) []).length ≤ 4096
    refine Nat.le_trans (rowsY_len t _ _ _ _ _) ?_
    have l1 := lo_ge a
    have l2 := lo_ge b
    have u1 := up_le c
    have u2 := up_le d
    have := Nat.mul_le_mul (show (up d - lo b).toNat ≤ 64 by omega) (show (up c - lo a).toNat ≤ 64 by omega)
    simp only [List.length_nil]
    omega
  · exact Nat.zero_le _
theorem cells_mem {t : Nat → Int} {a b c d : Int} {r : List Int} (h : r ∈ cells t a b c d) : ck t = 0 ∧ ∃ x y, lo a ≤ x ∧ x < up c ∧ lo b ≤ y ∧ y < up d ∧ at5 t x y = true ∧ r = row t x y := by
  unfold cells at h
  cases hq : ck t != 0 with
  | true => rw [hq] at h; cases h
  | false =>
    rw [hq] at h
    refine ⟨?_, ?_⟩
    · by_cases e : ck t = 0
      · exact e
      · have : (ck t != 0) = true := by simp [e]
        rw [this] at hq; cases hq
    · rcases rowsY_mem t _ _ _ _ _ r h with h | ⟨x, y, h1, h2, h3, h4, h5, h6⟩
      · cases h
      · exact ⟨x, y, h1, by omega, h3, by omega, h5, h6⟩
theorem cells_none {t : Nat → Int} {a b c d : Int} (h : (ck t != 0) = true) : cells t a b c d = [] := by unfold cells; rw [h]; rfl
theorem rget_mem {l : List (List Int)} {i : Nat} (h : i < l.length) : ∃ r ∈ l, ∀ j, rget l i j = r.getD j 0 := by
  refine ⟨l[i], List.getElem_mem h, fun j => ?_⟩
  unfold rget
  rw [show l.getD i [] = l[i] from by rw [List.getD_eq_getElem?_getD, List.getElem?_eq_getElem h]; rfl]
/-- A loop that goes round so many times. -/
theorem inv_run {α : Type} {st : α → List Prop × List (X × Bool × α)} {I : Nat → α → Prop} {n : Nat} {x : X} (hx : x ≠ .n) (hs : ∀ i v, i < n → I i v → ∃ v', pick1 (st v).2 = some (.n, v') ∧ I (i + 1) v') (he : ∀ v, I n v → pick1 (st v).2 = some (x, v)) (ho : ∀ i v, i ≤ n → I i v → Alls (st v).1) :
    ∀ (d i : Nat) (v : α), i + d = n → I i v → ∀ f, d < f → (∃ v', lrun st f v = some (x, v') ∧ I n v') ∧ lok st f v
  | d, i, v, hi, h, 0, hf => by omega
  | 0, i, v, hi, h, f + 1, _ => by
    have : i = n := by omega
    subst this
    unfold lrun lok
    rw [he v h]
    refine ⟨⟨v, ?_, h⟩, ho i v (by omega) h, ?_⟩ <;> cases x <;> first | rfl | trivial | exact absurd rfl hx
  | d + 1, i, v, hi, h, f + 1, _ => by
    obtain ⟨v', h1, h2⟩ := hs i v (by omega) h
    obtain ⟨⟨u, a, b⟩, c⟩ := inv_run hx hs he ho d (i + 1) v' (by omega) h2 f (by omega)
    unfold lrun lok
    rw [h1]
    exact ⟨⟨u, a, b⟩, ho i v (by omega) h, c⟩
theorem aw : l18Aw_0 = true := by kernel_rfl
end Ra

end Go.Proofs.Ytcdejlgophpdjaa
end

section
namespace Go.Proofs.Ytcdejlgophpdjaa
open Go Go.RowKit Go.Proofs.Ytcdejlgophpdjaa.V
set_option linter.unusedVariables false

/-! azulejo/azulejolaw18.RasterCells -/
noncomputable def lRasCe_l65353_code : Go.Code := loopOf (subs (bodyOf Try.prog 5) 1 65353)
structure lRasCe_l65353_T where
  a0 : Bool
  a1 : Int
  a2 : Int
  a3 : Int
  a4 : Bool
  a5 : Int
  a6 : Int
  a7 : Int
  a8 : Int
  a9 : Int
  a10 : Int
  a11 : Int
  a12 : Int
  a13 : Int
  a14 : Int
  a15 : Int
  a16 : Int
  a17 : Int
  a18 : Int
  a19 : Int
  a20 : Int
  a21 : Int
  a22 : Int
  a23 : Int
  a24 : Int
  a25 : Int
  a26 : Int
  a27 : Int
  a28 : Int
  a29 : Int
  a30 : Int
  a31 : Int
  a32 : Int
  a33 : List (List Int)
  deriving Inhabited
def lRasCe_l65353_hd (v : lRasCe_l65353_T) : HS := HS.mk [(nat_lit 4, LV.a (At.bool true (lRasCe_l65353_T.a0 v))), (nat_lit 5, LV.a (At.ptr (nat_lit 0) (nat_lit 0))), (nat_lit 7, LV.a (At.ptr (nat_lit 1) (nat_lit 0))), (nat_lit 8, LV.a (At.vec (nat_lit 2) (nat_lit 0) (nat_lit 7))), (nat_lit 9, LV.a (At.int true IntKind.i64 (lRasCe_l65353_T.a1 v))), (nat_lit 10, LV.a (At.int true IntKind.i64 (lRasCe_l65353_T.a2 v))), (nat_lit 11, LV.a (At.int true IntKind.i64 (lRasCe_l65353_T.a3 v))), (nat_lit 39, LV.a (At.bool true (lRasCe_l65353_T.a4 v)))] [BC.mk (Hd.mk (nat_lit 0) (nat_lit 24) true none) [some (At.int true IntKind.i64 (lRasCe_l65353_T.a5 v)), some (At.int true IntKind.i64 (lRasCe_l65353_T.a6 v)), some (At.int true IntKind.i64 (lRasCe_l65353_T.a7 v)), some (At.int true IntKind.i64 (lRasCe_l65353_T.a8 v)), some (At.int true IntKind.i64 (lRasCe_l65353_T.a9 v)), some (At.int true IntKind.i64 (lRasCe_l65353_T.a10 v)), some (At.int true IntKind.i64 (lRasCe_l65353_T.a11 v)), some (At.int true IntKind.i64 (lRasCe_l65353_T.a12 v)), some (At.int true IntKind.i64 (lRasCe_l65353_T.a13 v)), some (At.int true IntKind.i64 (lRasCe_l65353_T.a14 v)), some (At.int true IntKind.i64 (lRasCe_l65353_T.a15 v)), some (At.int true IntKind.i64 (lRasCe_l65353_T.a16 v)), some (At.int true IntKind.i64 (lRasCe_l65353_T.a17 v)), some (At.int true IntKind.i64 (lRasCe_l65353_T.a18 v)), some (At.int true IntKind.i64 (lRasCe_l65353_T.a19 v)), some (At.int true IntKind.i64 (lRasCe_l65353_T.a20 v)), some (At.int true IntKind.i64 (lRasCe_l65353_T.a21 v)), some (At.int true IntKind.i64 (lRasCe_l65353_T.a22 v)), some (At.int true IntKind.i64 (lRasCe_l65353_T.a23 v)), some (At.int true IntKind.i64 (lRasCe_l65353_T.a24 v)), some (At.int true IntKind.i64 (lRasCe_l65353_T.a25 v)), some (At.int true IntKind.i64 (lRasCe_l65353_T.a26 v)), some (At.int true IntKind.i64 (lRasCe_l65353_T.a27 v)), some (At.int true IntKind.i64 (lRasCe_l65353_T.a28 v))], BC.mk (Hd.mk (nat_lit 0) (nat_lit 4) true none) [some (At.int true IntKind.i64 (lRasCe_l65353_T.a29 v)), some (At.int true IntKind.i64 (lRasCe_l65353_T.a30 v)), some (At.int true IntKind.i64 (lRasCe_l65353_T.a31 v)), some (At.int true IntKind.i64 (lRasCe_l65353_T.a32 v))], BC.mk (Hd.mk (nat_lit 0) (nat_lit 0) true (some (Rw.mk (nat_lit 0) [Kd.int IntKind.i64, Kd.int IntKind.i64, Kd.int IntKind.i64, Kd.int IntKind.i64, Kd.int IntKind.i64, Kd.int IntKind.i64, Kd.int IntKind.i64] (lRasCe_l65353_T.a33 v) none))) []]
def lRasCe_l65353_s0 (v : lRasCe_l65353_T) : Bool := decide (lRasCe_l65353_T.a3 v < if (64 : Int) < lRasCe_l65353_T.a31 v then (64 : Int) else lRasCe_l65353_T.a31 v)
def lRasCe_l65353_s1 (v : lRasCe_l65353_T) : Bool := !r12At_5 (lRasCe_l65353_T.a5 v) (lRasCe_l65353_T.a6 v) (lRasCe_l65353_T.a7 v) (lRasCe_l65353_T.a8 v) (lRasCe_l65353_T.a9 v) (lRasCe_l65353_T.a10 v) (lRasCe_l65353_T.a3 v) (lRasCe_l65353_T.a2 v)
def lRasCe_l65353_s2 (v : lRasCe_l65353_T) : Bool := decide (Int.ofNat (List.length (lRasCe_l65353_T.a33 v)) ≤ lRasCe_l65353_T.a1 v)
def lRasCe_l65353_s3 (v : lRasCe_l65353_T) : Bool := bif lRasCe_l65353_s2 v then true else !(rget (lRasCe_l65353_T.a33 v) (Int.toNat (lRasCe_l65353_T.a1 v)) (0 : Nat) == lRasCe_l65353_T.a3 v && (rget (lRasCe_l65353_T.a33 v) (Int.toNat (lRasCe_l65353_T.a1 v)) (1 : Nat) == lRasCe_l65353_T.a2 v && (rget (lRasCe_l65353_T.a33 v) (Int.toNat (lRasCe_l65353_T.a1 v)) (2 : Nat) == r12At_0 (lRasCe_l65353_T.a5 v) (lRasCe_l65353_T.a6 v) (lRasCe_l65353_T.a7 v) (lRasCe_l65353_T.a8 v) (lRasCe_l65353_T.a9 v) (lRasCe_l65353_T.a10 v) (lRasCe_l65353_T.a11 v) (lRasCe_l65353_T.a12 v) (lRasCe_l65353_T.a13 v) (lRasCe_l65353_T.a3 v) (lRasCe_l65353_T.a2 v) && (rget (lRasCe_l65353_T.a33 v) (Int.toNat (lRasCe_l65353_T.a1 v)) (3 : Nat) == r12At_1 (lRasCe_l65353_T.a5 v) (lRasCe_l65353_T.a6 v) (lRasCe_l65353_T.a7 v) (lRasCe_l65353_T.a8 v) (lRasCe_l65353_T.a9 v) (lRasCe_l65353_T.a10 v) (lRasCe_l65353_T.a14 v) (lRasCe_l65353_T.a15 v) (lRasCe_l65353_T.a16 v) (lRasCe_l65353_T.a17 v) (lRasCe_l65353_T.a21 v) (lRasCe_l65353_T.a25 v) (lRasCe_l65353_T.a3 v) (lRasCe_l65353_T.a2 v) && (rget (lRasCe_l65353_T.a33 v) (Int.toNat (lRasCe_l65353_T.a1 v)) (4 : Nat) == r12At_2 (lRasCe_l65353_T.a5 v) (lRasCe_l65353_T.a6 v) (lRasCe_l65353_T.a7 v) (lRasCe_l65353_T.a8 v) (lRasCe_l65353_T.a9 v) (lRasCe_l65353_T.a10 v) (lRasCe_l65353_T.a14 v) (lRasCe_l65353_T.a15 v) (lRasCe_l65353_T.a16 v) (lRasCe_l65353_T.a18 v) (lRasCe_l65353_T.a22 v) (lRasCe_l65353_T.a26 v) (lRasCe_l65353_T.a3 v) (lRasCe_l65353_T.a2 v) && (rget (lRasCe_l65353_T.a33 v) (Int.toNat (lRasCe_l65353_T.a1 v)) (5 : Nat) == r12At_3 (lRasCe_l65353_T.a5 v) (lRasCe_l65353_T.a6 v) (lRasCe_l65353_T.a7 v) (lRasCe_l65353_T.a8 v) (lRasCe_l65353_T.a9 v) (lRasCe_l65353_T.a10 v) (lRasCe_l65353_T.a14 v) (lRasCe_l65353_T.a15 v) (lRasCe_l65353_T.a16 v) (lRasCe_l65353_T.a19 v) (lRasCe_l65353_T.a23 v) (lRasCe_l65353_T.a27 v) (lRasCe_l65353_T.a3 v) (lRasCe_l65353_T.a2 v) && rget (lRasCe_l65353_T.a33 v) (Int.toNat (lRasCe_l65353_T.a1 v)) (6 : Nat) == r12At_4 (lRasCe_l65353_T.a5 v) (lRasCe_l65353_T.a6 v) (lRasCe_l65353_T.a7 v) (lRasCe_l65353_T.a8 v) (lRasCe_l65353_T.a9 v) (lRasCe_l65353_T.a10 v) (lRasCe_l65353_T.a14 v) (lRasCe_l65353_T.a15 v) (lRasCe_l65353_T.a16 v) (lRasCe_l65353_T.a20 v) (lRasCe_l65353_T.a24 v) (lRasCe_l65353_T.a28 v) (lRasCe_l65353_T.a3 v) (lRasCe_l65353_T.a2 v)))))))
def lRasCe_l65353_st (v : lRasCe_l65353_T) : List Prop × List (X × Bool × lRasCe_l65353_T) := ([lRasCe_l65353_s0 v = true → (!r12At_s2 (lRasCe_l65353_T.a5 v) (lRasCe_l65353_T.a6 v) (lRasCe_l65353_T.a7 v) (lRasCe_l65353_T.a8 v) (lRasCe_l65353_T.a9 v) (lRasCe_l65353_T.a10 v) (lRasCe_l65353_T.a3 v) (lRasCe_l65353_T.a2 v)) = true → r12At_s6 (lRasCe_l65353_T.a5 v) (lRasCe_l65353_T.a6 v) (lRasCe_l65353_T.a7 v) (lRasCe_l65353_T.a8 v) (lRasCe_l65353_T.a9 v) (lRasCe_l65353_T.a10 v) (lRasCe_l65353_T.a14 v) (lRasCe_l65353_T.a15 v) (lRasCe_l65353_T.a16 v) (lRasCe_l65353_T.a3 v) (lRasCe_l65353_T.a2 v) ≠ (0 : Int), lRasCe_l65353_s0 v = true → (!r12At_s2 (lRasCe_l65353_T.a5 v) (lRasCe_l65353_T.a6 v) (lRasCe_l65353_T.a7 v) (lRasCe_l65353_T.a8 v) (lRasCe_l65353_T.a9 v) (lRasCe_l65353_T.a10 v) (lRasCe_l65353_T.a3 v) (lRasCe_l65353_T.a2 v)) = true → r12At_s6 (lRasCe_l65353_T.a5 v) (lRasCe_l65353_T.a6 v) (lRasCe_l65353_T.a7 v) (lRasCe_l65353_T.a8 v) (lRasCe_l65353_T.a9 v) (lRasCe_l65353_T.a10 v) (lRasCe_l65353_T.a14 v) (lRasCe_l65353_T.a15 v) (lRasCe_l65353_T.a16 v) (lRasCe_l65353_T.a3 v) (lRasCe_l65353_T.a2 v) ≠ (0 : Int), lRasCe_l65353_s0 v = true → (!r12At_s2 (lRasCe_l65353_T.a5 v) (lRasCe_l65353_T.a6 v) (lRasCe_l65353_T.a7 v) (lRasCe_l65353_T.a8 v) (lRasCe_l65353_T.a9 v) (lRasCe_l65353_T.a10 v) (lRasCe_l65353_T.a3 v) (lRasCe_l65353_T.a2 v)) = true → r12At_s6 (lRasCe_l65353_T.a5 v) (lRasCe_l65353_T.a6 v) (lRasCe_l65353_T.a7 v) (lRasCe_l65353_T.a8 v) (lRasCe_l65353_T.a9 v) (lRasCe_l65353_T.a10 v) (lRasCe_l65353_T.a14 v) (lRasCe_l65353_T.a15 v) (lRasCe_l65353_T.a16 v) (lRasCe_l65353_T.a3 v) (lRasCe_l65353_T.a2 v) ≠ (0 : Int), lRasCe_l65353_s0 v = true → (!r12At_s2 (lRasCe_l65353_T.a5 v) (lRasCe_l65353_T.a6 v) (lRasCe_l65353_T.a7 v) (lRasCe_l65353_T.a8 v) (lRasCe_l65353_T.a9 v) (lRasCe_l65353_T.a10 v) (lRasCe_l65353_T.a3 v) (lRasCe_l65353_T.a2 v)) = true → r12At_s6 (lRasCe_l65353_T.a5 v) (lRasCe_l65353_T.a6 v) (lRasCe_l65353_T.a7 v) (lRasCe_l65353_T.a8 v) (lRasCe_l65353_T.a9 v) (lRasCe_l65353_T.a10 v) (lRasCe_l65353_T.a14 v) (lRasCe_l65353_T.a15 v) (lRasCe_l65353_T.a16 v) (lRasCe_l65353_T.a3 v) (lRasCe_l65353_T.a2 v) ≠ (0 : Int), lRasCe_l65353_s0 v = true → (!r12At_s2 (lRasCe_l65353_T.a5 v) (lRasCe_l65353_T.a6 v) (lRasCe_l65353_T.a7 v) (lRasCe_l65353_T.a8 v) (lRasCe_l65353_T.a9 v) (lRasCe_l65353_T.a10 v) (lRasCe_l65353_T.a3 v) (lRasCe_l65353_T.a2 v)) = true → rSide_0 (lRasCe_l65353_T.a5 v) (lRasCe_l65353_T.a6 v) (lRasCe_l65353_T.a7 v) (lRasCe_l65353_T.a8 v) (lRasCe_l65353_T.a9 v) (lRasCe_l65353_T.a10 v) ≠ (0 : Int), lRasCe_l65353_s0 v = true → (!lRasCe_l65353_s1 v) = true → lRasCe_l65353_s2 v = false → (0 : Int) ≤ lRasCe_l65353_T.a1 v ∧ lRasCe_l65353_T.a1 v < Int.ofNat (List.length (lRasCe_l65353_T.a33 v))], [(X.e (2 : Nat), !lRasCe_l65353_s0 v, lRasCe_l65353_T.mk (lRasCe_l65353_T.a0 v) (lRasCe_l65353_T.a1 v) (lRasCe_l65353_T.a2 v) (lRasCe_l65353_T.a3 v) (lRasCe_l65353_T.a4 v) (lRasCe_l65353_T.a5 v) (lRasCe_l65353_T.a6 v) (lRasCe_l65353_T.a7 v) (lRasCe_l65353_T.a8 v) (lRasCe_l65353_T.a9 v) (lRasCe_l65353_T.a10 v) (lRasCe_l65353_T.a11 v) (lRasCe_l65353_T.a12 v) (lRasCe_l65353_T.a13 v) (lRasCe_l65353_T.a14 v) (lRasCe_l65353_T.a15 v) (lRasCe_l65353_T.a16 v) (lRasCe_l65353_T.a17 v) (lRasCe_l65353_T.a18 v) (lRasCe_l65353_T.a19 v) (lRasCe_l65353_T.a20 v) (lRasCe_l65353_T.a21 v) (lRasCe_l65353_T.a22 v) (lRasCe_l65353_T.a23 v) (lRasCe_l65353_T.a24 v) (lRasCe_l65353_T.a25 v) (lRasCe_l65353_T.a26 v) (lRasCe_l65353_T.a27 v) (lRasCe_l65353_T.a28 v) (lRasCe_l65353_T.a29 v) (lRasCe_l65353_T.a30 v) (lRasCe_l65353_T.a31 v) (lRasCe_l65353_T.a32 v) (lRasCe_l65353_T.a33 v)), (X.r, lRasCe_l65353_s0 v && (!lRasCe_l65353_s1 v && lRasCe_l65353_s3 v), lRasCe_l65353_T.mk (false) (lRasCe_l65353_T.a1 v) (lRasCe_l65353_T.a2 v) (lRasCe_l65353_T.a3 v) (lRasCe_l65353_T.a4 v) (lRasCe_l65353_T.a5 v) (lRasCe_l65353_T.a6 v) (lRasCe_l65353_T.a7 v) (lRasCe_l65353_T.a8 v) (lRasCe_l65353_T.a9 v) (lRasCe_l65353_T.a10 v) (lRasCe_l65353_T.a11 v) (lRasCe_l65353_T.a12 v) (lRasCe_l65353_T.a13 v) (lRasCe_l65353_T.a14 v) (lRasCe_l65353_T.a15 v) (lRasCe_l65353_T.a16 v) (lRasCe_l65353_T.a17 v) (lRasCe_l65353_T.a18 v) (lRasCe_l65353_T.a19 v) (lRasCe_l65353_T.a20 v) (lRasCe_l65353_T.a21 v) (lRasCe_l65353_T.a22 v) (lRasCe_l65353_T.a23 v) (lRasCe_l65353_T.a24 v) (lRasCe_l65353_T.a25 v) (lRasCe_l65353_T.a26 v) (lRasCe_l65353_T.a27 v) (lRasCe_l65353_T.a28 v) (lRasCe_l65353_T.a29 v) (lRasCe_l65353_T.a30 v) (lRasCe_l65353_T.a31 v) (lRasCe_l65353_T.a32 v) (lRasCe_l65353_T.a33 v)), (X.n, lRasCe_l65353_s0 v && (lRasCe_l65353_s1 v || !lRasCe_l65353_s1 v && !lRasCe_l65353_s3 v), lRasCe_l65353_T.mk (lRasCe_l65353_T.a0 v) (bif lRasCe_l65353_s1 v then lRasCe_l65353_T.a1 v else IntKind.wrap IntKind.i64 (lRasCe_l65353_T.a1 v + (1 : Int))) (lRasCe_l65353_T.a2 v) (IntKind.wrap IntKind.i64 (lRasCe_l65353_T.a3 v + (1 : Int))) (lRasCe_l65353_T.a4 v) (lRasCe_l65353_T.a5 v) (lRasCe_l65353_T.a6 v) (lRasCe_l65353_T.a7 v) (lRasCe_l65353_T.a8 v) (lRasCe_l65353_T.a9 v) (lRasCe_l65353_T.a10 v) (lRasCe_l65353_T.a11 v) (lRasCe_l65353_T.a12 v) (lRasCe_l65353_T.a13 v) (lRasCe_l65353_T.a14 v) (lRasCe_l65353_T.a15 v) (lRasCe_l65353_T.a16 v) (lRasCe_l65353_T.a17 v) (lRasCe_l65353_T.a18 v) (lRasCe_l65353_T.a19 v) (lRasCe_l65353_T.a20 v) (lRasCe_l65353_T.a21 v) (lRasCe_l65353_T.a22 v) (lRasCe_l65353_T.a23 v) (lRasCe_l65353_T.a24 v) (lRasCe_l65353_T.a25 v) (lRasCe_l65353_T.a26 v) (lRasCe_l65353_T.a27 v) (lRasCe_l65353_T.a28 v) (lRasCe_l65353_T.a29 v) (lRasCe_l65353_T.a30 v) (lRasCe_l65353_T.a31 v) (lRasCe_l65353_T.a32 v) (lRasCe_l65353_T.a33 v))])
def lRasCe_l65353_rd : HS → Option lRasCe_l65353_T := rdS [.b, .i, .i, .i, .b, .i, .i, .i, .i, .i, .i, .i, .i, .i, .i, .i, .i, .i, .i, .i, .i, .i, .i, .i, .i, .i, .i, .i, .i, .i, .i, .i, .i, .r] (fun l => lRasCe_l65353_T.mk (gB l 0) (gI l 1) (gI l 2) (gI l 3) (gB l 4) (gI l 5) (gI l 6) (gI l 7) (gI l 8) (gI l 9) (gI l 10) (gI l 11) (gI l 12) (gI l 13) (gI l 14) (gI l 15) (gI l 16) (gI l 17) (gI l 18) (gI l 19) (gI l 20) (gI l 21) (gI l 22) (gI l 23) (gI l 24) (gI l 25) (gI l 26) (gI l 27) (gI l 28) (gI l 29) (gI l 30) (gI l 31) (gI l 32) (gR l 33)) lRasCe_l65353_hd
def lRasCe_l65353_sum : V.Sum := loopS lRasCe_l65353_hd lRasCe_l65353_rd lRasCe_l65353_st 18446744073709551616 [X.e (2 : Nat), X.r] [0, 1, 2, 3, 4, 5, 6, 7, 8, 9, 10, 11, 12, 13, 14, 16, 28, 39, 49, 62, 78] [4, 5, 7, 8, 9, 10, 11, 39] [] [] [] 2
theorem lRasCe_l65353_E : ∀ v, bodyF Try.prog tabRd1 (ntOf Try.prog 5) [0, 1, 2, 3, 4, 5, 6, 7, 8, 9, 10, 11, 12, 13, 14, 16, 28, 39, 49, 62, 78] [4, 5, 7, 8, 9, 10, 11, 39] [] 2000 [] [] lRasCe_l65353_code 261412 (lRasCe_l65353_hd v) = some ((lRasCe_l65353_st v).1, (lRasCe_l65353_st v).2.map fun q => (q.1, q.2.1, lRasCe_l65353_hd q.2.2)) := fun v => by kernel_rfl
theorem lRasCe_l65353_R : ∀ h v, lRasCe_l65353_rd h = some v → h = lRasCe_l65353_hd v := rdS_ok fun l => by kernel_rfl
set_option maxRecDepth 100000 in
theorem lRasCe_l65353_sok : SumOK Try.prog (ntOf Try.prog 5) [0, 1, 2, 3, 4, 5, 6, 7, 8, 9, 10, 11, 12, 13, 14, 16, 28, 39, 49, 62, 78] (.block (blockOf (subs (bodyOf Try.prog 5) 1 65353)) (.loop lRasCe_l65353_code)) lRasCe_l65353_sum := loopS_ok tabRd1_ok follows lRasCe_l65353_E lRasCe_l65353_R (fun v => by kernel_rfl) (LOK_of _ _ (LOK_nil'))
noncomputable def lRasCe_l1021_code : Go.Code := loopOf (subs (bodyOf Try.prog 5) 1 1021)
structure lRasCe_l1021_T where
  a0 : Bool
  a1 : Int
  a2 : Int
  a3 : Int
  a4 : Int
  a5 : Int
  a6 : Int
  a7 : Int
  a8 : Int
  a9 : Int
  a10 : Int
  a11 : Int
  a12 : Int
  a13 : Int
  a14 : Int
  a15 : Int
  a16 : Int
  a17 : Int
  a18 : Int
  a19 : Int
  a20 : Int
  a21 : Int
  a22 : Int
  a23 : Int
  a24 : Int
  a25 : Int
  a26 : Int
  a27 : Int
  a28 : Int
  a29 : Int
  a30 : Int
  a31 : List (List Int)
  deriving Inhabited
def lRasCe_l1021_hd (v : lRasCe_l1021_T) : HS := HS.mk [(nat_lit 4, LV.a (At.bool true (lRasCe_l1021_T.a0 v))), (nat_lit 5, LV.a (At.ptr (nat_lit 0) (nat_lit 0))), (nat_lit 7, LV.a (At.ptr (nat_lit 1) (nat_lit 0))), (nat_lit 8, LV.a (At.vec (nat_lit 2) (nat_lit 0) (nat_lit 7))), (nat_lit 9, LV.a (At.int true IntKind.i64 (lRasCe_l1021_T.a1 v))), (nat_lit 10, LV.a (At.int true IntKind.i64 (lRasCe_l1021_T.a2 v)))] [BC.mk (Hd.mk (nat_lit 0) (nat_lit 24) true none) [some (At.int true IntKind.i64 (lRasCe_l1021_T.a3 v)), some (At.int true IntKind.i64 (lRasCe_l1021_T.a4 v)), some (At.int true IntKind.i64 (lRasCe_l1021_T.a5 v)), some (At.int true IntKind.i64 (lRasCe_l1021_T.a6 v)), some (At.int true IntKind.i64 (lRasCe_l1021_T.a7 v)), some (At.int true IntKind.i64 (lRasCe_l1021_T.a8 v)), some (At.int true IntKind.i64 (lRasCe_l1021_T.a9 v)), some (At.int true IntKind.i64 (lRasCe_l1021_T.a10 v)), some (At.int true IntKind.i64 (lRasCe_l1021_T.a11 v)), some (At.int true IntKind.i64 (lRasCe_l1021_T.a12 v)), some (At.int true IntKind.i64 (lRasCe_l1021_T.a13 v)), some (At.int true IntKind.i64 (lRasCe_l1021_T.a14 v)), some (At.int true IntKind.i64 (lRasCe_l1021_T.a15 v)), some (At.int true IntKind.i64 (lRasCe_l1021_T.a16 v)), some (At.int true IntKind.i64 (lRasCe_l1021_T.a17 v)), some (At.int true IntKind.i64 (lRasCe_l1021_T.a18 v)), some (At.int true IntKind.i64 (lRasCe_l1021_T.a19 v)), some (At.int true IntKind.i64 (lRasCe_l1021_T.a20 v)), some (At.int true IntKind.i64 (lRasCe_l1021_T.a21 v)), some (At.int true IntKind.i64 (lRasCe_l1021_T.a22 v)), some (At.int true IntKind.i64 (lRasCe_l1021_T.a23 v)), some (At.int true IntKind.i64 (lRasCe_l1021_T.a24 v)), some (At.int true IntKind.i64 (lRasCe_l1021_T.a25 v)), some (At.int true IntKind.i64 (lRasCe_l1021_T.a26 v))], BC.mk (Hd.mk (nat_lit 0) (nat_lit 4) true none) [some (At.int true IntKind.i64 (lRasCe_l1021_T.a27 v)), some (At.int true IntKind.i64 (lRasCe_l1021_T.a28 v)), some (At.int true IntKind.i64 (lRasCe_l1021_T.a29 v)), some (At.int true IntKind.i64 (lRasCe_l1021_T.a30 v))], BC.mk (Hd.mk (nat_lit 0) (nat_lit 0) true (some (Rw.mk (nat_lit 0) [Kd.int IntKind.i64, Kd.int IntKind.i64, Kd.int IntKind.i64, Kd.int IntKind.i64, Kd.int IntKind.i64, Kd.int IntKind.i64, Kd.int IntKind.i64] (lRasCe_l1021_T.a31 v) none))) []]
def lRasCe_l1021_s0 (v : lRasCe_l1021_T) : Bool := decide (lRasCe_l1021_T.a2 v < if (64 : Int) < lRasCe_l1021_T.a30 v then (64 : Int) else lRasCe_l1021_T.a30 v)
def lRasCe_l1021_s1 (v : lRasCe_l1021_T) : Option (X × lRasCe_l65353_T) := lrun lRasCe_l65353_st (18446744073709551616 : Nat) (lRasCe_l65353_T.mk (lRasCe_l1021_T.a0 v) (lRasCe_l1021_T.a1 v) (lRasCe_l1021_T.a2 v) (if lRasCe_l1021_T.a27 v < (0 : Int) then (0 : Int) else lRasCe_l1021_T.a27 v) (lRasCe_l1021_s0 v) (lRasCe_l1021_T.a3 v) (lRasCe_l1021_T.a4 v) (lRasCe_l1021_T.a5 v) (lRasCe_l1021_T.a6 v) (lRasCe_l1021_T.a7 v) (lRasCe_l1021_T.a8 v) (lRasCe_l1021_T.a9 v) (lRasCe_l1021_T.a10 v) (lRasCe_l1021_T.a11 v) (lRasCe_l1021_T.a12 v) (lRasCe_l1021_T.a13 v) (lRasCe_l1021_T.a14 v) (lRasCe_l1021_T.a15 v) (lRasCe_l1021_T.a16 v) (lRasCe_l1021_T.a17 v) (lRasCe_l1021_T.a18 v) (lRasCe_l1021_T.a19 v) (lRasCe_l1021_T.a20 v) (lRasCe_l1021_T.a21 v) (lRasCe_l1021_T.a22 v) (lRasCe_l1021_T.a23 v) (lRasCe_l1021_T.a24 v) (lRasCe_l1021_T.a25 v) (lRasCe_l1021_T.a26 v) (lRasCe_l1021_T.a27 v) (lRasCe_l1021_T.a28 v) (lRasCe_l1021_T.a29 v) (lRasCe_l1021_T.a30 v) (lRasCe_l1021_T.a31 v))
def lRasCe_l1021_st (v : lRasCe_l1021_T) : List Prop × List (X × Bool × lRasCe_l1021_T) := ([lRasCe_l1021_s0 v = true → lok lRasCe_l65353_st (18446744073709551616 : Nat) (lRasCe_l65353_T.mk (lRasCe_l1021_T.a0 v) (lRasCe_l1021_T.a1 v) (lRasCe_l1021_T.a2 v) (if lRasCe_l1021_T.a27 v < (0 : Int) then (0 : Int) else lRasCe_l1021_T.a27 v) (lRasCe_l1021_s0 v) (lRasCe_l1021_T.a3 v) (lRasCe_l1021_T.a4 v) (lRasCe_l1021_T.a5 v) (lRasCe_l1021_T.a6 v) (lRasCe_l1021_T.a7 v) (lRasCe_l1021_T.a8 v) (lRasCe_l1021_T.a9 v) (lRasCe_l1021_T.a10 v) (lRasCe_l1021_T.a11 v) (lRasCe_l1021_T.a12 v) (lRasCe_l1021_T.a13 v) (lRasCe_l1021_T.a14 v) (lRasCe_l1021_T.a15 v) (lRasCe_l1021_T.a16 v) (lRasCe_l1021_T.a17 v) (lRasCe_l1021_T.a18 v) (lRasCe_l1021_T.a19 v) (lRasCe_l1021_T.a20 v) (lRasCe_l1021_T.a21 v) (lRasCe_l1021_T.a22 v) (lRasCe_l1021_T.a23 v) (lRasCe_l1021_T.a24 v) (lRasCe_l1021_T.a25 v) (lRasCe_l1021_T.a26 v) (lRasCe_l1021_T.a27 v) (lRasCe_l1021_T.a28 v) (lRasCe_l1021_T.a29 v) (lRasCe_l1021_T.a30 v) (lRasCe_l1021_T.a31 v))], [(X.e (0 : Nat), !lRasCe_l1021_s0 v, lRasCe_l1021_T.mk (lRasCe_l1021_T.a0 v) (lRasCe_l1021_T.a1 v) (lRasCe_l1021_T.a2 v) (lRasCe_l1021_T.a3 v) (lRasCe_l1021_T.a4 v) (lRasCe_l1021_T.a5 v) (lRasCe_l1021_T.a6 v) (lRasCe_l1021_T.a7 v) (lRasCe_l1021_T.a8 v) (lRasCe_l1021_T.a9 v) (lRasCe_l1021_T.a10 v) (lRasCe_l1021_T.a11 v) (lRasCe_l1021_T.a12 v) (lRasCe_l1021_T.a13 v) (lRasCe_l1021_T.a14 v) (lRasCe_l1021_T.a15 v) (lRasCe_l1021_T.a16 v) (lRasCe_l1021_T.a17 v) (lRasCe_l1021_T.a18 v) (lRasCe_l1021_T.a19 v) (lRasCe_l1021_T.a20 v) (lRasCe_l1021_T.a21 v) (lRasCe_l1021_T.a22 v) (lRasCe_l1021_T.a23 v) (lRasCe_l1021_T.a24 v) (lRasCe_l1021_T.a25 v) (lRasCe_l1021_T.a26 v) (lRasCe_l1021_T.a27 v) (lRasCe_l1021_T.a28 v) (lRasCe_l1021_T.a29 v) (lRasCe_l1021_T.a30 v) (lRasCe_l1021_T.a31 v)), (X.r, lRasCe_l1021_s0 v && isX X.r (lRasCe_l1021_s1 v), lRasCe_l1021_T.mk (lRasCe_l65353_T.a0 (V.valOf (lRasCe_l1021_s1 v))) (lRasCe_l65353_T.a1 (V.valOf (lRasCe_l1021_s1 v))) (lRasCe_l65353_T.a2 (V.valOf (lRasCe_l1021_s1 v))) (lRasCe_l1021_T.a3 v) (lRasCe_l1021_T.a4 v) (lRasCe_l1021_T.a5 v) (lRasCe_l1021_T.a6 v) (lRasCe_l1021_T.a7 v) (lRasCe_l1021_T.a8 v) (lRasCe_l1021_T.a9 v) (lRasCe_l1021_T.a10 v) (lRasCe_l1021_T.a11 v) (lRasCe_l1021_T.a12 v) (lRasCe_l1021_T.a13 v) (lRasCe_l1021_T.a14 v) (lRasCe_l1021_T.a15 v) (lRasCe_l1021_T.a16 v) (lRasCe_l1021_T.a17 v) (lRasCe_l1021_T.a18 v) (lRasCe_l1021_T.a19 v) (lRasCe_l1021_T.a20 v) (lRasCe_l1021_T.a21 v) (lRasCe_l1021_T.a22 v) (lRasCe_l1021_T.a23 v) (lRasCe_l1021_T.a24 v) (lRasCe_l1021_T.a25 v) (lRasCe_l1021_T.a26 v) (lRasCe_l1021_T.a27 v) (lRasCe_l1021_T.a28 v) (lRasCe_l1021_T.a29 v) (lRasCe_l1021_T.a30 v) (lRasCe_l1021_T.a31 v)), (X.n, lRasCe_l1021_s0 v && isX (X.e (2 : Nat)) (lRasCe_l1021_s1 v), lRasCe_l1021_T.mk (lRasCe_l65353_T.a0 (V.valOf (lRasCe_l1021_s1 v))) (lRasCe_l65353_T.a1 (V.valOf (lRasCe_l1021_s1 v))) (IntKind.wrap IntKind.i64 (lRasCe_l65353_T.a2 (V.valOf (lRasCe_l1021_s1 v)) + (1 : Int))) (lRasCe_l1021_T.a3 v) (lRasCe_l1021_T.a4 v) (lRasCe_l1021_T.a5 v) (lRasCe_l1021_T.a6 v) (lRasCe_l1021_T.a7 v) (lRasCe_l1021_T.a8 v) (lRasCe_l1021_T.a9 v) (lRasCe_l1021_T.a10 v) (lRasCe_l1021_T.a11 v) (lRasCe_l1021_T.a12 v) (lRasCe_l1021_T.a13 v) (lRasCe_l1021_T.a14 v) (lRasCe_l1021_T.a15 v) (lRasCe_l1021_T.a16 v) (lRasCe_l1021_T.a17 v) (lRasCe_l1021_T.a18 v) (lRasCe_l1021_T.a19 v) (lRasCe_l1021_T.a20 v) (lRasCe_l1021_T.a21 v) (lRasCe_l1021_T.a22 v) (lRasCe_l1021_T.a23 v) (lRasCe_l1021_T.a24 v) (lRasCe_l1021_T.a25 v) (lRasCe_l1021_T.a26 v) (lRasCe_l1021_T.a27 v) (lRasCe_l1021_T.a28 v) (lRasCe_l1021_T.a29 v) (lRasCe_l1021_T.a30 v) (lRasCe_l1021_T.a31 v))])
def lRasCe_l1021_rd : HS → Option lRasCe_l1021_T := rdS [.b, .i, .i, .i, .i, .i, .i, .i, .i, .i, .i, .i, .i, .i, .i, .i, .i, .i, .i, .i, .i, .i, .i, .i, .i, .i, .i, .i, .i, .i, .i, .r] (fun l => lRasCe_l1021_T.mk (gB l 0) (gI l 1) (gI l 2) (gI l 3) (gI l 4) (gI l 5) (gI l 6) (gI l 7) (gI l 8) (gI l 9) (gI l 10) (gI l 11) (gI l 12) (gI l 13) (gI l 14) (gI l 15) (gI l 16) (gI l 17) (gI l 18) (gI l 19) (gI l 20) (gI l 21) (gI l 22) (gI l 23) (gI l 24) (gI l 25) (gI l 26) (gI l 27) (gI l 28) (gI l 29) (gI l 30) (gR l 31)) lRasCe_l1021_hd
def lRasCe_l1021_sum : V.Sum := loopS lRasCe_l1021_hd lRasCe_l1021_rd lRasCe_l1021_st 18446744073709551616 [X.e (0 : Nat), X.r] [0, 1, 2, 3, 4, 5, 6, 7, 8, 9, 10, 11, 12, 13, 14, 16, 28, 39, 49, 62, 78] [4, 5, 7, 8, 9, 10] [] [] [] 0
theorem lRasCe_l1021_E : ∀ v, bodyF Try.prog tabRd1 (ntOf Try.prog 5) [0, 1, 2, 3, 4, 5, 6, 7, 8, 9, 10, 11, 12, 13, 14, 16, 28, 39, 49, 62, 78] [4, 5, 7, 8, 9, 10] [(65353, lRasCe_l65353_sum)] 2000 [] [] lRasCe_l1021_code 4084 (lRasCe_l1021_hd v) = some ((lRasCe_l1021_st v).1, (lRasCe_l1021_st v).2.map fun q => (q.1, q.2.1, lRasCe_l1021_hd q.2.2)) := fun v => by kernel_rfl
theorem lRasCe_l1021_R : ∀ h v, lRasCe_l1021_rd h = some v → h = lRasCe_l1021_hd v := rdS_ok fun l => by kernel_rfl
set_option maxRecDepth 100000 in
theorem lRasCe_l1021_sok : SumOK Try.prog (ntOf Try.prog 5) [0, 1, 2, 3, 4, 5, 6, 7, 8, 9, 10, 11, 12, 13, 14, 16, 28, 39, 49, 62, 78] (.block (blockOf (subs (bodyOf Try.prog 5) 1 1021)) (.loop lRasCe_l1021_code)) lRasCe_l1021_sum := loopS_ok tabRd1_ok follows lRasCe_l1021_E lRasCe_l1021_R (fun v => by kernel_rfl) (LOK_of _ _ (LOK_cons (show subs lRasCe_l1021_code 4084 65353 = [.block (blockOf (subs (bodyOf Try.prog 5) 1 65353)) (.loop lRasCe_l65353_code)] from by kernel_rfl) lRasCe_l65353_sok (LOK_nil')))
def lRasCe_s0 (x0_0 x0_1 x0_2 x0_3 x0_4 x0_5 x0_6 x0_7 x0_8 x0_9 x0_10 x0_11 x0_12 x0_13 x0_14 x0_15 x0_16 x0_17 x0_18 x0_19 x0_20 x0_21 x0_22 x0_23 x0_24 x1_0 x1_1 x1_2 x1_3 : Int) : List (List Int) := lc (sm13Tri_0 x0_0 x0_1 x0_2 x0_3 x0_4 x0_5 x0_24) (sm13Tri_1 x0_0 x0_1 x0_2 x0_3 x0_4 x0_5 x0_24) (sm13Tri_2 x0_0 x0_1 x0_2 x0_3 x0_4 x0_5 x0_24) (sm13Tri_3 x0_0 x0_1 x0_2 x0_3 x0_4 x0_5 x0_24) (sm13Tri_4 x0_0 x0_1 x0_2 x0_3 x0_4 x0_5 x0_24) (sm13Tri_5 x0_0 x0_1 x0_2 x0_3 x0_4 x0_5 x0_24) (IntKind.wrap IntKind.i64 x0_6) (IntKind.wrap IntKind.i64 x0_7) (IntKind.wrap IntKind.i64 x0_8) (sm13Tri_6 x0_9) (sm13Tri_7 x0_10) (sm13Tri_8 x0_11) (IntKind.wrap IntKind.i64 x0_12) (IntKind.wrap IntKind.i64 x0_13) (IntKind.wrap IntKind.i64 x0_14) (IntKind.wrap IntKind.i64 x0_15) (IntKind.wrap IntKind.i64 x0_16) (IntKind.wrap IntKind.i64 x0_17) (IntKind.wrap IntKind.i64 x0_18) (IntKind.wrap IntKind.i64 x0_19) (IntKind.wrap IntKind.i64 x0_20) (IntKind.wrap IntKind.i64 x0_21) (IntKind.wrap IntKind.i64 x0_22) (IntKind.wrap IntKind.i64 x0_23) (l18box_0 x1_0) (l18box_1 x1_1) (l18box_2 x1_2) (l18box_3 x1_3)
def lRasCe_s1 (x0_0 x0_1 x0_2 x0_3 x0_4 x0_5 x0_6 x0_7 x0_8 x0_9 x0_10 x0_11 x0_12 x0_13 x0_14 x0_15 x0_16 x0_17 x0_18 x0_19 x0_20 x0_21 x0_22 x0_23 x0_24 x1_0 x1_1 x1_2 x1_3 : Int) : Int := Int.ofNat (List.length (lRasCe_s0 x0_0 x0_1 x0_2 x0_3 x0_4 x0_5 x0_6 x0_7 x0_8 x0_9 x0_10 x0_11 x0_12 x0_13 x0_14 x0_15 x0_16 x0_17 x0_18 x0_19 x0_20 x0_21 x0_22 x0_23 x0_24 x1_0 x1_1 x1_2 x1_3))
def lRasCe_s2 (x0_0 x0_1 x0_2 x0_3 x0_4 x0_5 x0_6 x0_7 x0_8 x0_9 x0_10 x0_11 x0_12 x0_13 x0_14 x0_15 x0_16 x0_17 x0_18 x0_19 x0_20 x0_21 x0_22 x0_23 x0_24 x1_0 x1_1 x1_2 x1_3 : Int) : Option (X × lRasCe_l1021_T) := lrun lRasCe_l1021_st (18446744073709551616 : Nat) (lRasCe_l1021_T.mk false (0 : Int) (if l18box_1 x1_1 < (0 : Int) then (0 : Int) else l18box_1 x1_1) (sm13Tri_0 x0_0 x0_1 x0_2 x0_3 x0_4 x0_5 x0_24) (sm13Tri_1 x0_0 x0_1 x0_2 x0_3 x0_4 x0_5 x0_24) (sm13Tri_2 x0_0 x0_1 x0_2 x0_3 x0_4 x0_5 x0_24) (sm13Tri_3 x0_0 x0_1 x0_2 x0_3 x0_4 x0_5 x0_24) (sm13Tri_4 x0_0 x0_1 x0_2 x0_3 x0_4 x0_5 x0_24) (sm13Tri_5 x0_0 x0_1 x0_2 x0_3 x0_4 x0_5 x0_24) (IntKind.wrap IntKind.i64 x0_6) (IntKind.wrap IntKind.i64 x0_7) (IntKind.wrap IntKind.i64 x0_8) (sm13Tri_6 x0_9) (sm13Tri_7 x0_10) (sm13Tri_8 x0_11) (IntKind.wrap IntKind.i64 x0_12) (IntKind.wrap IntKind.i64 x0_13) (IntKind.wrap IntKind.i64 x0_14) (IntKind.wrap IntKind.i64 x0_15) (IntKind.wrap IntKind.i64 x0_16) (IntKind.wrap IntKind.i64 x0_17) (IntKind.wrap IntKind.i64 x0_18) (IntKind.wrap IntKind.i64 x0_19) (IntKind.wrap IntKind.i64 x0_20) (IntKind.wrap IntKind.i64 x0_21) (IntKind.wrap IntKind.i64 x0_22) (IntKind.wrap IntKind.i64 x0_23) (l18box_0 x1_0) (l18box_1 x1_1) (l18box_2 x1_2) (l18box_3 x1_3) (lRasCe_s0 x0_0 x0_1 x0_2 x0_3 x0_4 x0_5 x0_6 x0_7 x0_8 x0_9 x0_10 x0_11 x0_12 x0_13 x0_14 x0_15 x0_16 x0_17 x0_18 x0_19 x0_20 x0_21 x0_22 x0_23 x0_24 x1_0 x1_1 x1_2 x1_3))
def lRasCe_0 (x0_0 x0_1 x0_2 x0_3 x0_4 x0_5 x0_6 x0_7 x0_8 x0_9 x0_10 x0_11 x0_12 x0_13 x0_14 x0_15 x0_16 x0_17 x0_18 x0_19 x0_20 x0_21 x0_22 x0_23 x0_24 x1_0 x1_1 x1_2 x1_3 : Int) : Bool := bif !l18Aw_0 then false else bif !sm13Tri_9 x0_0 x0_1 x0_2 x0_3 x0_4 x0_5 x0_24 then lRasCe_s1 x0_0 x0_1 x0_2 x0_3 x0_4 x0_5 x0_6 x0_7 x0_8 x0_9 x0_10 x0_11 x0_12 x0_13 x0_14 x0_15 x0_16 x0_17 x0_18 x0_19 x0_20 x0_21 x0_22 x0_23 x0_24 x1_0 x1_1 x1_2 x1_3 == (0 : Int) else bif isX X.r (lRasCe_s2 x0_0 x0_1 x0_2 x0_3 x0_4 x0_5 x0_6 x0_7 x0_8 x0_9 x0_10 x0_11 x0_12 x0_13 x0_14 x0_15 x0_16 x0_17 x0_18 x0_19 x0_20 x0_21 x0_22 x0_23 x0_24 x1_0 x1_1 x1_2 x1_3) then lRasCe_l1021_T.a0 (V.valOf (lRasCe_s2 x0_0 x0_1 x0_2 x0_3 x0_4 x0_5 x0_6 x0_7 x0_8 x0_9 x0_10 x0_11 x0_12 x0_13 x0_14 x0_15 x0_16 x0_17 x0_18 x0_19 x0_20 x0_21 x0_22 x0_23 x0_24 x1_0 x1_1 x1_2 x1_3)) else lRasCe_l1021_T.a1 (V.valOf (lRasCe_s2 x0_0 x0_1 x0_2 x0_3 x0_4 x0_5 x0_6 x0_7 x0_8 x0_9 x0_10 x0_11 x0_12 x0_13 x0_14 x0_15 x0_16 x0_17 x0_18 x0_19 x0_20 x0_21 x0_22 x0_23 x0_24 x1_0 x1_1 x1_2 x1_3)) == lRasCe_s1 x0_0 x0_1 x0_2 x0_3 x0_4 x0_5 x0_6 x0_7 x0_8 x0_9 x0_10 x0_11 x0_12 x0_13 x0_14 x0_15 x0_16 x0_17 x0_18 x0_19 x0_20 x0_21 x0_22 x0_23 x0_24 x1_0 x1_1 x1_2 x1_3
def lRasCe_o (x0_0 x0_1 x0_2 x0_3 x0_4 x0_5 x0_6 x0_7 x0_8 x0_9 x0_10 x0_11 x0_12 x0_13 x0_14 x0_15 x0_16 x0_17 x0_18 x0_19 x0_20 x0_21 x0_22 x0_23 x0_24 x1_0 x1_1 x1_2 x1_3 : Int) : List Prop := [(!!l18Aw_0) = true → (!!sm13Tri_9 x0_0 x0_1 x0_2 x0_3 x0_4 x0_5 x0_24) = true → lok lRasCe_l1021_st (18446744073709551616 : Nat) (lRasCe_l1021_T.mk false (0 : Int) (if l18box_1 x1_1 < (0 : Int) then (0 : Int) else l18box_1 x1_1) (sm13Tri_0 x0_0 x0_1 x0_2 x0_3 x0_4 x0_5 x0_24) (sm13Tri_1 x0_0 x0_1 x0_2 x0_3 x0_4 x0_5 x0_24) (sm13Tri_2 x0_0 x0_1 x0_2 x0_3 x0_4 x0_5 x0_24) (sm13Tri_3 x0_0 x0_1 x0_2 x0_3 x0_4 x0_5 x0_24) (sm13Tri_4 x0_0 x0_1 x0_2 x0_3 x0_4 x0_5 x0_24) (sm13Tri_5 x0_0 x0_1 x0_2 x0_3 x0_4 x0_5 x0_24) (IntKind.wrap IntKind.i64 x0_6) (IntKind.wrap IntKind.i64 x0_7) (IntKind.wrap IntKind.i64 x0_8) (sm13Tri_6 x0_9) (sm13Tri_7 x0_10) (sm13Tri_8 x0_11) (IntKind.wrap IntKind.i64 x0_12) (IntKind.wrap IntKind.i64 x0_13) (IntKind.wrap IntKind.i64 x0_14) (IntKind.wrap IntKind.i64 x0_15) (IntKind.wrap IntKind.i64 x0_16) (IntKind.wrap IntKind.i64 x0_17) (IntKind.wrap IntKind.i64 x0_18) (IntKind.wrap IntKind.i64 x0_19) (IntKind.wrap IntKind.i64 x0_20) (IntKind.wrap IntKind.i64 x0_21) (IntKind.wrap IntKind.i64 x0_22) (IntKind.wrap IntKind.i64 x0_23) (l18box_0 x1_0) (l18box_1 x1_1) (l18box_2 x1_2) (l18box_3 x1_3) (lRasCe_s0 x0_0 x0_1 x0_2 x0_3 x0_4 x0_5 x0_6 x0_7 x0_8 x0_9 x0_10 x0_11 x0_12 x0_13 x0_14 x0_15 x0_16 x0_17 x0_18 x0_19 x0_20 x0_21 x0_22 x0_23 x0_24 x1_0 x1_1 x1_2 x1_3))]
theorem lRasCe_p (x0_0 x0_1 x0_2 x0_3 x0_4 x0_5 x0_6 x0_7 x0_8 x0_9 x0_10 x0_11 x0_12 x0_13 x0_14 x0_15 x0_16 x0_17 x0_18 x0_19 x0_20 x0_21 x0_22 x0_23 x0_24 x1_0 x1_1 x1_2 x1_3 : Int) : evG Try.prog tabRd1 2000 5 [0, 1, 2, 3, 4, 5, 6, 7, 8, 9, 10, 11, 12, 13, 14, 16, 28, 39, 49, 62, 78] [(1021, lRasCe_l1021_sum), (65353, lRasCe_l65353_sum)] [] [.g [.int true .i8 x0_0, .int true .i8 x0_1, .int true .i8 x0_2, .int true .i8 x0_3, .int true .i8 x0_4, .int true .i8 x0_5, .int true .u16 x0_6, .int true .u16 x0_7, .int true .u16 x0_8, .int true .u16 x0_9, .int true .u16 x0_10, .int true .u16 x0_11, .int true .u16 x0_12, .int true .u16 x0_13, .int true .u16 x0_14, .int true .u16 x0_15, .int true .u16 x0_16, .int true .u16 x0_17, .int true .u16 x0_18, .int true .u16 x0_19, .int true .u16 x0_20, .int true .u16 x0_21, .int true .u16 x0_22, .int true .u16 x0_23, .int true .u8 x0_24], .g [.int true .u8 x1_0, .int true .u8 x1_1, .int true .u8 x1_2, .int true .u8 x1_3]] [] = some (lRasCe_o x0_0 x0_1 x0_2 x0_3 x0_4 x0_5 x0_6 x0_7 x0_8 x0_9 x0_10 x0_11 x0_12 x0_13 x0_14 x0_15 x0_16 x0_17 x0_18 x0_19 x0_20 x0_21 x0_22 x0_23 x0_24 x1_0 x1_1 x1_2 x1_3, LV.a (At.bool true (lRasCe_0 x0_0 x0_1 x0_2 x0_3 x0_4 x0_5 x0_6 x0_7 x0_8 x0_9 x0_10 x0_11 x0_12 x0_13 x0_14 x0_15 x0_16 x0_17 x0_18 x0_19 x0_20 x0_21 x0_22 x0_23 x0_24 x1_0 x1_1 x1_2 x1_3)), []) := by kernel_rfl
def lRasCe_c : Con
  | [.g [.int true .i8 x0_0, .int true .i8 x0_1, .int true .i8 x0_2, .int true .i8 x0_3, .int true .i8 x0_4, .int true .i8 x0_5, .int true .u16 x0_6, .int true .u16 x0_7, .int true .u16 x0_8, .int true .u16 x0_9, .int true .u16 x0_10, .int true .u16 x0_11, .int true .u16 x0_12, .int true .u16 x0_13, .int true .u16 x0_14, .int true .u16 x0_15, .int true .u16 x0_16, .int true .u16 x0_17, .int true .u16 x0_18, .int true .u16 x0_19, .int true .u16 x0_20, .int true .u16 x0_21, .int true .u16 x0_22, .int true .u16 x0_23, .int true .u8 x0_24], .g [.int true .u8 x1_0, .int true .u8 x1_1, .int true .u8 x1_2, .int true .u8 x1_3]], [] => some (lRasCe_o x0_0 x0_1 x0_2 x0_3 x0_4 x0_5 x0_6 x0_7 x0_8 x0_9 x0_10 x0_11 x0_12 x0_13 x0_14 x0_15 x0_16 x0_17 x0_18 x0_19 x0_20 x0_21 x0_22 x0_23 x0_24 x1_0 x1_1 x1_2 x1_3, LV.a (At.bool true (lRasCe_0 x0_0 x0_1 x0_2 x0_3 x0_4 x0_5 x0_6 x0_7 x0_8 x0_9 x0_10 x0_11 x0_12 x0_13 x0_14 x0_15 x0_16 x0_17 x0_18 x0_19 x0_20 x0_21 x0_22 x0_23 x0_24 x1_0 x1_1 x1_2 x1_3)), [])
  | _, _ => none
theorem lRasCe_ok : ConOK Try.prog 5 (normC lRasCe_c) := normC_ok (by
  intro args bs obs lv out h ho φ vs w may ha hM
  unfold lRasCe_c at h
  split at h
  · simp only [Option.some.injEq, Prod.mk.injEq] at h
    obtain ⟨rfl, rfl, rfl⟩ := h
    rename_i x0_0 x0_1 x0_2 x0_3 x0_4 x0_5 x0_6 x0_7 x0_8 x0_9 x0_10 x0_11 x0_12 x0_13 x0_14 x0_15 x0_16 x0_17 x0_18 x0_19 x0_20 x0_21 x0_22 x0_23 x0_24 x1_0 x1_1 x1_2 x1_3
    exact evG_okL' tabRd1_ok follows (LOK_cons (show subs (bodyOf Try.prog 5) 1 1021 = [.block (blockOf (subs (bodyOf Try.prog 5) 1 1021)) (.loop lRasCe_l1021_code)] from by kernel_rfl) lRasCe_l1021_sok (LOK_cons (show subs (bodyOf Try.prog 5) 1 65353 = [.block (blockOf (subs (bodyOf Try.prog 5) 1 65353)) (.loop lRasCe_l65353_code)] from by kernel_rfl) lRasCe_l65353_sok (LOK_nil'))) _ _ _ _ _ (lRasCe_p x0_0 x0_1 x0_2 x0_3 x0_4 x0_5 x0_6 x0_7 x0_8 x0_9 x0_10 x0_11 x0_12 x0_13 x0_14 x0_15 x0_16 x0_17 x0_18 x0_19 x0_20 x0_21 x0_22 x0_23 x0_24 x1_0 x1_1 x1_2 x1_3) ho φ vs w may ha hM
  · cases h)
theorem lRasCe_en : Enters Try.prog 5 := fun args => by kernel_rfl
-- 14057 3740 26 ms

def tabRd3 : Tab := (5, normC lRasCe_c) :: tabRd1
theorem tabRd3_ok : TOK Try.prog tabRd3 := TOK.cons lRasCe_en lRasCe_ok (tabRd1_ok)

end Go.Proofs.Ytcdejlgophpdjaa
end

section
namespace Go.Proofs.Ytcdejlgophpdjaa
open Go Go.RowKit Go.Proofs.Ytcdejlgophpdjaa.V
set_option linter.unusedVariables false
set_option linter.unusedSectionVars false

namespace Ra
theorem rowX_app (t : Nat → Int) (y : Int) : ∀ (n : Nat) (x : Int) (l : List (List Int)), rowX t y n x l = l ++ rowX t y n x []
  | 0, x, l => by unfold rowX; rw [List.append_nil]
  | n + 1, x, l => by
    unfold rowX
    cases Ra.at5 t x y with
    | false => exact rowX_app t y n (x + 1) l
    | true =>
      rw [cond_true, cond_true, rowX_app t y n (x + 1) (l ++ [row t x y]), rowX_app t y n (x + 1) ([] ++ [row t x y]), List.nil_append, List.append_assoc]
theorem rowsY_app (t : Nat → Int) (m : Nat) (a : Int) : ∀ (n : Nat) (y : Int) (l : List (List Int)), rowsY t m a n y l = l ++ rowsY t m a n y []
  | 0, y, l => by unfold rowsY; rw [List.append_nil]
  | n + 1, y, l => by
    unfold rowsY
    rw [rowsY_app t m a n (y + 1) (rowX t y m a l), rowsY_app t m a n (y + 1) (rowX t y m a []), rowX_app t y m a l, List.append_assoc]
theorem rget_at (p r : List (List Int)) (q : List Int) (j : Nat) : rget (p ++ q :: r) p.length j = q.getD j 0 := by
  unfold rget
  rw [show (p ++ q :: r).getD p.length [] = q from by rw [List.getD_eq_getElem?_getD, List.getElem?_append_right (Nat.le_refl _), Nat.sub_self]; rfl]
section
variable {pa pb pc pd pe pf z0 z1 z2 n0 n1 n2 k00 k01 k02 k03 k10 k11 k12 k13 k20 k21 k22 k23 : Int} (H : TB pa pb pc pd pe pf z0 z1 z2 n0 n1 n2 k00 k01 k02 k03 k10 k11 k12 k13 k20 k21 k22 k23) (b0 b1 b2 b3 : Int)
include H
section
variable {x y : Int} (hx : 0 ≤ x ∧ x ≤ 63) (hy : 0 ≤ y ∧ y ≤ 63)
include hx hy
theorem r0 : r12At_0 pa pb pc pd pe pf z0 z1 z2 x y = Ra.at0 (tg pa pb pc pd pe pf z0 z1 z2 n0 n1 n2 k00 k01 k02 k03 k10 k11 k12 k13 k20 k21 k22 k23) x y := (rat_0 H hx hy).trans (sat_0 H hx hy).symm
theorem r1 : r12At_1 pa pb pc pd pe pf n0 n1 n2 k00 k10 k20 x y = Ra.at1 (tg pa pb pc pd pe pf z0 z1 z2 n0 n1 n2 k00 k01 k02 k03 k10 k11 k12 k13 k20 k21 k22 k23) x y := (rat_1 H hx hy).trans (sat_1 H hx hy).symm
theorem r2 : r12At_2 pa pb pc pd pe pf n0 n1 n2 k01 k11 k21 x y = Ra.at2 (tg pa pb pc pd pe pf z0 z1 z2 n0 n1 n2 k00 k01 k02 k03 k10 k11 k12 k13 k20 k21 k22 k23) x y := (rat_2 H hx hy).trans (sat_2 H hx hy).symm
theorem r3 : r12At_3 pa pb pc pd pe pf n0 n1 n2 k02 k12 k22 x y = Ra.at3 (tg pa pb pc pd pe pf z0 z1 z2 n0 n1 n2 k00 k01 k02 k03 k10 k11 k12 k13 k20 k21 k22 k23) x y := (rat_3 H hx hy).trans (sat_3 H hx hy).symm
theorem r4 : r12At_4 pa pb pc pd pe pf n0 n1 n2 k03 k13 k23 x y = Ra.at4 (tg pa pb pc pd pe pf z0 z1 z2 n0 n1 n2 k00 k01 k02 k03 k10 k11 k12 k13 k20 k21 k22 k23) x y := (rat_4 H hx hy).trans (sat_4 H hx hy).symm
theorem r5 : r12At_5 pa pb pc pd pe pf x y = Ra.at5 (tg pa pb pc pd pe pf z0 z1 z2 n0 n1 n2 k00 k01 k02 k03 k10 k11 k12 k13 k20 k21 k22 k23) x y := (rat_5 H hx hy).trans (sat_5 H hx hy).symm
end

theorem ce_s0 (i y x G) : lRasCe_l65353_s0 (.mk false i y x true pa pb pc pd pe pf z0 z1 z2 n0 n1 n2 k00 k01 k02 k03 k10 k11 k12 k13 k20 k21 k22 k23 b0 b1 b2 b3 G : lRasCe_l65353_T) = decide (x < up b2) := rfl
theorem ce_s1 {x y : Int} (hx : 0 ≤ x ∧ x ≤ 63) (hy : 0 ≤ y ∧ y ≤ 63) (i G) : lRasCe_l65353_s1 (.mk false i y x true pa pb pc pd pe pf z0 z1 z2 n0 n1 n2 k00 k01 k02 k03 k10 k11 k12 k13 k20 k21 k22 k23 b0 b1 b2 b3 G : lRasCe_l65353_T) = !Ra.at5 (tg pa pb pc pd pe pf z0 z1 z2 n0 n1 n2 k00 k01 k02 k03 k10 k11 k12 k13 k20 k21 k22 k23) x y := by
  show (!r12At_5 pa pb pc pd pe pf x y) = _
  rw [r5 H hx hy]
theorem ce_s3 {x y : Int} (hx : 0 ≤ x ∧ x ≤ 63) (hy : 0 ≤ y ∧ y ≤ 63) (p r : List (List Int)) : lRasCe_l65353_s3 (.mk false (Int.ofNat p.length) y x true pa pb pc pd pe pf z0 z1 z2 n0 n1 n2 k00 k01 k02 k03 k10 k11 k12 k13 k20 k21 k22 k23 b0 b1 b2 b3 (p ++ row (tg pa pb pc pd pe pf z0 z1 z2 n0 n1 n2 k00 k01 k02 k03 k10 k11 k12 k13 k20 k21 k22 k23) x y :: r) : lRasCe_l65353_T) = false := by
  have q : ∀ j, rget (p ++ row (tg pa pb pc pd pe pf z0 z1 z2 n0 n1 n2 k00 k01 k02 k03 k10 k11 k12 k13 k20 k21 k22 k23) x y :: r) p.length j = (row (tg pa pb pc pd pe pf z0 z1 z2 n0 n1 n2 k00 k01 k02 k03 k10 k11 k12 k13 k20 k21 k22 k23) x y).getD j 0 := fun j => rget_at p r _ j
  have q0 : rget (p ++ row (tg pa pb pc pd pe pf z0 z1 z2 n0 n1 n2 k00 k01 k02 k03 k10 k11 k12 k13 k20 k21 k22 k23) x y :: r) p.length 0 = x := q 0
  have q1 : rget (p ++ row (tg pa pb pc pd pe pf z0 z1 z2 n0 n1 n2 k00 k01 k02 k03 k10 k11 k12 k13 k20 k21 k22 k23) x y :: r) p.length 1 = y := q 1
  have q2 : rget (p ++ row (tg pa pb pc pd pe pf z0 z1 z2 n0 n1 n2 k00 k01 k02 k03 k10 k11 k12 k13 k20 k21 k22 k23) x y :: r) p.length 2 = Ra.at0 (tg pa pb pc pd pe pf z0 z1 z2 n0 n1 n2 k00 k01 k02 k03 k10 k11 k12 k13 k20 k21 k22 k23) x y := q 2
  have q3 : rget (p ++ row (tg pa pb pc pd pe pf z0 z1 z2 n0 n1 n2 k00 k01 k02 k03 k10 k11 k12 k13 k20 k21 k22 k23) x y :: r) p.length 3 = Ra.at1 (tg pa pb pc pd pe pf z0 z1 z2 n0 n1 n2 k00 k01 k02 k03 k10 k11 k12 k13 k20 k21 k22 k23) x y := q 3
  have q4 : rget (p ++ row (tg pa pb pc pd pe pf z0 z1 z2 n0 n1 n2 k00 k01 k02 k03 k10 k11 k12 k13 k20 k21 k22 k23) x y :: r) p.length 4 = Ra.at2 (tg pa pb pc pd pe pf z0 z1 z2 n0 n1 n2 k00 k01 k02 k03 k10 k11 k12 k13 k20 k21 k22 k23) x y := q 4
  have q5 : rget (p ++ row (tg pa pb pc pd pe pf z0 z1 z2 n0 n1 n2 k00 k01 k02 k03 k10 k11 k12 k13 k20 k21 k22 k23) x y :: r) p.length 5 = Ra.at3 (tg pa pb pc pd pe pf z0 z1 z2 n0 n1 n2 k00 k01 k02 k03 k10 k11 k12 k13 k20 k21 k22 k23) x y := q 5
  have q6 : rget (p ++ row (tg pa pb pc pd pe pf z0 z1 z2 n0 n1 n2 k00 k01 k02 k03 k10 k11 k12 k13 k20 k21 k22 k23) x y :: r) p.length 6 = Ra.at4 (tg pa pb pc pd pe pf z0 z1 z2 n0 n1 n2 k00 k01 k02 k03 k10 k11 k12 k13 k20 k21 k22 k23) x y := q 6
  have e2 : decide (Int.ofNat (p ++ row (tg pa pb pc pd pe pf z0 z1 z2 n0 n1 n2 k00 k01 k02 k03 k10 k11 k12 k13 k20 k21 k22 k23) x y :: r).length ≤ Int.ofNat p.length) = false := decide_eq_false (by
    rw [List.length_append, List.length_cons]
    intro h
    have := Int.ofNat_le.1 h
    omega)
  have e : lRasCe_l65353_s3 (.mk false (Int.ofNat p.length) y x true pa pb pc pd pe pf z0 z1 z2 n0 n1 n2 k00 k01 k02 k03 k10 k11 k12 k13 k20 k21 k22 k23 b0 b1 b2 b3 (p ++ row (tg pa pb pc pd pe pf z0 z1 z2 n0 n1 n2 k00 k01 k02 k03 k10 k11 k12 k13 k20 k21 k22 k23) x y :: r) : lRasCe_l65353_T) = (bif decide (Int.ofNat (p ++ row (tg pa pb pc pd pe pf z0 z1 z2 n0 n1 n2 k00 k01 k02 k03 k10 k11 k12 k13 k20 k21 k22 k23) x y :: r).length ≤ Int.ofNat p.length) then true else !(rget (p ++ row (tg pa pb pc pd pe pf z0 z1 z2 n0 n1 n2 k00 k01 k02 k03 k10 k11 k12 k13 k20 k21 k22 k23) x y :: r) p.length 0 == x && (rget (p ++ row (tg pa pb pc pd pe pf z0 z1 z2 n0 n1 n2 k00 k01 k02 k03 k10 k11 k12 k13 k20 k21 k22 k23) x y :: r) p.length 1 == y && (rget (p ++ row (tg pa pb pc pd pe pf z0 z1 z2 n0 n1 n2 k00 k01 k02 k03 k10 k11 k12 k13 k20 k21 k22 k23) x y :: r) p.length 2 == r12At_0 pa pb pc pd pe pf z0 z1 z2 x y && (rget (p ++ row (tg pa pb pc pd pe pf z0 z1 z2 n0 n1 n2 k00 k01 k02 k03 k10 k11 k12 k13 k20 k21 k22 k23) x y :: r) p.length 3 == r12At_1 pa pb pc pd pe pf n0 n1 n2 k00 k10 k20 x y && (rget (p ++ row (tg pa pb pc pd pe pf z0 z1 z2 n0 n1 n2 k00 k01 k02 k03 k10 k11 k12 k13 k20 k21 k22 k23) x y :: r) p.length 4 == r12At_2 pa pb pc pd pe pf n0 n1 n2 k01 k11 k21 x y && (rget (p ++ row (tg pa pb pc pd pe pf z0 z1 z2 n0 n1 n2 k00 k01 k02 k03 k10 k11 k12 k13 k20 k21 k22 k23) x y :: r) p.length 5 == r12At_3 pa pb pc pd pe pf n0 n1 n2 k02 k12 k22 x y && rget (p ++ row (tg pa pb pc pd pe pf z0 z1 z2 n0 n1 n2 k00 k01 k02 k03 k10 k11 k12 k13 k20 k21 k22 k23) x y :: r) p.length 6 == r12At_4 pa pb pc pd pe pf n0 n1 n2 k03 k13 k23 x y))))))) := rfl
  rw [e, e2, r0 H hx hy, r1 H hx hy, r2 H hx hy, r3 H hx hy, r4 H hx hy, q0, q1, q2, q3, q4, q5, q6]
  simp
theorem ce_ob {x y : Int} (hx : 0 ≤ x ∧ (x < up b2 → x ≤ 63)) (hy : 0 ≤ y ∧ y ≤ 63) (n : Nat) (G : List (List Int)) : Alls (lRasCe_l65353_st (.mk false (Int.ofNat n) y x true pa pb pc pd pe pf z0 z1 z2 n0 n1 n2 k00 k01 k02 k03 k10 k11 k12 k13 k20 k21 k22 k23 b0 b1 b2 b3 G : lRasCe_l65353_T)).1 := by
  unfold lRasCe_l65353_st
  rw [ce_s0 H]
  have k : decide (x < up b2) = true → (!r12At_s2 pa pb pc pd pe pf x y) = true → r12At_s6 pa pb pc pd pe pf n0 n1 n2 x y ≠ 0 ∧ rSide_0 pa pb pc pd pe pf ≠ 0 := fun h => rat_obs H ⟨hx.1, hx.2 (of_decide_eq_true h)⟩ hy
  refine ⟨fun h g => (k h g).1, fun h g => (k h g).1, fun h g => (k h g).1, fun h g => (k h g).1, fun h g => (k h g).2, fun _ _ h => ?_, trivial⟩
  have h' : decide (Int.ofNat (List.length G) ≤ Int.ofNat n) = false := h
  have := of_decide_eq_false h'
  exact ⟨Int.natCast_nonneg n, by
    show Int.ofNat n < Int.ofNat G.length
    omega⟩

theorem ce_in {y : Int} (hy : 0 ≤ y ∧ y ≤ 63) (G : List (List Int)) (hG : G.length ≤ 4096) : ∀ (n : Nat) (x : Int) (p r : List (List Int)), 0 ≤ x → (up b2 - x).toNat = n → G = p ++ rowX (tg pa pb pc pd pe pf z0 z1 z2 n0 n1 n2 k00 k01 k02 k03 k10 k11 k12 k13 k20 k21 k22 k23) y n x [] ++ r → ∀ f, n < f →
    (∃ x', lrun lRasCe_l65353_st f (.mk false (Int.ofNat p.length) y x true pa pb pc pd pe pf z0 z1 z2 n0 n1 n2 k00 k01 k02 k03 k10 k11 k12 k13 k20 k21 k22 k23 b0 b1 b2 b3 G : lRasCe_l65353_T) = some (.e 2, (.mk false (Int.ofNat (p ++ rowX (tg pa pb pc pd pe pf z0 z1 z2 n0 n1 n2 k00 k01 k02 k03 k10 k11 k12 k13 k20 k21 k22 k23) y n x []).length) y x' true pa pb pc pd pe pf z0 z1 z2 n0 n1 n2 k00 k01 k02 k03 k10 k11 k12 k13 k20 k21 k22 k23 b0 b1 b2 b3 G : lRasCe_l65353_T))) ∧ lok lRasCe_l65353_st f (.mk false (Int.ofNat p.length) y x true pa pb pc pd pe pf z0 z1 z2 n0 n1 n2 k00 k01 k02 k03 k10 k11 k12 k13 k20 k21 k22 k23 b0 b1 b2 b3 G : lRasCe_l65353_T)
  | n, x, p, r, hx, hn, hg, 0, hf => by omega
  | 0, x, p, r, hx, hn, hg, f + 1, hf => by
    have ob := ce_ob H b0 b1 b2 b3 (x := x) ⟨hx, fun h => by omega⟩ hy p.length G
    have e : pick1 (lRasCe_l65353_st (.mk false (Int.ofNat p.length) y x true pa pb pc pd pe pf z0 z1 z2 n0 n1 n2 k00 k01 k02 k03 k10 k11 k12 k13 k20 k21 k22 k23 b0 b1 b2 b3 G : lRasCe_l65353_T)).2 = some (.e 2, (.mk false (Int.ofNat p.length) y x true pa pb pc pd pe pf z0 z1 z2 n0 n1 n2 k00 k01 k02 k03 k10 k11 k12 k13 k20 k21 k22 k23 b0 b1 b2 b3 G : lRasCe_l65353_T)) := by
      unfold lRasCe_l65353_st
      rw [ce_s0 H, decide_eq_false (by omega)]
      rfl
    unfold lrun lok
    rw [e]
    refine ⟨⟨x, ?_⟩, ob, trivial⟩
    unfold rowX
    rw [List.append_nil]
  | n + 1, x, p, r, hx, hn, hg, f + 1, hf => by
    have u := up_le b2
    have hx6 : 0 ≤ x ∧ x ≤ 63 := by omega
    have ob := ce_ob H b0 b1 b2 b3 (x := x) ⟨hx, fun _ => hx6.2⟩ hy p.length G
    have ew : IntKind.wrap .i64 (x + 1) = x + 1 := w64_in (by omega) (by omega)
    unfold lrun lok
    cases hq : Ra.at5 (tg pa pb pc pd pe pf z0 z1 z2 n0 n1 n2 k00 k01 k02 k03 k10 k11 k12 k13 k20 k21 k22 k23) x y with
    | false =>
      have e : pick1 (lRasCe_l65353_st (.mk false (Int.ofNat p.length) y x true pa pb pc pd pe pf z0 z1 z2 n0 n1 n2 k00 k01 k02 k03 k10 k11 k12 k13 k20 k21 k22 k23 b0 b1 b2 b3 G : lRasCe_l65353_T)).2 = some (.n, (.mk false (Int.ofNat p.length) y (x + 1) true pa pb pc pd pe pf z0 z1 z2 n0 n1 n2 k00 k01 k02 k03 k10 k11 k12 k13 k20 k21 k22 k23 b0 b1 b2 b3 G : lRasCe_l65353_T)) := by
        unfold lRasCe_l65353_st
        rw [ce_s0 H, decide_eq_true (by omega : x < up b2), ce_s1 H b0 b1 b2 b3 hx6 hy, hq]
        show some (X.n, (.mk false (Int.ofNat p.length) y (IntKind.wrap .i64 (x + 1)) true pa pb pc pd pe pf z0 z1 z2 n0 n1 n2 k00 k01 k02 k03 k10 k11 k12 k13 k20 k21 k22 k23 b0 b1 b2 b3 G : lRasCe_l65353_T)) = _
        rw [ew]
      have hg' : G = p ++ rowX (tg pa pb pc pd pe pf z0 z1 z2 n0 n1 n2 k00 k01 k02 k03 k10 k11 k12 k13 k20 k21 k22 k23) y n (x + 1) [] ++ r := by
        rw [hg]; congr 2
        conv => lhs; unfold rowX
        rw [hq]; rfl
      obtain ⟨⟨x', i1⟩, i2⟩ := ce_in hy G hG n (x + 1) p r (by omega) (by omega) hg' f (by omega)
      rw [e]
      refine ⟨⟨x', ?_⟩, ob, i2⟩
      have er : rowX (tg pa pb pc pd pe pf z0 z1 z2 n0 n1 n2 k00 k01 k02 k03 k10 k11 k12 k13 k20 k21 k22 k23) y (n + 1) x [] = rowX (tg pa pb pc pd pe pf z0 z1 z2 n0 n1 n2 k00 k01 k02 k03 k10 k11 k12 k13 k20 k21 k22 k23) y n (x + 1) [] := by
        conv => lhs; unfold rowX
        rw [hq]; rfl
      rw [er]
      exact i1
    | true =>
      have er : rowX (tg pa pb pc pd pe pf z0 z1 z2 n0 n1 n2 k00 k01 k02 k03 k10 k11 k12 k13 k20 k21 k22 k23) y (n + 1) x [] = row (tg pa pb pc pd pe pf z0 z1 z2 n0 n1 n2 k00 k01 k02 k03 k10 k11 k12 k13 k20 k21 k22 k23) x y :: rowX (tg pa pb pc pd pe pf z0 z1 z2 n0 n1 n2 k00 k01 k02 k03 k10 k11 k12 k13 k20 k21 k22 k23) y n (x + 1) [] := by
        conv => lhs; unfold rowX
        rw [hq, cond_true, List.nil_append, rowX_app]; rfl
      have hg1 : G = p ++ row (tg pa pb pc pd pe pf z0 z1 z2 n0 n1 n2 k00 k01 k02 k03 k10 k11 k12 k13 k20 k21 k22 k23) x y :: (rowX (tg pa pb pc pd pe pf z0 z1 z2 n0 n1 n2 k00 k01 k02 k03 k10 k11 k12 k13 k20 k21 k22 k23) y n (x + 1) [] ++ r) := by rw [hg, er, List.append_assoc]; rfl
      have s3 := ce_s3 H b0 b1 b2 b3 hx6 hy p (rowX (tg pa pb pc pd pe pf z0 z1 z2 n0 n1 n2 k00 k01 k02 k03 k10 k11 k12 k13 k20 k21 k22 k23) y n (x + 1) [] ++ r)
      rw [← hg1] at s3
      have hpl : p.length < G.length := by rw [hg1, List.length_append, List.length_cons]; omega
      have ei : IntKind.wrap .i64 (Int.ofNat p.length + 1) = Int.ofNat (p ++ [row (tg pa pb pc pd pe pf z0 z1 z2 n0 n1 n2 k00 k01 k02 k03 k10 k11 k12 k13 k20 k21 k22 k23) x y]).length := by
        have ek : Int.ofNat p.length = (p.length : Int) := rfl
        rw [w64_in (by omega) (by omega), List.length_append]; rfl
      have e : pick1 (lRasCe_l65353_st (.mk false (Int.ofNat p.length) y x true pa pb pc pd pe pf z0 z1 z2 n0 n1 n2 k00 k01 k02 k03 k10 k11 k12 k13 k20 k21 k22 k23 b0 b1 b2 b3 G : lRasCe_l65353_T)).2 = some (.n, (.mk false (Int.ofNat (p ++ [row (tg pa pb pc pd pe pf z0 z1 z2 n0 n1 n2 k00 k01 k02 k03 k10 k11 k12 k13 k20 k21 k22 k23) x y]).length) y (x + 1) true pa pb pc pd pe pf z0 z1 z2 n0 n1 n2 k00 k01 k02 k03 k10 k11 k12 k13 k20 k21 k22 k23 b0 b1 b2 b3 G : lRasCe_l65353_T)) := by
        unfold lRasCe_l65353_st
        rw [ce_s0 H, decide_eq_true (by omega : x < up b2), ce_s1 H b0 b1 b2 b3 hx6 hy, hq, s3]
        show some (X.n, (.mk false (IntKind.wrap .i64 (Int.ofNat p.length + 1)) y (IntKind.wrap .i64 (x + 1)) true pa pb pc pd pe pf z0 z1 z2 n0 n1 n2 k00 k01 k02 k03 k10 k11 k12 k13 k20 k21 k22 k23 b0 b1 b2 b3 G : lRasCe_l65353_T)) = _
        rw [ew, ei]
      have hg' : G = (p ++ [row (tg pa pb pc pd pe pf z0 z1 z2 n0 n1 n2 k00 k01 k02 k03 k10 k11 k12 k13 k20 k21 k22 k23) x y]) ++ rowX (tg pa pb pc pd pe pf z0 z1 z2 n0 n1 n2 k00 k01 k02 k03 k10 k11 k12 k13 k20 k21 k22 k23) y n (x + 1) [] ++ r := by rw [hg1]; simp
      obtain ⟨⟨x', i1⟩, i2⟩ := ce_in hy G hG n (x + 1) (p ++ [row (tg pa pb pc pd pe pf z0 z1 z2 n0 n1 n2 k00 k01 k02 k03 k10 k11 k12 k13 k20 k21 k22 k23) x y]) r (by omega) (by omega) hg' f (by omega)
      rw [e]
      refine ⟨⟨x', ?_⟩, ob, i2⟩
      rw [er, show p ++ row (tg pa pb pc pd pe pf z0 z1 z2 n0 n1 n2 k00 k01 k02 k03 k10 k11 k12 k13 k20 k21 k22 k23) x y :: rowX (tg pa pb pc pd pe pf z0 z1 z2 n0 n1 n2 k00 k01 k02 k03 k10 k11 k12 k13 k20 k21 k22 k23) y n (x + 1) [] = p ++ [row (tg pa pb pc pd pe pf z0 z1 z2 n0 n1 n2 k00 k01 k02 k03 k10 k11 k12 k13 k20 k21 k22 k23) x y] ++ rowX (tg pa pb pc pd pe pf z0 z1 z2 n0 n1 n2 k00 k01 k02 k03 k10 k11 k12 k13 k20 k21 k22 k23) y n (x + 1) [] from by simp]
      exact i1

theorem ce_out (G : List (List Int)) (hG : G.length ≤ 4096) (m : Nat) (hm : m = (up b2 - lo b0).toNat) : ∀ (n : Nat) (y : Int) (p : List (List Int)), 0 ≤ y → (up b3 - y).toNat = n → G = p ++ rowsY (tg pa pb pc pd pe pf z0 z1 z2 n0 n1 n2 k00 k01 k02 k03 k10 k11 k12 k13 k20 k21 k22 k23) m (lo b0) n y [] → ∀ f, n < f →
    (∃ y', lrun lRasCe_l1021_st f (.mk false (Int.ofNat p.length) y pa pb pc pd pe pf z0 z1 z2 n0 n1 n2 k00 k01 k02 k03 k10 k11 k12 k13 k20 k21 k22 k23 b0 b1 b2 b3 G : lRasCe_l1021_T) = some (.e 0, (.mk false (Int.ofNat G.length) y' pa pb pc pd pe pf z0 z1 z2 n0 n1 n2 k00 k01 k02 k03 k10 k11 k12 k13 k20 k21 k22 k23 b0 b1 b2 b3 G : lRasCe_l1021_T))) ∧ lok lRasCe_l1021_st f (.mk false (Int.ofNat p.length) y pa pb pc pd pe pf z0 z1 z2 n0 n1 n2 k00 k01 k02 k03 k10 k11 k12 k13 k20 k21 k22 k23 b0 b1 b2 b3 G : lRasCe_l1021_T)
  | n, y, p, hy, hn, hg, 0, hf => by omega
  | 0, y, p, hy, hn, hg, f + 1, hf => by
    have s0 : lRasCe_l1021_s0 (.mk false (Int.ofNat p.length) y pa pb pc pd pe pf z0 z1 z2 n0 n1 n2 k00 k01 k02 k03 k10 k11 k12 k13 k20 k21 k22 k23 b0 b1 b2 b3 G : lRasCe_l1021_T) = false := decide_eq_false (by show ¬ y < up b3; omega)
    have e : pick1 (lRasCe_l1021_st (.mk false (Int.ofNat p.length) y pa pb pc pd pe pf z0 z1 z2 n0 n1 n2 k00 k01 k02 k03 k10 k11 k12 k13 k20 k21 k22 k23 b0 b1 b2 b3 G : lRasCe_l1021_T)).2 = some (.e 0, (.mk false (Int.ofNat p.length) y pa pb pc pd pe pf z0 z1 z2 n0 n1 n2 k00 k01 k02 k03 k10 k11 k12 k13 k20 k21 k22 k23 b0 b1 b2 b3 G : lRasCe_l1021_T)) := by
      unfold lRasCe_l1021_st
      rw [s0]
      rfl
    have ob : Alls (lRasCe_l1021_st (.mk false (Int.ofNat p.length) y pa pb pc pd pe pf z0 z1 z2 n0 n1 n2 k00 k01 k02 k03 k10 k11 k12 k13 k20 k21 k22 k23 b0 b1 b2 b3 G : lRasCe_l1021_T)).1 := by
      unfold lRasCe_l1021_st
      rw [s0]
      exact ⟨nofun, trivial⟩
    unfold lrun lok
    rw [e]
    refine ⟨⟨y, ?_⟩, ob, trivial⟩
    have : G = p := by rw [hg]; unfold rowsY; rw [List.append_nil]
    rw [this]
  | n + 1, y, p, hy, hn, hg, f + 1, hf => by
    have u := up_le b3
    have hy6 : 0 ≤ y ∧ y ≤ 63 := by omega
    have u2 := up_le b2
    have l0 := lo_ge b0
    have s0 : lRasCe_l1021_s0 (.mk false (Int.ofNat p.length) y pa pb pc pd pe pf z0 z1 z2 n0 n1 n2 k00 k01 k02 k03 k10 k11 k12 k13 k20 k21 k22 k23 b0 b1 b2 b3 G : lRasCe_l1021_T) = true := decide_eq_true (by show y < up b3; omega)
    have er : rowsY (tg pa pb pc pd pe pf z0 z1 z2 n0 n1 n2 k00 k01 k02 k03 k10 k11 k12 k13 k20 k21 k22 k23) m (lo b0) (n + 1) y [] = rowX (tg pa pb pc pd pe pf z0 z1 z2 n0 n1 n2 k00 k01 k02 k03 k10 k11 k12 k13 k20 k21 k22 k23) y m (lo b0) [] ++ rowsY (tg pa pb pc pd pe pf z0 z1 z2 n0 n1 n2 k00 k01 k02 k03 k10 k11 k12 k13 k20 k21 k22 k23) m (lo b0) n (y + 1) [] := by
      conv => lhs; unfold rowsY
      rw [rowsY_app]
    have hg1 : G = p ++ rowX (tg pa pb pc pd pe pf z0 z1 z2 n0 n1 n2 k00 k01 k02 k03 k10 k11 k12 k13 k20 k21 k22 k23) y m (lo b0) [] ++ rowsY (tg pa pb pc pd pe pf z0 z1 z2 n0 n1 n2 k00 k01 k02 k03 k10 k11 k12 k13 k20 k21 k22 k23) m (lo b0) n (y + 1) [] := by rw [hg, er, List.append_assoc]
    obtain ⟨⟨x', i1⟩, i2⟩ := ce_in H b0 b1 b2 b3 hy6 G hG m (lo b0) p _ (by omega) hm.symm hg1 18446744073709551616 (by omega)
    have s1 : lRasCe_l1021_s1 (.mk false (Int.ofNat p.length) y pa pb pc pd pe pf z0 z1 z2 n0 n1 n2 k00 k01 k02 k03 k10 k11 k12 k13 k20 k21 k22 k23 b0 b1 b2 b3 G : lRasCe_l1021_T) = some (.e 2, (.mk false (Int.ofNat (p ++ rowX (tg pa pb pc pd pe pf z0 z1 z2 n0 n1 n2 k00 k01 k02 k03 k10 k11 k12 k13 k20 k21 k22 k23) y m (lo b0) []).length) y x' true pa pb pc pd pe pf z0 z1 z2 n0 n1 n2 k00 k01 k02 k03 k10 k11 k12 k13 k20 k21 k22 k23 b0 b1 b2 b3 G : lRasCe_l65353_T)) := by
      unfold lRasCe_l1021_s1
      rw [s0]
      exact i1
    have ew : IntKind.wrap .i64 (y + 1) = y + 1 := w64_in (by omega) (by omega)
    have e : pick1 (lRasCe_l1021_st (.mk false (Int.ofNat p.length) y pa pb pc pd pe pf z0 z1 z2 n0 n1 n2 k00 k01 k02 k03 k10 k11 k12 k13 k20 k21 k22 k23 b0 b1 b2 b3 G : lRasCe_l1021_T)).2 = some (.n, (.mk false (Int.ofNat (p ++ rowX (tg pa pb pc pd pe pf z0 z1 z2 n0 n1 n2 k00 k01 k02 k03 k10 k11 k12 k13 k20 k21 k22 k23) y m (lo b0) []).length) (y + 1) pa pb pc pd pe pf z0 z1 z2 n0 n1 n2 k00 k01 k02 k03 k10 k11 k12 k13 k20 k21 k22 k23 b0 b1 b2 b3 G : lRasCe_l1021_T)) := by
      unfold lRasCe_l1021_st
      rw [s0, s1]
      show some (X.n, (.mk false (Int.ofNat (p ++ rowX (tg pa pb pc pd pe pf z0 z1 z2 n0 n1 n2 k00 k01 k02 k03 k10 k11 k12 k13 k20 k21 k22 k23) y m (lo b0) []).length) (IntKind.wrap .i64 (y + 1)) pa pb pc pd pe pf z0 z1 z2 n0 n1 n2 k00 k01 k02 k03 k10 k11 k12 k13 k20 k21 k22 k23 b0 b1 b2 b3 G : lRasCe_l1021_T)) = _
      rw [ew]
    have ob : Alls (lRasCe_l1021_st (.mk false (Int.ofNat p.length) y pa pb pc pd pe pf z0 z1 z2 n0 n1 n2 k00 k01 k02 k03 k10 k11 k12 k13 k20 k21 k22 k23 b0 b1 b2 b3 G : lRasCe_l1021_T)).1 := by
      unfold lRasCe_l1021_st
      rw [s0]
      exact ⟨fun _ => i2, trivial⟩
    obtain ⟨⟨y', j1⟩, j2⟩ := ce_out G hG m hm n (y + 1) _ (by omega) (by omega) hg1 f (by omega)
    unfold lrun lok
    rw [e]
    exact ⟨⟨y', j1⟩, ob, j2⟩

/-- All of it. -/
theorem ce_all (hA : 0 < sd pa pb pc pd pe pf) : (∃ y', lrun lRasCe_l1021_st 18446744073709551616 (.mk false 0 (lo b1) pa pb pc pd pe pf z0 z1 z2 n0 n1 n2 k00 k01 k02 k03 k10 k11 k12 k13 k20 k21 k22 k23 b0 b1 b2 b3 (lc pa pb pc pd pe pf z0 z1 z2 n0 n1 n2 k00 k01 k02 k03 k10 k11 k12 k13 k20 k21 k22 k23 b0 b1 b2 b3)) = some (.e 0, .mk false (Int.ofNat (lc pa pb pc pd pe pf z0 z1 z2 n0 n1 n2 k00 k01 k02 k03 k10 k11 k12 k13 k20 k21 k22 k23 b0 b1 b2 b3).length) y' pa pb pc pd pe pf z0 z1 z2 n0 n1 n2 k00 k01 k02 k03 k10 k11 k12 k13 k20 k21 k22 k23 b0 b1 b2 b3 (lc pa pb pc pd pe pf z0 z1 z2 n0 n1 n2 k00 k01 k02 k03 k10 k11 k12 k13 k20 k21 k22 k23 b0 b1 b2 b3))) ∧ lok lRasCe_l1021_st 18446744073709551616 (.mk false 0 (lo b1) pa pb pc pd pe pf z0 z1 z2 n0 n1 n2 k00 k01 k02 k03 k10 k11 k12 k13 k20 k21 k22 k23 b0 b1 b2 b3 (lc pa pb pc pd pe pf z0 z1 z2 n0 n1 n2 k00 k01 k02 k03 k10 k11 k12 k13 k20 k21 k22 k23 b0 b1 b2 b3)) := by
  have hG : (lc pa pb pc pd pe pf z0 z1 z2 n0 n1 n2 k00 k01 k02 k03 k10 k11 k12 k13 k20 k21 k22 k23 b0 b1 b2 b3).length ≤ 4096 := cells_len _ _ _ _ _
  have hk : (ck (tg pa pb pc pd pe pf z0 z1 z2 n0 n1 n2 k00 k01 k02 k03 k10 k11 k12 k13 k20 k21 k22 k23) != 0) = false := by
    have h : ck (tg pa pb pc pd pe pf z0 z1 z2 n0 n1 n2 k00 k01 k02 k03 k10 k11 k12 k13 k20 k21 k22 k23) = bif decide (sd pa pb pc pd pe pf ≤ 0) then 4 else 0 := check_eq H
    rw [h, decide_eq_false (by omega)]
    rfl
  have hg : lc pa pb pc pd pe pf z0 z1 z2 n0 n1 n2 k00 k01 k02 k03 k10 k11 k12 k13 k20 k21 k22 k23 b0 b1 b2 b3 = [] ++ rowsY (tg pa pb pc pd pe pf z0 z1 z2 n0 n1 n2 k00 k01 k02 k03 k10 k11 k12 k13 k20 k21 k22 k23) (up b2 - lo b0).toNat (lo b0) (up b3 - lo b1).toNat (lo b1) [] := by
    unfold lc cells
    rw [hk]; rfl
  have l1 := lo_ge b1
  have u3 := up_le b3
  exact ce_out H b0 b1 b2 b3 _ hG _ rfl (up b3 - lo b1).toNat (lo b1) [] l1.1 rfl hg 18446744073709551616 (by omega)
theorem ce_no (hA : ¬ 0 < sd pa pb pc pd pe pf) : lc pa pb pc pd pe pf z0 z1 z2 n0 n1 n2 k00 k01 k02 k03 k10 k11 k12 k13 k20 k21 k22 k23 b0 b1 b2 b3 = [] := by
  refine cells_none ?_
  have h : ck (tg pa pb pc pd pe pf z0 z1 z2 n0 n1 n2 k00 k01 k02 k03 k10 k11 k12 k13 k20 k21 k22 k23) = bif decide (sd pa pb pc pd pe pf ≤ 0) then 4 else 0 := check_eq H
  rw [h, decide_eq_true (by omega)]
  rfl
end
end Ra

theorem RasterCells_true (x0_0 : Int) (a0_0 : IntKind.min .i8 ≤ x0_0) (b0_0 : x0_0 ≤ IntKind.max .i8) (x0_1 : Int) (a0_1 : IntKind.min .i8 ≤ x0_1) (b0_1 : x0_1 ≤ IntKind.max .i8) (x0_2 : Int) (a0_2 : IntKind.min .i8 ≤ x0_2) (b0_2 : x0_2 ≤ IntKind.max .i8) (x0_3 : Int) (a0_3 : IntKind.min .i8 ≤ x0_3) (b0_3 : x0_3 ≤ IntKind.max .i8) (x0_4 : Int) (a0_4 : IntKind.min .i8 ≤ x0_4) (b0_4 : x0_4 ≤ IntKind.max .i8) (x0_5 : Int) (a0_5 : IntKind.min .i8 ≤ x0_5) (b0_5 : x0_5 ≤ IntKind.max .i8) (x0_6 : Int) (a0_6 : IntKind.min .u16 ≤ x0_6) (b0_6 : x0_6 ≤ IntKind.max .u16) (x0_7 : Int) (a0_7 : IntKind.min .u16 ≤ x0_7) (b0_7 : x0_7 ≤ IntKind.max .u16) (x0_8 : Int) (a0_8 : IntKind.min .u16 ≤ x0_8) (b0_8 : x0_8 ≤ IntKind.max .u16) (x0_9 : Int) (a0_9 : IntKind.min .u16 ≤ x0_9) (b0_9 : x0_9 ≤ IntKind.max .u16) (x0_10 : Int) (a0_10 : IntKind.min .u16 ≤ x0_10) (b0_10 : x0_10 ≤ IntKind.max .u16) (x0_11 : Int) (a0_11 : IntKind.min .u16 ≤ x0_11) (b0_11 : x0_11 ≤ IntKind.max .u16) (x0_12 : Int) (a0_12 : IntKind.min .u16 ≤ x0_12) (b0_12 : x0_12 ≤ IntKind.max .u16) (x0_13 : Int) (a0_13 : IntKind.min .u16 ≤ x0_13) (b0_13 : x0_13 ≤ IntKind.max .u16) (x0_14 : Int) (a0_14 : IntKind.min .u16 ≤ x0_14) (b0_14 : x0_14 ≤ IntKind.max .u16) (x0_15 : Int) (a0_15 : IntKind.min .u16 ≤ x0_15) (b0_15 : x0_15 ≤ IntKind.max .u16) (x0_16 : Int) (a0_16 : IntKind.min .u16 ≤ x0_16) (b0_16 : x0_16 ≤ IntKind.max .u16) (x0_17 : Int) (a0_17 : IntKind.min .u16 ≤ x0_17) (b0_17 : x0_17 ≤ IntKind.max .u16) (x0_18 : Int) (a0_18 : IntKind.min .u16 ≤ x0_18) (b0_18 : x0_18 ≤ IntKind.max .u16) (x0_19 : Int) (a0_19 : IntKind.min .u16 ≤ x0_19) (b0_19 : x0_19 ≤ IntKind.max .u16) (x0_20 : Int) (a0_20 : IntKind.min .u16 ≤ x0_20) (b0_20 : x0_20 ≤ IntKind.max .u16) (x0_21 : Int) (a0_21 : IntKind.min .u16 ≤ x0_21) (b0_21 : x0_21 ≤ IntKind.max .u16) (x0_22 : Int) (a0_22 : IntKind.min .u16 ≤ x0_22) (b0_22 : x0_22 ≤ IntKind.max .u16) (x0_23 : Int) (a0_23 : IntKind.min .u16 ≤ x0_23) (b0_23 : x0_23 ≤ IntKind.max .u16) (x0_24 : Int) (a0_24 : IntKind.min .u8 ≤ x0_24) (b0_24 : x0_24 ≤ IntKind.max .u8) (x1_0 : Int) (a1_0 : IntKind.min .u8 ≤ x1_0) (b1_0 : x1_0 ≤ IntKind.max .u8) (x1_1 : Int) (a1_1 : IntKind.min .u8 ≤ x1_1) (b1_1 : x1_1 ≤ IntKind.max .u8) (x1_2 : Int) (a1_2 : IntKind.min .u8 ≤ x1_2) (b1_2 : x1_2 ≤ IntKind.max .u8) (x1_3 : Int) (a1_3 : IntKind.min .u8 ≤ x1_3) (b1_3 : x1_3 ≤ IntKind.max .u8) : lRasCe_0 x0_0 x0_1 x0_2 x0_3 x0_4 x0_5 x0_6 x0_7 x0_8 x0_9 x0_10 x0_11 x0_12 x0_13 x0_14 x0_15 x0_16 x0_17 x0_18 x0_19 x0_20 x0_21 x0_22 x0_23 x0_24 x1_0 x1_1 x1_2 x1_3 = true := by
  obtain ⟨l0_0, g0_0⟩ := bd_i8 a0_0 b0_0
  have w0_0 : IntKind.wrap .i64 x0_0 = x0_0 := w64_in (by omega) (by omega)
  obtain ⟨l0_1, g0_1⟩ := bd_i8 a0_1 b0_1
  have w0_1 : IntKind.wrap .i64 x0_1 = x0_1 := w64_in (by omega) (by omega)
  obtain ⟨l0_2, g0_2⟩ := bd_i8 a0_2 b0_2
  have w0_2 : IntKind.wrap .i64 x0_2 = x0_2 := w64_in (by omega) (by omega)
  obtain ⟨l0_3, g0_3⟩ := bd_i8 a0_3 b0_3
  have w0_3 : IntKind.wrap .i64 x0_3 = x0_3 := w64_in (by omega) (by omega)
  obtain ⟨l0_4, g0_4⟩ := bd_i8 a0_4 b0_4
  have w0_4 : IntKind.wrap .i64 x0_4 = x0_4 := w64_in (by omega) (by omega)
  obtain ⟨l0_5, g0_5⟩ := bd_i8 a0_5 b0_5
  have w0_5 : IntKind.wrap .i64 x0_5 = x0_5 := w64_in (by omega) (by omega)
  obtain ⟨l0_6, g0_6⟩ := bd_u16 a0_6 b0_6
  have w0_6 : IntKind.wrap .i64 x0_6 = x0_6 := w64_in (by omega) (by omega)
  obtain ⟨l0_7, g0_7⟩ := bd_u16 a0_7 b0_7
  have w0_7 : IntKind.wrap .i64 x0_7 = x0_7 := w64_in (by omega) (by omega)
  obtain ⟨l0_8, g0_8⟩ := bd_u16 a0_8 b0_8
  have w0_8 : IntKind.wrap .i64 x0_8 = x0_8 := w64_in (by omega) (by omega)
  obtain ⟨l0_9, g0_9⟩ := bd_u16 a0_9 b0_9
  have w0_9 : IntKind.wrap .i64 x0_9 = x0_9 := w64_in (by omega) (by omega)
  obtain ⟨l0_10, g0_10⟩ := bd_u16 a0_10 b0_10
  have w0_10 : IntKind.wrap .i64 x0_10 = x0_10 := w64_in (by omega) (by omega)
  obtain ⟨l0_11, g0_11⟩ := bd_u16 a0_11 b0_11
  have w0_11 : IntKind.wrap .i64 x0_11 = x0_11 := w64_in (by omega) (by omega)
  obtain ⟨l0_12, g0_12⟩ := bd_u16 a0_12 b0_12
  have w0_12 : IntKind.wrap .i64 x0_12 = x0_12 := w64_in (by omega) (by omega)
  obtain ⟨l0_13, g0_13⟩ := bd_u16 a0_13 b0_13
  have w0_13 : IntKind.wrap .i64 x0_13 = x0_13 := w64_in (by omega) (by omega)
  obtain ⟨l0_14, g0_14⟩ := bd_u16 a0_14 b0_14
  have w0_14 : IntKind.wrap .i64 x0_14 = x0_14 := w64_in (by omega) (by omega)
  obtain ⟨l0_15, g0_15⟩ := bd_u16 a0_15 b0_15
  have w0_15 : IntKind.wrap .i64 x0_15 = x0_15 := w64_in (by omega) (by omega)
  obtain ⟨l0_16, g0_16⟩ := bd_u16 a0_16 b0_16
  have w0_16 : IntKind.wrap .i64 x0_16 = x0_16 := w64_in (by omega) (by omega)
  obtain ⟨l0_17, g0_17⟩ := bd_u16 a0_17 b0_17
  have w0_17 : IntKind.wrap .i64 x0_17 = x0_17 := w64_in (by omega) (by omega)
  obtain ⟨l0_18, g0_18⟩ := bd_u16 a0_18 b0_18
  have w0_18 : IntKind.wrap .i64 x0_18 = x0_18 := w64_in (by omega) (by omega)
  obtain ⟨l0_19, g0_19⟩ := bd_u16 a0_19 b0_19
  have w0_19 : IntKind.wrap .i64 x0_19 = x0_19 := w64_in (by omega) (by omega)
  obtain ⟨l0_20, g0_20⟩ := bd_u16 a0_20 b0_20
  have w0_20 : IntKind.wrap .i64 x0_20 = x0_20 := w64_in (by omega) (by omega)
  obtain ⟨l0_21, g0_21⟩ := bd_u16 a0_21 b0_21
  have w0_21 : IntKind.wrap .i64 x0_21 = x0_21 := w64_in (by omega) (by omega)
  obtain ⟨l0_22, g0_22⟩ := bd_u16 a0_22 b0_22
  have w0_22 : IntKind.wrap .i64 x0_22 = x0_22 := w64_in (by omega) (by omega)
  obtain ⟨l0_23, g0_23⟩ := bd_u16 a0_23 b0_23
  have w0_23 : IntKind.wrap .i64 x0_23 = x0_23 := w64_in (by omega) (by omega)
  obtain ⟨l0_24, g0_24⟩ := bd_u8 a0_24 b0_24
  have w0_24 : IntKind.wrap .i64 x0_24 = x0_24 := w64_in (by omega) (by omega)
  have T := sm_TB ⟨l0_0, g0_0⟩ ⟨l0_1, g0_1⟩ ⟨l0_2, g0_2⟩ ⟨l0_3, g0_3⟩ ⟨l0_4, g0_4⟩ ⟨l0_5, g0_5⟩ l0_24 g0_24 ⟨l0_9, g0_9⟩ ⟨l0_10, g0_10⟩ ⟨l0_11, g0_11⟩ (c16 l0_6 g0_6 w0_6) (c16 l0_7 g0_7 w0_7) (c16 l0_8 g0_8 w0_8) (b16 l0_12 g0_12 w0_12) (b16 l0_13 g0_13 w0_13) (b16 l0_14 g0_14 w0_14) (b16 l0_15 g0_15 w0_15) (b16 l0_16 g0_16 w0_16) (b16 l0_17 g0_17 w0_17) (b16 l0_18 g0_18 w0_18) (b16 l0_19 g0_19 w0_19) (b16 l0_20 g0_20 w0_20) (b16 l0_21 g0_21 w0_21) (b16 l0_22 g0_22 w0_22) (b16 l0_23 g0_23 w0_23)
  have t9 := tri9 T
  unfold lRasCe_0
  rw [Ra.aw, t9]
  by_cases hA : 0 < sd (sm13Tri_0 x0_0 x0_1 x0_2 x0_3 x0_4 x0_5 x0_24) (sm13Tri_1 x0_0 x0_1 x0_2 x0_3 x0_4 x0_5 x0_24) (sm13Tri_2 x0_0 x0_1 x0_2 x0_3 x0_4 x0_5 x0_24) (sm13Tri_3 x0_0 x0_1 x0_2 x0_3 x0_4 x0_5 x0_24) (sm13Tri_4 x0_0 x0_1 x0_2 x0_3 x0_4 x0_5 x0_24) (sm13Tri_5 x0_0 x0_1 x0_2 x0_3 x0_4 x0_5 x0_24)
  · rw [decide_eq_true hA]
    obtain ⟨⟨y', h⟩, -⟩ := Ra.ce_all T (l18box_0 x1_0) (l18box_1 x1_1) (l18box_2 x1_2) (l18box_3 x1_3) hA
    have h' : lRasCe_s2 x0_0 x0_1 x0_2 x0_3 x0_4 x0_5 x0_6 x0_7 x0_8 x0_9 x0_10 x0_11 x0_12 x0_13 x0_14 x0_15 x0_16 x0_17 x0_18 x0_19 x0_20 x0_21 x0_22 x0_23 x0_24 x1_0 x1_1 x1_2 x1_3 = _ := h
    rw [h']
    exact beq_self_eq_true (Int.ofNat _)
  · rw [decide_eq_false hA]
    have h := Ra.ce_no T (l18box_0 x1_0) (l18box_1 x1_1) (l18box_2 x1_2) (l18box_3 x1_3) hA
    have h' : lRasCe_s0 x0_0 x0_1 x0_2 x0_3 x0_4 x0_5 x0_6 x0_7 x0_8 x0_9 x0_10 x0_11 x0_12 x0_13 x0_14 x0_15 x0_16 x0_17 x0_18 x0_19 x0_20 x0_21 x0_22 x0_23 x0_24 x1_0 x1_1 x1_2 x1_3 = [] := h
    unfold lRasCe_s1
    rw [h']
    rfl

theorem RasterCells_obs (x0_0 : Int) (a0_0 : IntKind.min .i8 ≤ x0_0) (b0_0 : x0_0 ≤ IntKind.max .i8) (x0_1 : Int) (a0_1 : IntKind.min .i8 ≤ x0_1) (b0_1 : x0_1 ≤ IntKind.max .i8) (x0_2 : Int) (a0_2 : IntKind.min .i8 ≤ x0_2) (b0_2 : x0_2 ≤ IntKind.max .i8) (x0_3 : Int) (a0_3 : IntKind.min .i8 ≤ x0_3) (b0_3 : x0_3 ≤ IntKind.max .i8) (x0_4 : Int) (a0_4 : IntKind.min .i8 ≤ x0_4) (b0_4 : x0_4 ≤ IntKind.max .i8) (x0_5 : Int) (a0_5 : IntKind.min .i8 ≤ x0_5) (b0_5 : x0_5 ≤ IntKind.max .i8) (x0_6 : Int) (a0_6 : IntKind.min .u16 ≤ x0_6) (b0_6 : x0_6 ≤ IntKind.max .u16) (x0_7 : Int) (a0_7 : IntKind.min .u16 ≤ x0_7) (b0_7 : x0_7 ≤ IntKind.max .u16) (x0_8 : Int) (a0_8 : IntKind.min .u16 ≤ x0_8) (b0_8 : x0_8 ≤ IntKind.max .u16) (x0_9 : Int) (a0_9 : IntKind.min .u16 ≤ x0_9) (b0_9 : x0_9 ≤ IntKind.max .u16) (x0_10 : Int) (a0_10 : IntKind.min .u16 ≤ x0_10) (b0_10 : x0_10 ≤ IntKind.max .u16) (x0_11 : Int) (a0_11 : IntKind.min .u16 ≤ x0_11) (b0_11 : x0_11 ≤ IntKind.max .u16) (x0_12 : Int) (a0_12 : IntKind.min .u16 ≤ x0_12) (b0_12 : x0_12 ≤ IntKind.max .u16) (x0_13 : Int) (a0_13 : IntKind.min .u16 ≤ x0_13) (b0_13 : x0_13 ≤ IntKind.max .u16) (x0_14 : Int) (a0_14 : IntKind.min .u16 ≤ x0_14) (b0_14 : x0_14 ≤ IntKind.max .u16) (x0_15 : Int) (a0_15 : IntKind.min .u16 ≤ x0_15) (b0_15 : x0_15 ≤ IntKind.max .u16) (x0_16 : Int) (a0_16 : IntKind.min .u16 ≤ x0_16) (b0_16 : x0_16 ≤ IntKind.max .u16) (x0_17 : Int) (a0_17 : IntKind.min .u16 ≤ x0_17) (b0_17 : x0_17 ≤ IntKind.max .u16) (x0_18 : Int) (a0_18 : IntKind.min .u16 ≤ x0_18) (b0_18 : x0_18 ≤ IntKind.max .u16) (x0_19 : Int) (a0_19 : IntKind.min .u16 ≤ x0_19) (b0_19 : x0_19 ≤ IntKind.max .u16) (x0_20 : Int) (a0_20 : IntKind.min .u16 ≤ x0_20) (b0_20 : x0_20 ≤ IntKind.max .u16) (x0_21 : Int) (a0_21 : IntKind.min .u16 ≤ x0_21) (b0_21 : x0_21 ≤ IntKind.max .u16) (x0_22 : Int) (a0_22 : IntKind.min .u16 ≤ x0_22) (b0_22 : x0_22 ≤ IntKind.max .u16) (x0_23 : Int) (a0_23 : IntKind.min .u16 ≤ x0_23) (b0_23 : x0_23 ≤ IntKind.max .u16) (x0_24 : Int) (a0_24 : IntKind.min .u8 ≤ x0_24) (b0_24 : x0_24 ≤ IntKind.max .u8) (x1_0 : Int) (a1_0 : IntKind.min .u8 ≤ x1_0) (b1_0 : x1_0 ≤ IntKind.max .u8) (x1_1 : Int) (a1_1 : IntKind.min .u8 ≤ x1_1) (b1_1 : x1_1 ≤ IntKind.max .u8) (x1_2 : Int) (a1_2 : IntKind.min .u8 ≤ x1_2) (b1_2 : x1_2 ≤ IntKind.max .u8) (x1_3 : Int) (a1_3 : IntKind.min .u8 ≤ x1_3) (b1_3 : x1_3 ≤ IntKind.max .u8) : Alls (lRasCe_o x0_0 x0_1 x0_2 x0_3 x0_4 x0_5 x0_6 x0_7 x0_8 x0_9 x0_10 x0_11 x0_12 x0_13 x0_14 x0_15 x0_16 x0_17 x0_18 x0_19 x0_20 x0_21 x0_22 x0_23 x0_24 x1_0 x1_1 x1_2 x1_3) := by
  obtain ⟨l0_0, g0_0⟩ := bd_i8 a0_0 b0_0
  have w0_0 : IntKind.wrap .i64 x0_0 = x0_0 := w64_in (by omega) (by omega)
  obtain ⟨l0_1, g0_1⟩ := bd_i8 a0_1 b0_1
  have w0_1 : IntKind.wrap .i64 x0_1 = x0_1 := w64_in (by omega) (by omega)
  obtain ⟨l0_2, g0_2⟩ := bd_i8 a0_2 b0_2
  have w0_2 : IntKind.wrap .i64 x0_2 = x0_2 := w64_in (by omega) (by omega)
  obtain ⟨l0_3, g0_3⟩ := bd_i8 a0_3 b0_3
  have w0_3 : IntKind.wrap .i64 x0_3 = x0_3 := w64_in (by omega) (by omega)
  obtain ⟨l0_4, g0_4⟩ := bd_i8 a0_4 b0_4
  have w0_4 : IntKind.wrap .i64 x0_4 = x0_4 := w64_in (by omega) (by omega)
  obtain ⟨l0_5, g0_5⟩ := bd_i8 a0_5 b0_5
  have w0_5 : IntKind.wrap .i64 x0_5 = x0_5 := w64_in (by omega) (by omega)
  obtain ⟨l0_6, g0_6⟩ := bd_u16 a0_6 b0_6
  have w0_6 : IntKind.wrap .i64 x0_6 = x0_6 := w64_in (by omega) (by omega)
  obtain ⟨l0_7, g0_7⟩ := bd_u16 a0_7 b0_7
  have w0_7 : IntKind.wrap .i64 x0_7 = x0_7 := w64_in (by omega) (by omega)
  obtain ⟨l0_8, g0_8⟩ := bd_u16 a0_8 b0_8
  have w0_8 : IntKind.wrap .i64 x0_8 = x0_8 := w64_in (by omega) (by omega)
  obtain ⟨l0_9, g0_9⟩ := bd_u16 a0_9 b0_9
  have w0_9 : IntKind.wrap .i64 x0_9 = x0_9 := w64_in (by omega) (by omega)
  obtain ⟨l0_10, g0_10⟩ := bd_u16 a0_10 b0_10
  have w0_10 : IntKind.wrap .i64 x0_10 = x0_10 := w64_in (by omega) (by omega)
  obtain ⟨l0_11, g0_11⟩ := bd_u16 a0_11 b0_11
  have w0_11 : IntKind.wrap .i64 x0_11 = x0_11 := w64_in (by omega) (by omega)
  obtain ⟨l0_12, g0_12⟩ := bd_u16 a0_12 b0_12
  have w0_12 : IntKind.wrap .i64 x0_12 = x0_12 := w64_in (by omega) (by omega)
  obtain ⟨l0_13, g0_13⟩ := bd_u16 a0_13 b0_13
  have w0_13 : IntKind.wrap .i64 x0_13 = x0_13 := w64_in (by omega) (by omega)
  obtain ⟨l0_14, g0_14⟩ := bd_u16 a0_14 b0_14
  have w0_14 : IntKind.wrap .i64 x0_14 = x0_14 := w64_in (by omega) (by omega)
  obtain ⟨l0_15, g0_15⟩ := bd_u16 a0_15 b0_15
  have w0_15 : IntKind.wrap .i64 x0_15 = x0_15 := w64_in (by omega) (by omega)
  obtain ⟨l0_16, g0_16⟩ := bd_u16 a0_16 b0_16
  have w0_16 : IntKind.wrap .i64 x0_16 = x0_16 := w64_in (by omega) (by omega)
  obtain ⟨l0_17, g0_17⟩ := bd_u16 a0_17 b0_17
  have w0_17 : IntKind.wrap .i64 x0_17 = x0_17 := w64_in (by omega) (by omega)
  obtain ⟨l0_18, g0_18⟩ := bd_u16 a0_18 b0_18
  have w0_18 : IntKind.wrap .i64 x0_18 = x0_18 := w64_in (by omega) (by omega)
  obtain ⟨l0_19, g0_19⟩ := bd_u16 a0_19 b0_19
  have w0_19 : IntKind.wrap .i64 x0_19 = x0_19 := w64_in (by omega) (by omega)
  obtain ⟨l0_20, g0_20⟩ := bd_u16 a0_20 b0_20
  have w0_20 : IntKind.wrap .i64 x0_20 = x0_20 := w64_in (by omega) (by omega)
  obtain ⟨l0_21, g0_21⟩ := bd_u16 a0_21 b0_21
  have w0_21 : IntKind.wrap .i64 x0_21 = x0_21 := w64_in (by omega) (by omega)
  obtain ⟨l0_22, g0_22⟩ := bd_u16 a0_22 b0_22
  have w0_22 : IntKind.wrap .i64 x0_22 = x0_22 := w64_in (by omega) (by omega)
  obtain ⟨l0_23, g0_23⟩ := bd_u16 a0_23 b0_23
  have w0_23 : IntKind.wrap .i64 x0_23 = x0_23 := w64_in (by omega) (by omega)
  obtain ⟨l0_24, g0_24⟩ := bd_u8 a0_24 b0_24
  have w0_24 : IntKind.wrap .i64 x0_24 = x0_24 := w64_in (by omega) (by omega)
  have T := sm_TB ⟨l0_0, g0_0⟩ ⟨l0_1, g0_1⟩ ⟨l0_2, g0_2⟩ ⟨l0_3, g0_3⟩ ⟨l0_4, g0_4⟩ ⟨l0_5, g0_5⟩ l0_24 g0_24 ⟨l0_9, g0_9⟩ ⟨l0_10, g0_10⟩ ⟨l0_11, g0_11⟩ (c16 l0_6 g0_6 w0_6) (c16 l0_7 g0_7 w0_7) (c16 l0_8 g0_8 w0_8) (b16 l0_12 g0_12 w0_12) (b16 l0_13 g0_13 w0_13) (b16 l0_14 g0_14 w0_14) (b16 l0_15 g0_15 w0_15) (b16 l0_16 g0_16 w0_16) (b16 l0_17 g0_17 w0_17) (b16 l0_18 g0_18 w0_18) (b16 l0_19 g0_19 w0_19) (b16 l0_20 g0_20 w0_20) (b16 l0_21 g0_21 w0_21) (b16 l0_22 g0_22 w0_22) (b16 l0_23 g0_23 w0_23)
  have t9 := tri9 T
  refine ⟨fun _ h => ?_, trivial⟩
  rw [t9, Bool.not_not] at h
  exact (Ra.ce_all T (l18box_0 x1_0) (l18box_1 x1_1) (l18box_2 x1_2) (l18box_3 x1_3) (of_decide_eq_true h)).2

end Go.Proofs.Ytcdejlgophpdjaa
end

