/-
  All pixels of a triangle in a list: the loop over the function.
-/
import Derived.RangeFuncLeaves
import Derived.Test.YtcdejlgophpdjaaQRasterTiles8
section
namespace Go.Proofs.Ytcdejlgophpdjaa
open Go Go.RowKit Go.Proofs.Ytcdejlgophpdjaa.V
set_option linter.unusedVariables false
set_option linter.unusedSectionVars false

namespace Ra
theorem body45 : Try.f45.body = some cL := by kernel_rfl
theorem body108 : Try.f108.body = some cC := by kernel_rfl
theorem nt45 : Try.f45.ntmps = 16 := by kernel_rfl
theorem nt108 : Try.f108.ntmps = 63 := by kernel_rfl
theorem res45 : Try.f45.results = #[.tmp 4] := by kernel_rfl
theorem res108 : Try.f108.results = #[] := by kernel_rfl
theorem call108 (args : Array Value) (w : World) : (callFunc 108 args).run Try.prog w = .ok (.enter 108 args) w := calm_run _ (f108_en args) w

theorem app3 (x y z : Value) (tl : Array Value) : (#[x, y, z] ++ tl).getD 0 undef = x ∧ (#[x, y, z] ++ tl).getD 1 undef = y ∧ (#[x, y, z] ++ tl).getD 2 undef = z := by
  refine ⟨?_, ?_, ?_⟩ <;> (rw [Array.getD_eq_getD_getElem?, Array.getElem?_append_left (by simp)]; rfl)

/-- The world ahead of the loop, with the loop's record and the block for deferred calls. -/
def wIn (w : World) (rec : Loop) : World := (w.alloc (.deferred (some []))).alloc (.loop rec)
theorem wIn_size (w : World) (rec : Loop) : (wIn w rec).heap.size = w.heap.size + 2 := by unfold wIn; rw [World.size_alloc, World.size_alloc]
theorem wIn_l (w : World) (rec : Loop) : (wIn w rec).heap[w.heap.size + 1]? = some (.loop rec) := by
  have := World.alloc_heap_new (w.alloc (.deferred (some []))) (.loop rec); rwa [World.size_alloc] at this
theorem wIn_d (w : World) (rec : Loop) : (wIn w rec).heap[w.heap.size]? = some (.deferred (some [])) := by
  exact (Below.heap_alloc _ _ _ (by simp)).trans (World.alloc_heap_new w _)
theorem wIn_old (w : World) (rec : Loop) {k : Nat} (h : k < w.heap.size) : (wIn w rec).heap[k]? = w.heap[k]? := by
  unfold wIn
  rw [Below.heap_alloc _ _ _ (by rw [World.size_alloc]; omega), Below.heap_alloc _ _ _ h]
theorem wIn_frz (w : World) (rec : Loop) (p : Addr) : (wIn w rec).frozen? p = w.frozen? p := by
  unfold wIn
  rw [frozen_allocO rfl, frozen_allocO rfl]

theorem two_size {φ : Phi} {x y : Nat × Nat} {cs : Array Value} (h : All2 (prel φ) [x, y] cs.toList) : ∃ v1 v2, cs = #[v1, v2] ∧ prel φ x v1 ∧ prel φ y v2 := by
  obtain ⟨l⟩ := cs
  cases h with
  | cons h1 h2 => cases h2 with
    | cons h3 h4 => cases h4; exact ⟨_, _, rfl, h1, h3⟩

set_option maxRecDepth 100000 in
theorem loop_wp (t : Nat → Int) (a b c d : Int) {w w3 : World} {may : Nat → Prop} {ψ : Phi} {a3 : Act} (s3 : SR 16 lvL w may ψ (S2 t a b c d) (M2 t a b c d) (H2 t a b c d) 112 a3 w3) {Q : Exit → Act → World → Prop}
    (hQ : ∀ (rec : Loop) (w4 : World) (χ : Phi) (e0 e1 e2 e3 : Int), MR ((wIn w3 rec).putObj (w3.heap.size + 1) (.loop { rec with state := .exhausted })) (fun e => (may e ∨ w.heap.size ≤ e) ∧ e < w3.heap.size) χ (memOf (bsF t (cells t a b c d) e0 e1 e2 e3)) (hdsB (bsF t (cells t a b c d) e0 e1 e2 e3)) (fun e => 4 ≤ e) w4 →
      TRel χ (V.look [(5, .a (.ptr 2 0))]) a3.tmps → Q .normal { a3 with defers := { target := .collected w3.heap.size, args := #[] } :: a3.defers } w4) :
    (Code.rangeFunc (.tmp 9) #[10] (rfA RF) (rfB RF)).wp Try.prog Q a3 w3 := by
  refine (wpIn_wide (n := 1)).1 (wpIn_rangeFunc ?_)
  intro fn _
  obtain ⟨cs, h9, hcs⟩ := fn_inv (s3.tr 9 _ (s2_9 t a b c d))
  obtain ⟨v1, v2, rfl, hv1, hv2⟩ := two_size hcs
  obtain ⟨⟨-, -⟩, i48, hi48, -, hp48⟩ := (show prel ψ (48, 0) (a3.tmps.getD 5 undef) from s3.tr 5 _ (s2_5 t a b c d))
  obtain ⟨j48, hj48, hv48, hro48, -⟩ := s3.mr.hdr 48 _ (h2_48 t a b c d)
  rw [hi48] at hj48
  obtain rfl := Option.some.inj hj48
  obtain ⟨r, o, hir, h5⟩ := hp48 hv48.symm
  obtain ⟨-, rfl, -⟩ := s3.mr.own 48 _ r o hi48 hir hro48
  obtain ⟨rec, hrec⟩ : ∃ rec : Loop, rec = { state := .ready, pending := none, fn, tmps := a3.tmps, params := #[10], assign := rfA RF, body := rfB RF, defers := w3.heap.size } := ⟨_, rfl⟩
  have eg : a3.eval (.tmp 9) = .func (.func 108) #[] #[v1, v2] := h9
  refine ⟨w3.heap.size + 1, [{ target := .collected w3.heap.size, args := #[] }], wIn w3 rec, { target := .fn (.func 108) #[v1, v2], args := #[.func (.yield (w3.heap.size + 1)) #[] #[]] }, wIn w3 rec, 108,
    #[.func (.yield (w3.heap.size + 1)) #[] #[], v1, v2], wIn w3 rec, ?_, ?_, fun _ _ => trivial, ?_, fun h => by simp [Fence.wide] at h, ?_⟩
  · subst hrec; exact run_enterLoop_outer _ _ _ _ _
  · simp only [resolve, eg]
    simp [go_sem]
  · have := call108 #[.func (.yield (w3.heap.size + 1)) #[] #[], v1, v2] (wIn w3 rec)
    simp [invoke, go_sem, this]
  refine callsIn_wide.2 (calls_of_wp Try.func108 body108 ?_)
  have hmr := ren_mr s3.mr (blks t a b c d) rfl
  have hm := ren_moves (out := []) s3.mr (foot := [96, 97, 48])
  have h96 : prel (phiC ψ [96, 97, 48] []) (0, 0) v1 := prel_move hv1 (hm _ _ _ (ren96 t a b c d))
  have h97 : prel (phiC ψ [96, 97, 48] []) (1, 0) v2 := prel_move hv2 (hm _ _ _ (ren97 t a b c d))
  have n3 : phiC ψ [96, 97, 48] [] 3 = none := hmr.dom 3 (Nat.le_refl 3)
  have hle : (phiC ψ [96, 97, 48] []).le (phi3 (phiC ψ [96, 97, 48] [])) := fun e i hi => ⟨i, by
    unfold phi3
    by_cases h : e = 3
    · subst h; rw [n3] at hi; cases hi
    · rw [if_neg h]; exact hi, .inl rfl⟩
  have hp2 : phi3 (phiC ψ [96, 97, 48] []) 2 = some ⟨i48.ty, i48.a, i48.z, i48.n, 0, i48.ro⟩ := by
    show phiC ψ [96, 97, 48] [] 2 = _
    exact phiC_nil_mk (foot := [96, 97, 48]) (i := 2) (b := 48) rfl hi48
  have hM1 := start_mr t a b c d hmr (o1 := .deferred (some [])) (o2 := .loop rec) rfl rfl
  have hl : w3.heap.size + 1 < (wIn w3 rec).heap.size := by rw [wIn_size]; omega
  have hnl : ¬ ((may (w3.heap.size + 1) ∨ w.heap.size ≤ w3.heap.size + 1) ∧ w3.heap.size + 1 < w3.heap.size) := fun h => by omega
  have hra : RecAt (wIn w3 rec) (w3.heap.size + 1) r rec := ⟨wIn_l w3 rec, by rw [hrec], by rw [hrec], by rw [hrec], by rw [hrec], by rw [hrec], by rw [hrec]; exact s3.sz, by rw [hrec]; exact h5⟩
  have hr : HR 63 lvC (wIn w3 rec) (fun e => (may e ∨ w.heap.size ≤ e) ∧ e < w3.heap.size) (phi3 (phiC ψ [96, 97, 48] [])) (hd (.func (.yield (w3.heap.size + 1)) #[] #[]) t a b c d [] [])
      { tmps := #[.func (.yield (w3.heap.size + 1)) #[] #[], v1, v2] ++ Array.replicate (Try.f108.ntmps - (#[Value.func (.yield (w3.heap.size + 1)) #[] #[], v1, v2]).size) undef, defers := [] } (wIn w3 rec) := by
    refine ⟨⟨?_, by rw [nt108]; simp, rfl, hM1⟩, ?_⟩
    · intro e lv h
      unfold filt at h
      split at h
      · match e, h with
        | 0, h =>
          obtain rfl : lv = .a (.val (.func (.yield (w3.heap.size + 1)) #[] #[])) := (Option.some.inj h).symm
          rw [(app3 _ _ _ _).1]
          exact ⟨⟨rfl, rfl⟩, rfl⟩
        | 1, h =>
          obtain rfl : lv = .a (.ptr 0 0) := (Option.some.inj h).symm
          rw [(app3 _ _ _ _).2.1]
          exact vrel.mono hle h96
        | 2, h =>
          obtain rfl : lv = .a (.ptr 1 0) := (Option.some.inj h).symm
          rw [(app3 _ _ _ _).2.2]
          exact vrel.mono hle h97
        | n + 3, h => cases h
      · cases h
    · intro e j hj
      unfold phi3 at hj
      split at hj
      · rename_i h3
        subst h3
        obtain rfl := Option.some.inj hj
        exact ⟨by rw [hd_len]; omega, rfl⟩
      · obtain ⟨b', j1, k1, -, rfl⟩ := phiC_nil_get hj
        have := (List.getElem?_eq_some_iff.1 k1).1
        have h3 : e < 3 := this
        exact ⟨by rw [hd_len]; omega, rfl⟩
  have fin : ∀ (a' : Act) (w' : World) (χ : Phi) (e0 e1 e2 e3 : Int) (m : List (Nat × LV)), Kp [3] (phi3 (phiC ψ [96, 97, 48] [])) χ → HR 63 lvC (wIn w3 rec) (fun e => (may e ∨ w.heap.size ≤ e) ∧ e < w3.heap.size) χ (hd (.func (.yield (w3.heap.size + 1)) #[] #[]) t e0 e1 e2 e3 (cells t a b c d) m) a' w' →
      a'.defers = [] ∧ ∃ v, (results Try.f108 a'.tmps).run Try.prog w' = .ok v w' ∧ rangePost Fence.wide 1 Try.prog (w3.heap.size + 1) Q { a3 with defers := [{ target := .collected w3.heap.size, args := #[] }] ++ a3.defers } (.returned v) w' := by
    intro a' w' χ e0 e1 e2 e3 m hk hr'
    refine ⟨hr'.sr.df, .tuple #[], by simp [results], ?_⟩
    have hM' := hr'.sr.mr
    have hw' := (hM'.block _ hl hnl).trans (wIn_l w3 rec)
    have hend := run_endLoop (P := Try.prog) hw' (by rw [hrec]; simp)
    have hpe : rec.pending = none := by rw [hrec]
    refine ⟨none, w'.putObj (w3.heap.size + 1) (.loop { rec with state := .exhausted }), by rw [hend, hpe], ?_⟩
    have hput := hM'.putO hw' rfl (wIn_l w3 rec) rfl (o' := .loop { rec with state := .exhausted }) rfl
    refine hQ rec _ χ e0 e1 e2 e3 (hput : _) ?_
    intro e lv h
    by_cases he : e = 5
    · subst he
      obtain rfl : lv = .a (.ptr 2 0) := (Option.some.inj h).symm
      rw [h5]
      obtain ⟨j, q1, -, q3⟩ := hk 2 _ hp2
      rw [q3 rfl] at q1
      exact ⟨⟨rfl, rfl⟩, _, q1, Nat.le_refl _, fun _ => ⟨r, 0, hir, rfl⟩⟩
    · exfalso
      unfold V.look at h
      rw [show Nat.beq e 5 = false from by cases q : Nat.beq e 5; rfl; exact absurd (Nat.eq_of_beq_eq_true q) he] at h
      cases h
  refine cells_wp hl hnl hra t a b c d hr ⟨_, hp2, hir⟩ fun a' w' χ e0 e1 e2 e3 m hk hr' => ⟨fin a' w' χ e0 e1 e2 e3 m hk hr', fin a' w' χ e0 e1 e2 e3 m hk hr'⟩
end Ra

end Go.Proofs.Ytcdejlgophpdjaa
end

section
namespace Go.Proofs.Ytcdejlgophpdjaa
open Go Go.RowKit Go.Proofs.Ytcdejlgophpdjaa.V
set_option linter.unusedVariables false
set_option linter.unusedSectionVars false

namespace Ra

theorem y0_eq (t : Nat → Int) (a b c d : Int) : ev Try.prog tabRa6 16 lvL [] 2000 false L0 1 (V.look [(0, trG t), (1, bxG a b c d)]) (fun _ => none) (fun _ => none) 0 = some ([], [⟨.n, false, true, evD (Y0 t a b c d), 48⟩]) := by
  have h := oneN_spec (y0_one t a b c d)
  rw [y0_obs, y0_n] at h
  exact h
theorem y1_eq (t : Nat → Int) (a b c d : Int) : ev Try.prog tabRa6 16 lvL [] 2000 false L1 1 (S0 t a b c d) (M0 t a b c d) (H0 t a b c d) 48 = some ([], [⟨.n, false, true, evD (Y1 t a b c d), 64⟩]) := by
  have h := oneN_spec (y1_one t a b c d)
  rw [y1_obs, y1_n] at h
  exact h
theorem y2_eq (t : Nat → Int) (a b c d : Int) : ev Try.prog tabRa6 16 lvL [] 2000 false L2 1 (S1 t a b c d) (M1 t a b c d) (H1 t a b c d) 64 = some ([], [⟨.n, false, true, evD (Y2 t a b c d), 112⟩]) := by
  have h := oneN_spec (y2_one t a b c d)
  rw [y2_obs, y2_n] at h
  exact h

/-- A list's block, as it is left. -/
def outL (l : List (List Int)) : List (Option BC) := [some (rB l)]

/-- Behind all: what is handed back. -/
theorem end_mr {w w8 : World} {may : Nat → Prop} {χ : Phi} {l : List (List Int)} {i : Inf} (hφ : χ 3 = some i) (hh : HdOK (w8.heap[·]?) i ⟨0, 0, false, some ⟨0, sh7, l, none⟩⟩)
    (how : ∀ r o, i.a = some (r, o) → i.ro = false → (may r ∨ w.heap.size ≤ r) ∧ o = 0 ∧ ∃ arr, w8.heap[r]? = some (.cells arr i.ty (0, 0)) ∧ arr.size = i.z)
    (hos : w8.os = w.os) (htape : w8.tape = w.tape) (hout : w8.output = w.output) (hsize : w.heap.size ≤ w8.heap.size) (hblk : ∀ k, k < w.heap.size → ¬ may k → w8.heap[k]? = w.heap[k]?) (hfrz : ∀ p, w8.frozen? p = w.frozen? p) :
    MR w may (fun e => if e = 0 then some i else none) (memAft [] (outL l)) (hdsAft [] (outL l)) (fun b => (outL l).length ≤ b) w8 := by
  have inv : ∀ {e : Nat} {j : Inf}, (fun e => if e = 0 then some i else none : Phi) e = some j → e = 0 ∧ j = i := fun {e j} h => by
    by_cases h0 : e = 0
    · subst h0
      have : some i = some j := h
      exact ⟨rfl, (Option.some.inj this).symm⟩
    · simp only [if_neg h0] at h
      cases h
  have nomem : ∀ k, memAft [] (outL l) k = none := fun k => by
    unfold memAft aft outL
    by_cases h0 : k / 65536 = 0
    · rw [h0]; rfl
    · obtain ⟨m, hm⟩ : ∃ m, k / 65536 = m + 1 := ⟨k / 65536 - 1, by omega⟩
      rw [hm]
      cases m <;> rfl
  have hro : i.ro = false := hh.2.1
  constructor
  · intro k x hx; rw [nomem] at hx; cases hx
  · intro e g hg
    unfold hdsAft aft outL at hg
    by_cases h0 : e = 0
    · subst h0
      have hg' : g = ⟨0, 0, false, some ⟨0, sh7, l, none⟩⟩ := by
        have : some (⟨0, 0, false, some ⟨0, sh7, l, none⟩⟩ : Hd) = some g := hg
        exact (Option.some.inj this).symm
      subst hg'
      exact ⟨i, by simp, hh⟩
    · obtain ⟨m, hm⟩ : ∃ m, e = m + 1 := ⟨e - 1, by omega⟩
      rw [hm] at hg
      cases m <;> cases hg
  · intro k x g hx; rw [nomem] at hx; cases hx
  · intro e e' j j' r o o' he he' _ _
    exact .inl ((inv he).1.trans (inv he').1.symm)
  · intro e j r o he hj hjr
    obtain ⟨_, rfl⟩ := inv he
    exact how r o hj hjr
  · intro e j r o he hj hjr
    obtain ⟨_, rfl⟩ := inv he
    rw [hro] at hjr; cases hjr
  · intro e he
    have : 1 ≤ e := he
    show (if e = 0 then some i else none) = none
    rw [if_neg (by omega)]
  · intro e j r o he hj
    obtain ⟨_, rfl⟩ := inv he
    obtain ⟨_, _, arr, h, _⟩ := how r o hj hro
    exact (Array.getElem?_eq_some_iff.1 h).1
  · exact hos
  · exact htape
  · exact hout
  · exact hsize
  · exact hblk
  · exact hfrz

set_option maxRecDepth 100000 in
/-- Behind the loop: the list is loaded and handed back. -/
theorem back_ok (t : Nat → Int) (a b c d : Int) {w w3 : World} {may : Nat → Prop} {φ ψ : Phi} {a3 : Act} (s3 : SR 16 lvL w may ψ (S2 t a b c d) (M2 t a b c d) (H2 t a b c d) 112 a3 w3) (hφ : ∀ e, φ e = none) {rec : Loop} {w4 : World} {χ : Phi} {e0 e1 e2 e3 : Int}
    (h4 : MR ((wIn w3 rec).putObj (w3.heap.size + 1) (.loop { rec with state := .exhausted })) (fun e => (may e ∨ w.heap.size ≤ e) ∧ e < w3.heap.size) χ (memOf (bsF t (cells t a b c d) e0 e1 e2 e3)) (hdsB (bsF t (cells t a b c d) e0 e1 e2 e3)) (fun e => 4 ≤ e) w4)
    (ht : TRel χ (V.look [(5, .a (.ptr 2 0))]) a3.tmps) {R : Ending → World → Prop} (hR : (fun (e : Ending) (w' : World) => ∃ v' φ', e = .returned v' ∧ φ.le φ' ∧ (LV.a (.vec 0 0 7)).rel φ' v' ∧ MR w may φ' (memAft [] (outL (cells t a b c d))) (hdsAft [] (outL (cells t a b c d))) (fun e => (outL (cells t a b c d)).length ≤ e) w') = R) :
    (Code.seq (.region (idOf L5) (opsOf L5) false) .ret).wp Try.prog (bodyPostM Fence.wide 1 Try.prog Try.f45 R) { a3 with defers := { target := .collected w3.heap.size, args := #[] } :: a3.defers } w4 := by
  refine wp_seq ((wpIn_wide (n := 1)).1 (wpIn_region_list ?_))
  show wpListIn (roF none) 1 Try.prog (opsOf L5) _ (opsOf L5).toList _ w4
  refine runOps_wp0 tabRa6_ok (opsOf L5).toList 4 _ _ _ (x7_eq t (cells t a b c d) e0 e1 e2 e3) trivial χ _ w4 ht s3.sz h4 fun χ2 a5 w5 q1 q2 q3 q4 q5 => ?_
  show Code.ret.wp Try.prog (bodyPostM Fence.wide 1 Try.prog Try.f45 R) a5 w5
  refine wp_ret ?_
  have hd : w3.heap.size < ((wIn w3 rec).putObj (w3.heap.size + 1) (.loop { rec with state := .exhausted })).heap.size := by rw [World.putObj_size, wIn_size]; omega
  have hd0 : ((wIn w3 rec).putObj (w3.heap.size + 1) (.loop { rec with state := .exhausted })).heap[w3.heap.size]? = some (.deferred (some [])) := (World.putObj_heap_other (by omega)).trans (wIn_d w3 rec)
  have hd5 : w5.heap[w3.heap.size]? = some (.deferred (some [])) := (q5.block _ hd (fun h => by omega)).trans hd0
  have q6 := q5.putO hd5 rfl hd0 rfl (o' := .deferred none) rfl
  have hdef : a5.defers = [{ target := .collected w3.heap.size, args := #[] }] := by rw [q4, s3.df]
  show LeavesInM Fence.wide 1 Try.prog Try.f45 a5.tmps R a5.defers .returning w5
  rw [hdef]
  refine ⟨by simp, .inl ⟨w3.heap.size, _, rfl, run_takeDeferred hd5, ?_⟩⟩
  refine ⟨_, results_tmp res45 _ _ _, ?_⟩
  subst hR
  obtain ⟨i, hi, hh⟩ := q6.hdr 3 _ (x7_h t (cells t a b c d) e0 e1 e2 e3)
  obtain ⟨k1, i', hi', k2, k3⟩ := (show vrel χ2 3 0 (a5.tmps.getD 4 undef) (vecR 7 (a5.tmps.getD 4 undef)) from q2 4 _ (x7_4 t (cells t a b c d) e0 e1 e2 e3))
  rw [hi] at hi'
  obtain rfl := Option.some.inj hi'
  refine ⟨_, fun e => if e = 0 then some i else none, rfl, (fun e j hj => by rw [hφ e] at hj; cases hj), ⟨k1, i, by simp, k2, k3⟩, ?_⟩
  have old : ∀ {k : Nat}, k < w3.heap.size → (((wIn w3 rec).putObj (w3.heap.size + 1) (.loop { rec with state := .exhausted })).putObj w3.heap.size (.deferred none)).heap[k]? = w3.heap[k]? := fun {k} h => by
    rw [World.putObj_heap_other (by omega), World.putObj_heap_other (by omega), wIn_old w3 rec h]
  have hsz : (((wIn w3 rec).putObj (w3.heap.size + 1) (.loop { rec with state := .exhausted })).putObj w3.heap.size (.deferred none)).heap.size = w3.heap.size + 2 := by rw [World.putObj_size, World.putObj_size, wIn_size]
  have hs := q6.size
  rw [hsz] at hs
  refine end_mr (w := w) (may := may) hi hh ?_ ?_ ?_ ?_ ?_ ?_ ?_
  · intro r o ha hro
    obtain ⟨f1, f2⟩ := q6.own 3 i r o hi ha hro
    refine ⟨?_, f2⟩
    rcases f1 with f1 | f1
    · exact f1.1
    · rw [hsz] at f1
      have := s3.mr.size
      exact .inr (by omega)
  · rw [q6.os]; exact s3.mr.os
  · rw [q6.tape]; exact s3.mr.tape
  · rw [q6.output]; exact s3.mr.output
  · have := s3.mr.size; omega
  · intro k hk hm
    have h3 : k < w3.heap.size := Nat.lt_of_lt_of_le hk s3.mr.size
    rw [q6.block k (by rw [hsz]; omega) (fun h => h.1.elim hm (fun h => by omega)), old h3]
    exact s3.mr.block k hk hm
  · intro p
    rw [q6.frz, frozen_putO hd0 rfl rfl, frozen_putO (wIn_l w3 rec) rfl rfl, wIn_frz]
    exact s3.mr.frz p

set_option maxRecDepth 100000 in
theorem list_calls (t : Nat → Int) (a b c d : Int) (φ : Phi) (vs : Array Value) (w : World) (may : Nat → Prop) (ha : All2 (LV.rel φ) [trG t, bxG a b c d] vs.toList) (hM : MR w may φ (memOf []) (hdsIn [] (outL (cells t a b c d))) (fun e => ([] : List BC).length ≤ e) w) :
    Calls Try.prog 45 vs w fun e w' => ∃ v' φ', e = .returned v' ∧ φ.le φ' ∧ (LV.a (.vec 0 0 7)).rel φ' v' ∧ MR w may φ' (memAft [] (outL (cells t a b c d))) (hdsAft [] (outL (cells t a b c d))) (fun e => (outL (cells t a b c d)).length ≤ e) w' := by
  have hvs : vs.size = 2 := by
    have := ha.length
    simpa using this.symm
  refine (callsIn_wide (n := 1)).1 (callsIn_of_wp_marks Try.func45 body45 trivial ?_ rfl)
  refine wpIn_wide.2 ?_
  rw [cl_eq]
  have hM0 : MR w may φ (fun _ => none) (fun _ => none) (fun e => 0 ≤ e) w := hM.less (fun k x h => by cases h) (fun e g h => by cases h)
  have s0 : SR 16 lvL w may φ (V.look [(0, trG t), (1, bxG a b c d)]) (fun _ => none) (fun _ => none) 0 { tmps := vs ++ Array.replicate (Try.f45.ntmps - vs.size) undef, defers := [] } w := by
    refine ⟨?_, by rw [nt45, hvs]; simp [hvs], rfl, hM0⟩
    intro e lv h
    unfold filt at h
    split at h
    · obtain ⟨_, h2⟩ := args0_look [trG t, bxG a b c d] 0 e lv h
      simp only [Nat.sub_zero] at h2
      obtain ⟨x, hx, hr⟩ := ha.get h2
      have hx' : vs[e]? = some x := by simpa using hx
      have hlt : e < vs.size := (Array.getElem?_eq_some_iff.1 hx').1
      rw [Array.getD_eq_getD_getElem?, Array.getElem?_append_left hlt, hx']
      exact hr
    · cases h
  refine wp_seq ?_
  have k0 := ev_wp tabRa6_ok follows 2000 false L0 1 _ _ _ _ (y0_eq t a b c d) (LOK_nil _ _) trivial w may φ _ w s0 (Exit.then ((Code.seq L1 (.seq (.seq L2 (.block 0 (.rangeFunc (.tmp 9) #[10] (rfA RF) (rfB RF)))) (.seq (.region (idOf L5) (opsOf L5) false) .ret))).wp Try.prog (bodyPostM Fence.wide 1 Try.prog Try.f45 fun e w' => ∃ v' φ', e = .returned v' ∧ φ.le φ' ∧ (LV.a (.vec 0 0 7)).rel φ' v' ∧ MR w may φ' (memAft [] (outL (cells t a b c d))) (hdsAft [] (outL (cells t a b c d))) (fun e => (outL (cells t a b c d)).length ≤ e) w')) (bodyPostM Fence.wide 1 Try.prog Try.f45 fun e w' => ∃ v' φ', e = .returned v' ∧ φ.le φ' ∧ (LV.a (.vec 0 0 7)).rel φ' v' ∧ MR w may φ' (memAft [] (outL (cells t a b c d))) (hdsAft [] (outL (cells t a b c d))) (fun e => (outL (cells t a b c d)).length ≤ e) w')) fun e a1 w1 hg => by
    obtain ⟨⟨α, hα, hx, -, ψ, hle, s1⟩, -⟩ := hg
    rw [List.mem_singleton] at hα
    subst hα
    subst hx
    generalize hR : (fun (e : Ending) (w' : World) => ∃ v' φ', e = .returned v' ∧ φ.le φ' ∧ (LV.a (.vec 0 0 7)).rel φ' v' ∧ MR w may φ' (memAft [] (outL (cells t a b c d))) (hdsAft [] (outL (cells t a b c d))) (fun e => (outL (cells t a b c d)).length ≤ e) w') = R
    show (Code.seq L1 _).wp Try.prog (bodyPostM Fence.wide 1 Try.prog Try.f45 R) a1 w1
    refine wp_seq ?_
    have k1 := ev_wp tabRa6_ok follows 2000 false L1 1 _ _ _ _ (y1_eq t a b c d) (LOK_nil _ _) trivial w may ψ a1 w1 s1 (Exit.then ((Code.seq (.seq L2 (.block 0 (.rangeFunc (.tmp 9) #[10] (rfA RF) (rfB RF)))) (.seq (.region (idOf L5) (opsOf L5) false) .ret)).wp Try.prog (bodyPostM Fence.wide 1 Try.prog Try.f45 R)) (bodyPostM Fence.wide 1 Try.prog Try.f45 R)) fun e a2 w2 hg => by
      obtain ⟨⟨α, hα, hx, -, ψ2, hle2, s2⟩, -⟩ := hg
      rw [List.mem_singleton] at hα
      subst hα
      subst hx
      show (Code.seq (.seq L2 _) _).wp Try.prog (bodyPostM Fence.wide 1 Try.prog Try.f45 R) a2 w2
      refine wp_seq (wp_seq ?_)
      have k2 := ev_wp tabRa6_ok follows 2000 false L2 1 _ _ _ _ (y2_eq t a b c d) (LOK_nil _ _) trivial w may ψ2 a2 w2 s2 (Exit.then ((Code.block 0 (.rangeFunc (.tmp 9) #[10] (rfA RF) (rfB RF))).wp Try.prog (Exit.then ((Code.seq (.region (idOf L5) (opsOf L5) false) .ret).wp Try.prog (bodyPostM Fence.wide 1 Try.prog Try.f45 R)) (bodyPostM Fence.wide 1 Try.prog Try.f45 R))) (Exit.then ((Code.seq (.region (idOf L5) (opsOf L5) false) .ret).wp Try.prog (bodyPostM Fence.wide 1 Try.prog Try.f45 R)) (bodyPostM Fence.wide 1 Try.prog Try.f45 R))) fun e a3 w3 hg => by
        obtain ⟨⟨α, hα, hx, -, ψ3, hle3, s3⟩, -⟩ := hg
        rw [List.mem_singleton] at hα
        subst hα
        subst hx
        show (Code.block 0 (.rangeFunc (.tmp 9) #[10] (rfA RF) (rfB RF))).wp Try.prog _ a3 w3
        refine wp_block (loop_wp t a b c d s3 fun rec w4 χ e0 e1 e2 e3 h4 ht => ?_)
        have b4 := back_ok t a b c d s3 (fun e => hM0.dom e (Nat.zero_le e)) h4 ht hR
        simpa [Exit.inBlock, Exit.then] using b4
      simpa using k2
    simpa using k1
  simpa using k0
end Ra

end Go.Proofs.Ytcdejlgophpdjaa
end

section
namespace Go.Proofs.Ytcdejlgophpdjaa
open Go Go.RowKit Go.Proofs.Ytcdejlgophpdjaa.V
set_option linter.unusedVariables false

/-- A triangle by its numbers. -/
def tg (x0 x1 x2 x3 x4 x5 x6 x7 x8 x9 x10 x11 x12 x13 x14 x15 x16 x17 x18 x19 x20 x21 x22 x23 : Int) : Nat → Int := fun n => [x0, x1, x2, x3, x4, x5, x6, x7, x8, x9, x10, x11, x12, x13, x14, x15, x16, x17, x18, x19, x20, x21, x22, x23].getD n 0
/-- Its pixels in a box. -/
def lc (x0 x1 x2 x3 x4 x5 x6 x7 x8 x9 x10 x11 x12 x13 x14 x15 x16 x17 x18 x19 x20 x21 x22 x23 : Int) (b0 b1 b2 b3 : Int) : List (List Int) := Ra.cells (tg x0 x1 x2 x3 x4 x5 x6 x7 x8 x9 x10 x11 x12 x13 x14 x15 x16 x17 x18 x19 x20 x21 x22 x23) b0 b1 b2 b3
def listC : Con
  | [.g [.int true .i64 x0, .int true .i64 x1, .int true .i64 x2, .int true .i64 x3, .int true .i64 x4, .int true .i64 x5, .int true .i64 x6, .int true .i64 x7, .int true .i64 x8, .int true .i64 x9, .int true .i64 x10, .int true .i64 x11, .int true .i64 x12, .int true .i64 x13, .int true .i64 x14, .int true .i64 x15, .int true .i64 x16, .int true .i64 x17, .int true .i64 x18, .int true .i64 x19, .int true .i64 x20, .int true .i64 x21, .int true .i64 x22, .int true .i64 x23], .g [.int true .i64 b0, .int true .i64 b1, .int true .i64 b2, .int true .i64 b3]], [] => some ([], .a (.vec 0 0 7), [some ⟨⟨0, 0, false, some ⟨0, [.int .i64, .int .i64, .int .i64, .int .i64, .int .i64, .int .i64, .int .i64], lc x0 x1 x2 x3 x4 x5 x6 x7 x8 x9 x10 x11 x12 x13 x14 x15 x16 x17 x18 x19 x20 x21 x22 x23 b0 b1 b2 b3, none⟩⟩, []⟩])
  | _, _ => none
theorem listC_ok : ConOK Try.prog 45 (normC listC) := normC_ok (by
  intro args bs obs lv out h ho φ vs w may ha hM
  unfold listC at h
  split at h
  · simp only [Option.some.injEq, Prod.mk.injEq] at h
    obtain ⟨rfl, rfl, rfl⟩ := h
    rename_i x0 x1 x2 x3 x4 x5 x6 x7 x8 x9 x10 x11 x12 x13 x14 x15 x16 x17 x18 x19 x20 x21 x22 x23 b0 b1 b2 b3
    exact Ra.list_calls (tg x0 x1 x2 x3 x4 x5 x6 x7 x8 x9 x10 x11 x12 x13 x14 x15 x16 x17 x18 x19 x20 x21 x22 x23) b0 b1 b2 b3 φ vs w may ha hM
  · cases h)
def tabRd0 : Tab := (45, normC listC) :: tabRa6
theorem tabRd0_ok : TOK Try.prog tabRd0 := TOK.cons Ra.f45_en listC_ok tabRa6_ok

end Go.Proofs.Ytcdejlgophpdjaa
end

section
namespace Go.Proofs.Ytcdejlgophpdjaa
open Go Go.RowKit Go.Proofs.Ytcdejlgophpdjaa.V
set_option linter.unusedVariables false

/-! azulejo/azulejolaw18.Awake -/
def l18Aw_0 : Bool := bif sm13Tri_9 (-100 : Int) (-100 : Int) (120 : Int) (-100 : Int) (-100 : Int) (120 : Int) (0 : Int) then bif decide ((20 : Int) < Int.ofNat (91 : Nat)) then Int.ofNat (0 : Nat) == (0 : Int) else false else false
theorem l18Aw_p  : evG Try.prog tabRd0 2000 43 [0, 1, 2] [] [] [] [] = some ([], LV.a (At.bool true l18Aw_0), []) := by kernel_rfl
def l18Aw_c : Con
  | [], [] => some ([], LV.a (At.bool true l18Aw_0), [])
  | _, _ => none
theorem l18Aw_ok : ConOK Try.prog 43 (normC l18Aw_c) := normC_ok (by
  intro args bs obs lv out h ho φ vs w may ha hM
  unfold l18Aw_c at h
  split at h
  · simp only [Option.some.injEq, Prod.mk.injEq] at h
    obtain ⟨rfl, rfl, rfl⟩ := h
    exact evG_ok tabRd0_ok follows _ _ _ _ _ (l18Aw_p ) ho φ vs w may ha hM
  · cases h)
theorem l18Aw_en : Enters Try.prog 43 := fun args => by kernel_rfl
-- 296 572 3 ms

def tabRd1 : Tab := (43, normC l18Aw_c) :: tabRd0
theorem tabRd1_ok : TOK Try.prog tabRd1 := TOK.cons l18Aw_en l18Aw_ok (tabRd0_ok)

end Go.Proofs.Ytcdejlgophpdjaa
end

section
namespace Go.Proofs.Ytcdejlgophpdjaa
open Go Go.RowKit Go.Proofs.Ytcdejlgophpdjaa.V
set_option linter.unusedVariables false
set_option linter.unusedSectionVars false

namespace Ra
theorem rowX_mem (t : Nat → Int) (y : Int) : ∀ (n : Nat) (x : Int) (l : List (List Int)) (r : List Int), r ∈ rowX t y n x l → r ∈ l ∨ ∃ x', x ≤ x' ∧ x' < x + n ∧ at5 t x' y = true ∧ r = row t x' y
  | 0, x, l, r, h => .inl h
  | n + 1, x, l, r, h => by
    unfold rowX at h
    rcases rowX_mem t y n (x + 1) _ r h with h | ⟨x', h1, h2, h3⟩
    · cases hq : at5 t x y with
      | false => rw [hq] at h; exact .inl h
      | true =>
        rw [hq] at h
        simp only [cond_true, List.mem_append, List.mem_singleton] at h
        rcases h with h | h
        · exact .inl h
        · exact .inr ⟨x, Int.le_refl _, by omega, hq, h⟩
    · exact .inr ⟨x', by omega, by omega, h3⟩
theorem rowsY_mem (t : Nat → Int) (m : Nat) (a : Int) : ∀ (n : Nat) (y : Int) (l : List (List Int)) (r : List Int), r ∈ rowsY t m a n y l → r ∈ l ∨ ∃ x' y', a ≤ x' ∧ x' < a + m ∧ y ≤ y' ∧ y' < y + n ∧ at5 t x' y' = true ∧ r = row t x' y'
  | 0, y, l, r, h => .inl h
  | n + 1, y, l, r, h => by
    unfold rowsY at h
    rcases rowsY_mem t m a n (y + 1) _ r h with h | ⟨x', y', h1, h2, h3, h4, h5⟩
    · rcases rowX_mem t y m a l r h with h | ⟨x', h1, h2, h3⟩
      · exact .inl h
      · exact .inr ⟨x', y, h1, h2, Int.le_refl _, by omega, h3⟩
    · exact .inr ⟨x', y', h1, h2, by omega, by omega, h5⟩
theorem rowsY_len (t : Nat → Int) (m : Nat) (a : Int) : ∀ (n : Nat) (y : Int) (l : List (List Int)), (rowsY t m a n y l).length ≤ l.length + n * m
  | 0, y, l => by unfold rowsY; omega
  | n + 1, y, l => by
    unfold rowsY
    have h1 := rowsY_len t m a n (y + 1) (rowX t y m a l)
    have h2 := rowX_len t y m a l
    rw [Nat.succ_mul]
    omega
theorem lo_ge (a : Int) : 0 ≤ lo a ∧ a ≤ lo a := by unfold lo; split <;> omega
theorem up_le (a : Int) : up a ≤ 64 ∧ up a ≤ a := by unfold up; split <;> omega
theorem cells_len (t : Nat → Int) (a b c d : Int) : (cells t a b c d).length ≤ 4096 := by
  unfold cells
  cases ck t != 0
  · show (rowsY t (up c - lo a).toNat (lo a) (up d - lo b).toNat (lo b) []).length ≤ 4096
    refine Nat.le_trans (rowsY_len t _ _ _ _ _) ?_
    have l1 := lo_ge a
    have l2 := lo_ge b
    have u1 := up_le c
    have u2 := up_le d
    have := Nat.mul_le_mul (show (up d - lo b).toNat ≤ 64 by omega) (show (up c - lo a).toNat ≤ 64 by omega)
    simp only [List.length_nil]
    omega
  · exact Nat.zero_le _
theorem cells_mem {t : Nat → Int} {a b c d : Int} {r : List Int} (h : r ∈ cells t a b c d) : ck t = 0 ∧ ∃ x y, lo a ≤ x ∧ x < up c ∧ lo b ≤ y ∧ y < up d ∧ at5 t x y = true ∧ r = row t x y := by
  unfold cells at h
  cases hq : ck t != 0 with
  | true => rw [hq] at h; cases h
  | false =>
    rw [hq] at h
    refine ⟨?_, ?_⟩
    · by_cases e : ck t = 0
      · exact e
      · have : (ck t != 0) = true := by simp [e]
        rw [this] at hq; cases hq
    · rcases rowsY_mem t _ _ _ _ _ r h with h | ⟨x, y, h1, h2, h3, h4, h5, h6⟩
      · cases h
      · exact ⟨x, y, h1, by omega, h3, by omega, h5, h6⟩
theorem cells_none {t : Nat → Int} {a b c d : Int} (h : (ck t != 0) = true) : cells t a b c d = [] := by unfold cells; rw [h]; rfl
theorem rget_mem {l : List (List Int)} {i : Nat} (h : i < l.length) : ∃ r ∈ l, ∀ j, rget l i j = r.getD j 0 := by
  refine ⟨l[i], List.getElem_mem h, fun j => ?_⟩
  unfold rget
  rw [show l.getD i [] = l[i] from by rw [List.getD_eq_getElem?_getD, List.getElem?_eq_getElem h]; rfl]
/-- A loop that goes round so many times. -/
theorem inv_run {α : Type} {st : α → List Prop × List (X × Bool × α)} {I : Nat → α → Prop} {n : Nat} {x : X} (hx : x ≠ .n) (hs : ∀ i v, i < n → I i v → ∃ v', pick1 (st v).2 = some (.n, v') ∧ I (i + 1) v') (he : ∀ v, I n v → pick1 (st v).2 = some (x, v)) (ho : ∀ i v, i ≤ n → I i v → Alls (st v).1) :
    ∀ (d i : Nat) (v : α), i + d = n → I i v → ∀ f, d < f → (∃ v', lrun st f v = some (x, v') ∧ I n v') ∧ lok st f v
  | d, i, v, hi, h, 0, hf => by omega
  | 0, i, v, hi, h, f + 1, _ => by
    have : i = n := by omega
    subst this
    unfold lrun lok
    rw [he v h]
    refine ⟨⟨v, ?_, h⟩, ho i v (by omega) h, ?_⟩ <;> cases x <;> first | rfl | trivial | exact absurd rfl hx
  | d + 1, i, v, hi, h, f + 1, _ => by
    obtain ⟨v', h1, h2⟩ := hs i v (by omega) h
    obtain ⟨⟨u, a, b⟩, c⟩ := inv_run hx hs he ho d (i + 1) v' (by omega) h2 f (by omega)
    unfold lrun lok
    rw [h1]
    exact ⟨⟨u, a, b⟩, ho i v (by omega) h, c⟩
theorem aw : l18Aw_0 = true := by kernel_rfl
end Ra

end Go.Proofs.Ytcdejlgophpdjaa
end

section
namespace Go.Proofs.Ytcdejlgophpdjaa
open Go Go.RowKit Go.Proofs.Ytcdejlgophpdjaa.V
set_option linter.unusedVariables false
set_option linter.unusedSectionVars false

namespace Ra
def tl (w : Int) : Int := (w + 7) / 8

theorem tiles_eq {w : Int} (h0 : 0 ≤ w) (h1 : w ≤ 64) : bTiles_0 w = tl w := by
  unfold bTiles_0 bTiles_s0 tl
  rw [if_neg (by omega : ¬ w < 0), if_neg (by omega : ¬ 64 < w), w64_in (n := w + 8) (by omega) (by omega), w64_in (n := w + 8 - 1) (by omega) (by omega), Int.tdiv_eq_ediv_of_nonneg (by omega), w64_in (by omega) (by omega)]
  omega

theorem tl_bd {w : Int} (h0 : 0 ≤ w) (h1 : w ≤ 64) : 0 ≤ tl w ∧ tl w ≤ 8 := by unfold tl; omega

theorem mul_bd8 {x y : Int} (hx : 0 ≤ x ∧ x ≤ 8) (hy : 0 ≤ y ∧ y ≤ 8) : 0 ≤ x * y ∧ x * y ≤ 64 := by
  have h : x.natAbs * y.natAbs ≤ 8 * 8 := Nat.mul_le_mul (by omega) (by omega)
  rw [← Int.natAbs_mul] at h
  have := Int.mul_nonneg hx.1 hy.1
  omega

theorem gtiles_eq {w h : Int} (w0 : 0 ≤ w) (w1 : w ≤ 64) (h0 : 0 ≤ h) (h1 : h ≤ 64) : bGTiles_0 w h = tl w * tl h := by
  have := mul_bd8 (tl_bd w0 w1) (tl_bd h0 h1)
  unfold bGTiles_0
  rw [tiles_eq w0 w1, tiles_eq h0 h1, w64_in (by omega) (by omega)]

/-- No tile: no box. -/
theorem box_none {w h t : Int} (w0 : 0 ≤ w) (w1 : w ≤ 64) (h0 : 0 ≤ h) (h1 : h ≤ 64) (ht : t < 0 ∨ tl w * tl h ≤ t) : bBox_0 w h t = 0 ∧ bBox_1 w h t = 0 ∧ bBox_2 w h t = 0 ∧ bBox_3 w h t = 0 := by
  have e : bBox_s0 w h t = true := by
    unfold bBox_s0
    rw [gtiles_eq w0 w1 h0 h1]
    rcases ht with ht | ht <;> simp [ht]
  unfold bBox_0 bBox_1 bBox_2 bBox_3
  simp [e]

/-- A tile's box. -/
theorem box_some {w h t : Int} (w0 : 0 ≤ w) (w1 : w ≤ 64) (h0 : 0 ≤ h) (h1 : h ≤ 64) (t0 : 0 ≤ t) (t1 : t < tl w * tl h) :
    ∃ c r : Int, 0 ≤ c ∧ c < tl w ∧ 0 ≤ r ∧ r < tl h ∧ t = r * tl w + c ∧ bBox_0 w h t = 8 * c ∧ bBox_1 w h t = 8 * r ∧ bBox_2 w h t = (if w < 8 * c + 8 then w else 8 * c + 8) ∧ bBox_3 w h t = (if h < 8 * r + 8 then h else 8 * r + 8) := by
  have hc := tl_bd w0 w1
  have hr := tl_bd h0 h1
  have hN := mul_bd8 hc hr
  have e : bBox_s0 w h t = false := by
    unfold bBox_s0
    rw [gtiles_eq w0 w1 h0 h1]
    have a1 : ¬ t < 0 := by omega
    have a2 : ¬ tl w * tl h ≤ t := by omega
    simp [a1, a2]
  have hpos : 0 < tl w := by
    rcases Int.lt_or_eq_of_le hc.1 with h' | h'
    · exact h'
    · rw [← h', Int.zero_mul] at t1; omega
  have m0 := Int.emod_nonneg t (show tl w ≠ 0 by omega)
  have m1 := Int.emod_lt_of_pos t hpos
  have d0 : 0 ≤ t / tl w := Int.ediv_nonneg t0 hc.1
  have d1 : t / tl w < tl h := by
    apply Int.ediv_lt_of_lt_mul hpos
    rw [Int.mul_comm]; exact t1
  have dm := Int.emod_add_mul_ediv t (tl w)
  refine ⟨t % tl w, t / tl w, m0, m1, d0, d1, by rw [Int.mul_comm]; omega, ?_⟩
  unfold bBox_0 bBox_1 bBox_2 bBox_3 bBox_s3 bBox_s4 bBox_s1 bBox_s2
  rw [tiles_eq w0 w1, Int.tmod_eq_emod_of_nonneg t0, Int.tdiv_eq_ediv_of_nonneg t0]
  generalize t % tl w = c at *
  generalize t / tl w = r at *
  rw [w64_in (n := r) (by omega) (by omega), w64_in (n := c * 8) (by omega) (by omega), w64_in (n := r * 8) (by omega) (by omega), w64_in (n := c * 8 + 8) (by omega) (by omega), w64_in (n := r * 8 + 8) (by omega) (by omega)]
  simp only [e, cond_false]
  refine ⟨by omega, by omega, ?_, ?_⟩
  · rw [show c * 8 = 8 * c by omega]
  · rw [show r * 8 = 8 * r by omega]

theorem tl_lt {c w : Int} (h : c < tl w) : 8 * c < w := by unfold tl at h; omega

section
variable {w h : Int} (w0 : 1 ≤ w) (w1 : w ≤ 64) (h0 : 1 ≤ h) (h1 : h ≤ 64)
include w0 w1 h0 h1
/-- Two tiles have no pixel in common. -/
theorem apart_tiles {t n x y : Int} (t0 : 0 ≤ t) (t1 : t < tl w * tl h) (n0 : 0 ≤ n) (n1 : n < tl w * tl h) (hp : bBox_0 w h t ≤ x ∧ x < bBox_2 w h t ∧ bBox_1 w h t ≤ y ∧ y < bBox_3 w h t ∧ bBox_0 w h n ≤ x ∧ x < bBox_2 w h n ∧ bBox_1 w h n ≤ y ∧ y < bBox_3 w h n) : t = n := by
  obtain ⟨c, r, q1, q2, q3, q4, q5, q6, q7, q8, q9⟩ := box_some (by omega) w1 (by omega) h1 t0 t1
  obtain ⟨c', r', p1, p2, p3, p4, p5, p6, p7, p8, p9⟩ := box_some (by omega) w1 (by omega) h1 n0 n1
  rw [q6, q7, q8, q9, p6, p7, p8, p9] at hp
  have ec : c = c' := by
    have a1 : (if w < 8 * c + 8 then w else 8 * c + 8) ≤ 8 * c + 8 := by split <;> omega
    have a2 : (if w < 8 * c' + 8 then w else 8 * c' + 8) ≤ 8 * c' + 8 := by split <;> omega
    omega
  have er : r = r' := by
    have a1 : (if h < 8 * r + 8 then h else 8 * r + 8) ≤ 8 * r + 8 := by split <;> omega
    have a2 : (if h < 8 * r' + 8 then h else 8 * r' + 8) ≤ 8 * r' + 8 := by split <;> omega
    omega
  rw [q5, p5, ec, er]


/-- A pixel lies in a tile. -/
theorem tile_of {x y : Int} (x0 : 0 ≤ x) (x1 : x < w) (y0 : 0 ≤ y) (y1 : y < h) : ∃ t, 0 ≤ t ∧ t < tl w * tl h ∧ bBox_0 w h t ≤ x ∧ x < bBox_2 w h t ∧ bBox_1 w h t ≤ y ∧ y < bBox_3 w h t := by
  have e1 : 0 ≤ x / 8 ∧ x / 8 < tl w := by unfold tl; omega
  have e2 : 0 ≤ y / 8 ∧ y / 8 < tl h := by unfold tl; omega
  have m0 : 0 ≤ y / 8 * tl w := Int.mul_nonneg e2.1 (by omega)
  have m1 : (y / 8 + 1) * tl w ≤ tl h * tl w := Int.mul_le_mul_of_nonneg_right (by omega) (by omega)
  have m2 : (y / 8 + 1) * tl w = y / 8 * tl w + tl w := by grind
  have m3 : tl h * tl w = tl w * tl h := Int.mul_comm _ _
  have t0 : 0 ≤ y / 8 * tl w + x / 8 := by omega
  have t1 : y / 8 * tl w + x / 8 < tl w * tl h := by omega
  obtain ⟨c, r, q1, q2, q3, q4, q5, q6, q7, q8, q9⟩ := box_some (by omega) w1 (by omega) h1 t0 t1
  have er : r = y / 8 := by
    rcases Int.lt_trichotomy r (y / 8) with h' | h' | h'
    · have : (r + 1) * tl w ≤ y / 8 * tl w := Int.mul_le_mul_of_nonneg_right (by omega) (by omega)
      have e : (r + 1) * tl w = r * tl w + tl w := by grind
      omega
    · exact h'
    · have : (y / 8 + 1) * tl w ≤ r * tl w := Int.mul_le_mul_of_nonneg_right (by omega) (by omega)
      omega
  subst er
  have ec : c = x / 8 := by omega
  subst ec
  refine ⟨_, t0, t1, ?_⟩
  rw [q6, q7, q8, q9]
  refine ⟨by omega, ?_, by omega, ?_⟩ <;> (split <;> omega)
theorem tile_in {t : Int} (t0 : 0 ≤ t) (t1 : t < tl w * tl h) : 0 ≤ bBox_0 w h t ∧ bBox_2 w h t ≤ w ∧ 0 ≤ bBox_1 w h t ∧ bBox_3 w h t ≤ h := by
  obtain ⟨c, r, q1, q2, q3, q4, q5, q6, q7, q8, q9⟩ := box_some (by omega) w1 (by omega) h1 t0 t1
  rw [q6, q7, q8, q9]
  refine ⟨by omega, ?_, by omega, ?_⟩ <;> (split <;> omega)
end

/-! What two boxes have in common. -/
theorem mn (p q : Int) : (if q < p then q else p) ≤ p ∧ (if q < p then q else p) ≤ q ∧ ((if q < p then q else p) = p ∨ (if q < p then q else p) = q) := by split <;> omega
theorem mx (p q : Int) : p ≤ (if p < q then q else p) ∧ q ≤ (if p < q then q else p) ∧ ((if p < q then q else p) = p ∨ (if p < q then q else p) = q) := by split <;> omega
section
variable (a0 a1 a2 a3 b0 b1 b2 b3 : Int)
theorem meet_iff (x y : Int) : (bMeet_0 a0 a1 a2 a3 b0 b1 b2 b3 ≤ x ∧ x < bMeet_2 a0 a1 a2 a3 b0 b1 b2 b3 ∧ bMeet_1 a0 a1 a2 a3 b0 b1 b2 b3 ≤ y ∧ y < bMeet_3 a0 a1 a2 a3 b0 b1 b2 b3) ↔
    (a0 ≤ x ∧ x < a2 ∧ a1 ≤ y ∧ y < a3) ∧ (b0 ≤ x ∧ x < b2 ∧ b1 ≤ y ∧ y < b3) := by
  have m0 : bMeet_s0 a2 b2 ≤ a2 ∧ bMeet_s0 a2 b2 ≤ b2 ∧ (bMeet_s0 a2 b2 = a2 ∨ bMeet_s0 a2 b2 = b2) := mn a2 b2
  have m1 : a0 ≤ bMeet_s1 a0 b0 ∧ b0 ≤ bMeet_s1 a0 b0 ∧ (bMeet_s1 a0 b0 = a0 ∨ bMeet_s1 a0 b0 = b0) := mx a0 b0
  have m2 : bMeet_s2 a3 b3 ≤ a3 ∧ bMeet_s2 a3 b3 ≤ b3 ∧ (bMeet_s2 a3 b3 = a3 ∨ bMeet_s2 a3 b3 = b3) := mn a3 b3
  have m3 : a1 ≤ bMeet_s3 a1 b1 ∧ b1 ≤ bMeet_s3 a1 b1 ∧ (bMeet_s3 a1 b1 = a1 ∨ bMeet_s3 a1 b1 = b1) := mx a1 b1
  unfold bMeet_0 bMeet_1 bMeet_2 bMeet_3
  cases hs : bMeet_s4 a0 a1 a2 a3 b0 b1 b2 b3 with
  | false =>
    simp only [cond_false]
    omega
  | true =>
    simp only [cond_true]
    unfold bMeet_s4 at hs
    have : bMeet_s0 a2 b2 ≤ bMeet_s1 a0 b0 ∨ bMeet_s2 a3 b3 ≤ bMeet_s3 a1 b1 := by
      by_cases h : bMeet_s0 a2 b2 ≤ bMeet_s1 a0 b0
      · exact .inl h
      · rw [decide_eq_false h] at hs
        exact .inr (of_decide_eq_true hs)
    omega
theorem meet_bd {n : Int} (hn : 0 ≤ n) (h0 : 0 ≤ a0) (h1 : 0 ≤ a1) (h2 : a2 ≤ n) (h3 : a3 ≤ n) : 0 ≤ bMeet_0 a0 a1 a2 a3 b0 b1 b2 b3 ∧ 0 ≤ bMeet_1 a0 a1 a2 a3 b0 b1 b2 b3 ∧ bMeet_2 a0 a1 a2 a3 b0 b1 b2 b3 ≤ n ∧ bMeet_3 a0 a1 a2 a3 b0 b1 b2 b3 ≤ n := by
  have m0 : bMeet_s0 a2 b2 ≤ a2 ∧ bMeet_s0 a2 b2 ≤ b2 ∧ (bMeet_s0 a2 b2 = a2 ∨ bMeet_s0 a2 b2 = b2) := mn a2 b2
  have m1 : a0 ≤ bMeet_s1 a0 b0 ∧ b0 ≤ bMeet_s1 a0 b0 ∧ (bMeet_s1 a0 b0 = a0 ∨ bMeet_s1 a0 b0 = b0) := mx a0 b0
  have m2 : bMeet_s2 a3 b3 ≤ a3 ∧ bMeet_s2 a3 b3 ≤ b3 ∧ (bMeet_s2 a3 b3 = a3 ∨ bMeet_s2 a3 b3 = b3) := mn a3 b3
  have m3 : a1 ≤ bMeet_s3 a1 b1 ∧ b1 ≤ bMeet_s3 a1 b1 ∧ (bMeet_s3 a1 b1 = a1 ∨ bMeet_s3 a1 b1 = b1) := mx a1 b1
  unfold bMeet_0 bMeet_1 bMeet_2 bMeet_3
  cases hs : bMeet_s4 a0 a1 a2 a3 b0 b1 b2 b3 with
  | false => simp only [cond_false]; omega
  | true => simp only [cond_true]; omega
end

theorem rowX_app (t : Nat → Int) (y : Int) : ∀ (n : Nat) (x : Int) (l : List (List Int)), rowX t y n x l = l ++ rowX t y n x []
  | 0, x, l => by unfold rowX; rw [List.append_nil]
  | n + 1, x, l => by
    unfold rowX
    cases Ra.at5 t x y with
    | false => exact rowX_app t y n (x + 1) l
    | true =>
      rw [cond_true, cond_true, rowX_app t y n (x + 1) (l ++ [row t x y]), rowX_app t y n (x + 1) ([] ++ [row t x y]), List.nil_append, List.append_assoc]
theorem rowsY_app (t : Nat → Int) (m : Nat) (a : Int) : ∀ (n : Nat) (y : Int) (l : List (List Int)), rowsY t m a n y l = l ++ rowsY t m a n y []
  | 0, y, l => by unfold rowsY; rw [List.append_nil]
  | n + 1, y, l => by
    unfold rowsY
    rw [rowsY_app t m a n (y + 1) (rowX t y m a l), rowsY_app t m a n (y + 1) (rowX t y m a []), rowX_app t y m a l, List.append_assoc]
theorem rget_at (p r : List (List Int)) (q : List Int) (j : Nat) : rget (p ++ q :: r) p.length j = q.getD j 0 := by
  unfold rget
  rw [show (p ++ q :: r).getD p.length [] = q from by rw [List.getD_eq_getElem?_getD, List.getElem?_append_right (Nat.le_refl _), Nat.sub_self]; rfl]

/-! Each pixel once. -/
theorem rowX_in (t : Nat → Int) (y : Int) (n : Nat) : ∀ (x x' : Int), x ≤ x' → x' < x + n → Ra.at5 t x' y = true → ∀ r, r = row t x' y → r ∈ rowX t y n x [] := by
  induction n with
  | zero => intro x x' h1 h2; exfalso; omega
  | succ n ih =>
    intro x x' h1 h2 h3 r hr
    have e0 : rowX t y (n + 1) x [] = rowX t y n (x + 1) (bif Ra.at5 t x y then [] ++ [row t x y] else []) := by rw [rowX]
    rw [e0, rowX_app, List.mem_append]
    by_cases e : x = x'
    · refine .inl ?_
      rw [e, h3, cond_true, List.nil_append, hr]
      exact List.mem_singleton.2 rfl
    · exact .inr (ih (x + 1) x' (by omega) (by omega) h3 r hr)
theorem rowsY_in (t : Nat → Int) (m : Nat) (a : Int) (n : Nat) : ∀ (y x' y' : Int), a ≤ x' → x' < a + m → y ≤ y' → y' < y + n → Ra.at5 t x' y' = true → ∀ r, r = row t x' y' → r ∈ rowsY t m a n y [] := by
  induction n with
  | zero => intro y x' y' h1 h2 h3 h4; exfalso; omega
  | succ n ih =>
    intro y x' y' h1 h2 h3 h4 h5 r hr
    have e0 : rowsY t m a (n + 1) y [] = rowsY t m a n (y + 1) (rowX t y m a []) := by rw [rowsY]
    rw [e0, rowsY_app, List.mem_append]
    by_cases e : y = y'
    · refine .inl ?_
      rw [e]
      exact rowX_in t y' m a x' h1 h2 h5 r hr
    · exact .inr (ih (y + 1) x' y' h1 h2 (by omega) (by omega) h5 r hr)
theorem rowX_nodup (t : Nat → Int) (y : Int) : ∀ (n : Nat) (x : Int), (rowX t y n x []).Nodup
  | 0, x => List.nodup_nil
  | n + 1, x => by
    unfold rowX
    cases Ra.at5 t x y with
    | false => exact rowX_nodup t y n (x + 1)
    | true =>
      rw [cond_true, rowX_app, List.nil_append, List.nodup_append]
      refine ⟨by simp, rowX_nodup t y n (x + 1), fun p hp q hq e => ?_⟩
      rw [List.mem_singleton] at hp
      rcases rowX_mem t y n (x + 1) [] q hq with h | ⟨x', h1, h2, h3, h4⟩
      · cases h
      · rw [← e, hp] at h4
        have : x = x' := congrArg (fun l : List Int => l.headD 0) h4
        omega
theorem rowsY_nodup (t : Nat → Int) (m : Nat) (a : Int) : ∀ (n : Nat) (y : Int), (rowsY t m a n y []).Nodup
  | 0, y => List.nodup_nil
  | n + 1, y => by
    unfold rowsY
    rw [rowsY_app, List.nodup_append]
    refine ⟨rowX_nodup t y m a, rowsY_nodup t m a n (y + 1), fun p hp q hq e => ?_⟩
    rcases rowX_mem t y m a [] p hp with h | ⟨x', h1, h2, h3, h4⟩
    · cases h
    rcases rowsY_mem t m a n (y + 1) [] q hq with h | ⟨x'', y'', g1, g2, g3, g4, g5, g6⟩
    · cases h
    rw [e, g6] at h4
    have : y'' = y := congrArg (fun l : List Int => l.getD 1 0) h4
    omega
theorem cells_nodup (t : Nat → Int) (a b c d : Int) : (cells t a b c d).Nodup := by
  unfold cells
  cases ck t != 0
  · exact rowsY_nodup t _ _ _ _
  · exact List.nodup_nil
theorem cells_iff (t : Nat → Int) (a b c d : Int) (r : List Int) : r ∈ cells t a b c d ↔ ck t = 0 ∧ ∃ x y, (a ≤ x ∧ x < c ∧ b ≤ y ∧ y < d) ∧ (0 ≤ x ∧ x < 64 ∧ 0 ≤ y ∧ y < 64) ∧ Ra.at5 t x y = true ∧ r = row t x y := by
  have l0 := lo_ge a
  have l1 := lo_ge b
  have u0 := up_le c
  have u1 := up_le d
  constructor
  · intro h
    obtain ⟨h0, x, y, h1, h2, h3, h4, h5⟩ := cells_mem h
    exact ⟨h0, x, y, by omega, by omega, h5⟩
  · rintro ⟨h0, x, y, h1, h2, h3, rfl⟩
    have e1 : lo a ≤ x := by unfold lo; split <;> omega
    have e2 : lo b ≤ y := by unfold lo; split <;> omega
    have e3 : x < up c := by unfold up; split <;> omega
    have e4 : y < up d := by unfold up; split <;> omega
    unfold cells
    rw [show (ck t != 0) = false from by rw [h0]; rfl]
    exact rowsY_in t _ _ _ _ x y e1 (by omega) e2 (by omega) h3 _ rfl

/-! The tiles that are told of. -/
def told (f : Int → Bool) : Nat → Int → List (List Int)
  | 0, _ => []
  | n + 1, t => (bif f t then [[t]] else []) ++ told f n (t + 1)
def tD (L : Int → List (List Int)) (f : Int → Bool) : Nat → Int → List (List Int)
  | 0, _ => []
  | n + 1, t => (bif f t then L t else []) ++ tD L f n (t + 1)
theorem told_len (f : Int → Bool) : ∀ (n : Nat) (t : Int), (told f n t).length ≤ n
  | 0, t => Nat.le_refl _
  | n + 1, t => by
    have := told_len f n (t + 1)
    unfold told
    cases f t <;> simp <;> omega
theorem told_snoc (f : Int → Bool) : ∀ (n : Nat) (t : Int), told f (n + 1) t = told f n t ++ (bif f (t + n) then [[t + n]] else [])
  | 0, t => by simp [told]
  | n + 1, t => by
    rw [told, told_snoc f n (t + 1), told, List.append_assoc, show t + 1 + (n : Int) = t + ((n + 1 : Nat) : Int) by omega]
theorem tD_mem (L : Int → List (List Int)) (f : Int → Bool) (r : List Int) : ∀ (n : Nat) (t : Int), r ∈ tD L f n t ↔ ∃ j, t ≤ j ∧ j < t + n ∧ f j = true ∧ r ∈ L j
  | 0, t => by
    constructor
    · intro h; cases h
    · rintro ⟨j, h1, h2, _⟩; omega
  | n + 1, t => by
    unfold tD
    rw [List.mem_append, tD_mem L f r n (t + 1)]
    constructor
    · rintro (h | ⟨j, h1, h2, h3⟩)
      · cases hf : f t with
        | false => rw [hf] at h; cases h
        | true => rw [hf] at h; exact ⟨t, by omega, by omega, hf, h⟩
      · exact ⟨j, by omega, by omega, h3⟩
    · rintro ⟨j, h1, h2, h3, h4⟩
      by_cases e : t = j
      · subst e
        rw [h3]; exact .inl h4
      · exact .inr ⟨j, by omega, by omega, h3, h4⟩
theorem tD_nodup {L : Int → List (List Int)} {f : Int → Bool} {N : Int} (hL : ∀ j, (L j).Nodup) (hd : ∀ i j r, 0 ≤ i → i < N → 0 ≤ j → j < N → r ∈ L i → r ∈ L j → i = j) : ∀ (n : Nat) (t : Int), 0 ≤ t → t + n ≤ N → (tD L f n t).Nodup
  | 0, t, _, _ => List.nodup_nil
  | n + 1, t, h0, h1 => by
    unfold tD
    rw [List.nodup_append]
    refine ⟨by cases f t with
      | false => exact List.nodup_nil
      | true => exact hL t, tD_nodup hL hd n (t + 1) (by omega) (by omega), fun p hp q hq e => ?_⟩
    subst e
    obtain ⟨j, g1, g2, g3, g4⟩ := (tD_mem L f p n (t + 1)).1 hq
    have hp' : p ∈ L t := by
      cases hf : f t with
      | false => rw [hf] at hp; cases hp
      | true => rw [hf] at hp; exact hp
    have := hd t j p h0 (by omega) (by omega) (by omega) hp' g4
    omega
theorem tD_len (L : Int → List (List Int)) (f : Int → Bool) : ∀ (n : Nat) (t : Int), (tD L f n t).length = ((told f n t).map fun r => (L (r.getD 0 0)).length).sum
  | 0, t => rfl
  | n + 1, t => by
    unfold tD told
    rw [List.length_append, List.map_append, List.sum_append, tD_len L f n (t + 1)]
    cases f t <;> simp
end Ra

end Go.Proofs.Ytcdejlgophpdjaa
end

section
namespace Go.Proofs.Ytcdejlgophpdjaa
open Go Go.RowKit Go.Proofs.Ytcdejlgophpdjaa.V
set_option linter.unusedVariables false

def bOf_D : Tab := (2, decC [(29, false)]) :: tabRd1
theorem bOf_D_ok : TOK Try.prog bOf_D := TOK.cons (fun args => by kernel_rfl) (fun _ _ _ _ _ h ho => (decC_ok h ho).elim) tabRd1_ok
/-! (azulejo/bin.Grid).Of -/
noncomputable def bOf_l125_code : Go.Code := loopOf (subs (bodyOf Try.prog 28) 1 125)
structure bOf_l125_T where
  a0 : Int
  a1 : Int
  a2 : Int
  a3 : Int
  a4 : Int
  a5 : Int
  a6 : Int
  a7 : Int
  a8 : Int
  a9 : Int
  a10 : Int
  a11 : Int
  a12 : Int
  a13 : Int
  a14 : List (List Int)
  deriving Inhabited
def bOf_l125_hd (v : bOf_l125_T) : HS := HS.mk [(nat_lit 3, LV.a (At.ptr (nat_lit 0) (nat_lit 0))), (nat_lit 4, LV.a (At.ptr (nat_lit 1) (nat_lit 0))), (nat_lit 6, LV.a At.nils), (nat_lit 7, LV.a (At.vec (nat_lit 3) (nat_lit 0) (nat_lit 1))), (nat_lit 8, LV.a (At.ptr (nat_lit 2) (nat_lit 0))), (nat_lit 20, LV.a (At.int true IntKind.i64 (bOf_l125_T.a0 v))), (nat_lit 21, LV.a (At.int true IntKind.i64 (bOf_l125_T.a1 v)))] [BC.mk (Hd.mk (nat_lit 0) (nat_lit 2) true none) [some (At.int true IntKind.i64 (bOf_l125_T.a2 v)), some (At.int true IntKind.i64 (bOf_l125_T.a3 v))], BC.mk (Hd.mk (nat_lit 0) (nat_lit 6) true none) [some (At.int true IntKind.i64 (bOf_l125_T.a4 v)), some (At.int true IntKind.i64 (bOf_l125_T.a5 v)), some (At.int true IntKind.i64 (bOf_l125_T.a6 v)), some (At.int true IntKind.i64 (bOf_l125_T.a7 v)), some (At.int true IntKind.i64 (bOf_l125_T.a8 v)), some (At.int true IntKind.i64 (bOf_l125_T.a9 v))], BC.mk (Hd.mk (nat_lit 0) (nat_lit 4) true none) [some (At.int true IntKind.i64 (bOf_l125_T.a10 v)), some (At.int true IntKind.i64 (bOf_l125_T.a11 v)), some (At.int true IntKind.i64 (bOf_l125_T.a12 v)), some (At.int true IntKind.i64 (bOf_l125_T.a13 v))], BC.mk (Hd.mk (nat_lit 0) (nat_lit 0) false (some (Rw.mk (nat_lit 0) [Kd.int IntKind.i64] (bOf_l125_T.a14 v) none))) []]
def bOf_l125_s0 (v : bOf_l125_T) : Bool := decide (bOf_l125_T.a1 v < bOf_l125_T.a0 v)
def bOf_l125_s1 (v : bOf_l125_T) : Int := bMeet_0 (bBox_0 (bOf_l125_T.a2 v) (bOf_l125_T.a3 v) (bOf_l125_T.a1 v)) (bBox_1 (bOf_l125_T.a2 v) (bOf_l125_T.a3 v) (bOf_l125_T.a1 v)) (bBox_2 (bOf_l125_T.a2 v) (bOf_l125_T.a3 v) (bOf_l125_T.a1 v)) (bBox_3 (bOf_l125_T.a2 v) (bOf_l125_T.a3 v) (bOf_l125_T.a1 v)) (bOf_l125_T.a10 v) (bOf_l125_T.a11 v) (bOf_l125_T.a12 v) (bOf_l125_T.a13 v)
def bOf_l125_s2 (v : bOf_l125_T) : Int := bMeet_1 (bBox_0 (bOf_l125_T.a2 v) (bOf_l125_T.a3 v) (bOf_l125_T.a1 v)) (bBox_1 (bOf_l125_T.a2 v) (bOf_l125_T.a3 v) (bOf_l125_T.a1 v)) (bBox_2 (bOf_l125_T.a2 v) (bOf_l125_T.a3 v) (bOf_l125_T.a1 v)) (bBox_3 (bOf_l125_T.a2 v) (bOf_l125_T.a3 v) (bOf_l125_T.a1 v)) (bOf_l125_T.a10 v) (bOf_l125_T.a11 v) (bOf_l125_T.a12 v) (bOf_l125_T.a13 v)
def bOf_l125_s3 (v : bOf_l125_T) : Int := bMeet_2 (bBox_0 (bOf_l125_T.a2 v) (bOf_l125_T.a3 v) (bOf_l125_T.a1 v)) (bBox_1 (bOf_l125_T.a2 v) (bOf_l125_T.a3 v) (bOf_l125_T.a1 v)) (bBox_2 (bOf_l125_T.a2 v) (bOf_l125_T.a3 v) (bOf_l125_T.a1 v)) (bBox_3 (bOf_l125_T.a2 v) (bOf_l125_T.a3 v) (bOf_l125_T.a1 v)) (bOf_l125_T.a10 v) (bOf_l125_T.a11 v) (bOf_l125_T.a12 v) (bOf_l125_T.a13 v)
def bOf_l125_s4 (v : bOf_l125_T) : Int := bMeet_3 (bBox_0 (bOf_l125_T.a2 v) (bOf_l125_T.a3 v) (bOf_l125_T.a1 v)) (bBox_1 (bOf_l125_T.a2 v) (bOf_l125_T.a3 v) (bOf_l125_T.a1 v)) (bBox_2 (bOf_l125_T.a2 v) (bOf_l125_T.a3 v) (bOf_l125_T.a1 v)) (bBox_3 (bOf_l125_T.a2 v) (bOf_l125_T.a3 v) (bOf_l125_T.a1 v)) (bOf_l125_T.a10 v) (bOf_l125_T.a11 v) (bOf_l125_T.a12 v) (bOf_l125_T.a13 v)
def bOf_l125_s5 (v : bOf_l125_T) : Bool := bif !(bOf_l125_s1 v == (0 : Int) && (bOf_l125_s2 v == (0 : Int) && (bOf_l125_s3 v == (0 : Int) && bOf_l125_s4 v == (0 : Int)))) then !bOut_0 (bOf_l125_T.a4 v) (bOf_l125_T.a5 v) (bOf_l125_T.a6 v) (bOf_l125_T.a7 v) (bOf_l125_T.a8 v) (bOf_l125_T.a9 v) (bOf_l125_s1 v) (bOf_l125_s2 v) (bOf_l125_s3 v) (bOf_l125_s4 v) else false
def bOf_l125_s6 (v : bOf_l125_T) : List (List Int) := bOf_l125_T.a14 v ++ [[bOf_l125_T.a1 v]]
def bOf_l125_st (v : bOf_l125_T) : List Prop × List (X × Bool × bOf_l125_T) := ([bOf_l125_s0 v = true → (!bBox_s0 (bOf_l125_T.a2 v) (bOf_l125_T.a3 v) (bOf_l125_T.a1 v)) = true → bTiles_0 (bOf_l125_T.a2 v) ≠ (0 : Int), bOf_l125_s0 v = true → (!bBox_s0 (bOf_l125_T.a2 v) (bOf_l125_T.a3 v) (bOf_l125_T.a1 v)) = true → bTiles_0 (bOf_l125_T.a2 v) ≠ (0 : Int), bOf_l125_s0 v = true → bOf_l125_s5 v = true → List.length (bOf_l125_s6 v) * (8 : Nat) ≤ (70368744177664 : Nat)], [(X.e (0 : Nat), !bOf_l125_s0 v, bOf_l125_T.mk (bOf_l125_T.a0 v) (bOf_l125_T.a1 v) (bOf_l125_T.a2 v) (bOf_l125_T.a3 v) (bOf_l125_T.a4 v) (bOf_l125_T.a5 v) (bOf_l125_T.a6 v) (bOf_l125_T.a7 v) (bOf_l125_T.a8 v) (bOf_l125_T.a9 v) (bOf_l125_T.a10 v) (bOf_l125_T.a11 v) (bOf_l125_T.a12 v) (bOf_l125_T.a13 v) (bOf_l125_T.a14 v)), (X.n, bOf_l125_s0 v, bOf_l125_T.mk (bOf_l125_T.a0 v) (IntKind.wrap IntKind.i64 (bOf_l125_T.a1 v + (1 : Int))) (bOf_l125_T.a2 v) (bOf_l125_T.a3 v) (bOf_l125_T.a4 v) (bOf_l125_T.a5 v) (bOf_l125_T.a6 v) (bOf_l125_T.a7 v) (bOf_l125_T.a8 v) (bOf_l125_T.a9 v) (bOf_l125_T.a10 v) (bOf_l125_T.a11 v) (bOf_l125_T.a12 v) (bOf_l125_T.a13 v) (bif bOf_l125_s5 v then bOf_l125_s6 v else bOf_l125_T.a14 v))])
def bOf_l125_rd : HS → Option bOf_l125_T := rdS [.i, .i, .i, .i, .i, .i, .i, .i, .i, .i, .i, .i, .i, .i, .r] (fun l => bOf_l125_T.mk (gI l 0) (gI l 1) (gI l 2) (gI l 3) (gI l 4) (gI l 5) (gI l 6) (gI l 7) (gI l 8) (gI l 9) (gI l 10) (gI l 11) (gI l 12) (gI l 13) (gR l 14)) bOf_l125_hd
def bOf_l125_sum : V.Sum := loopS bOf_l125_hd bOf_l125_rd bOf_l125_st 18446744073709551616 [X.e (0 : Nat)] [0, 1, 2, 3, 4, 5, 6, 7, 8, 9, 10, 13, 20, 21, 22, 37] [3, 4, 6, 7, 8, 20, 21] [3] [3] [(7, [.int .i64])] 0
theorem bOf_l125_E : ∀ v, bodyF Try.prog bOf_D (ntOf Try.prog 28) [0, 1, 2, 3, 4, 5, 6, 7, 8, 9, 10, 13, 20, 21, 22, 37] [3, 4, 6, 7, 8, 20, 21] [] 2000 [3] [3] bOf_l125_code 500 (bOf_l125_hd v) = some ((bOf_l125_st v).1, (bOf_l125_st v).2.map fun q => (q.1, q.2.1, bOf_l125_hd q.2.2)) := fun v => by kernel_rfl
theorem bOf_l125_R : ∀ h v, bOf_l125_rd h = some v → h = bOf_l125_hd v := rdS_ok fun l => by kernel_rfl
set_option maxRecDepth 100000 in
theorem bOf_l125_sok : SumOK Try.prog (ntOf Try.prog 28) [0, 1, 2, 3, 4, 5, 6, 7, 8, 9, 10, 13, 20, 21, 22, 37] (.block (blockOf (subs (bodyOf Try.prog 28) 1 125)) (.loop bOf_l125_code)) bOf_l125_sum := loopS_ok bOf_D_ok follows bOf_l125_E bOf_l125_R (fun v => by kernel_rfl) (LOK_of _ _ (LOK_nil'))
def bOf_0 (x0_0 x0_1 x1_0 x1_1 x1_2 x1_3 x1_4 x1_5 x2_0 x2_1 x2_2 x2_3 : Int) : List (List Int) := bOf_l125_T.a14 (V.valOf (lrun bOf_l125_st (18446744073709551616 : Nat) (bOf_l125_T.mk (bGTiles_0 x0_0 x0_1) (0 : Int) x0_0 x0_1 x1_0 x1_1 x1_2 x1_3 x1_4 x1_5 (bMeet_0 (bPix_0 x1_0 x1_2 x1_4) (bPix_1 x1_1 x1_3 x1_5) (bPix_2 x1_0 x1_2 x1_4) (bPix_3 x1_1 x1_3 x1_5) x2_0 x2_1 x2_2 x2_3) (bMeet_1 (bPix_0 x1_0 x1_2 x1_4) (bPix_1 x1_1 x1_3 x1_5) (bPix_2 x1_0 x1_2 x1_4) (bPix_3 x1_1 x1_3 x1_5) x2_0 x2_1 x2_2 x2_3) (bMeet_2 (bPix_0 x1_0 x1_2 x1_4) (bPix_1 x1_1 x1_3 x1_5) (bPix_2 x1_0 x1_2 x1_4) (bPix_3 x1_1 x1_3 x1_5) x2_0 x2_1 x2_2 x2_3) (bMeet_3 (bPix_0 x1_0 x1_2 x1_4) (bPix_1 x1_1 x1_3 x1_5) (bPix_2 x1_0 x1_2 x1_4) (bPix_3 x1_1 x1_3 x1_5) x2_0 x2_1 x2_2 x2_3) [])))
def bOf_o (x0_0 x0_1 x1_0 x1_1 x1_2 x1_3 x1_4 x1_5 x2_0 x2_1 x2_2 x2_3 : Int) : List Prop := [decide (tArea_0 x1_0 x1_1 x1_2 x1_3 x1_4 x1_5 ≤ (0 : Int)) = false, lok bOf_l125_st (18446744073709551616 : Nat) (bOf_l125_T.mk (bGTiles_0 x0_0 x0_1) (0 : Int) x0_0 x0_1 x1_0 x1_1 x1_2 x1_3 x1_4 x1_5 (bMeet_0 (bPix_0 x1_0 x1_2 x1_4) (bPix_1 x1_1 x1_3 x1_5) (bPix_2 x1_0 x1_2 x1_4) (bPix_3 x1_1 x1_3 x1_5) x2_0 x2_1 x2_2 x2_3) (bMeet_1 (bPix_0 x1_0 x1_2 x1_4) (bPix_1 x1_1 x1_3 x1_5) (bPix_2 x1_0 x1_2 x1_4) (bPix_3 x1_1 x1_3 x1_5) x2_0 x2_1 x2_2 x2_3) (bMeet_2 (bPix_0 x1_0 x1_2 x1_4) (bPix_1 x1_1 x1_3 x1_5) (bPix_2 x1_0 x1_2 x1_4) (bPix_3 x1_1 x1_3 x1_5) x2_0 x2_1 x2_2 x2_3) (bMeet_3 (bPix_0 x1_0 x1_2 x1_4) (bPix_1 x1_1 x1_3 x1_5) (bPix_2 x1_0 x1_2 x1_4) (bPix_3 x1_1 x1_3 x1_5) x2_0 x2_1 x2_2 x2_3) [])]
theorem bOf_p (x0_0 x0_1 x1_0 x1_1 x1_2 x1_3 x1_4 x1_5 x2_0 x2_1 x2_2 x2_3 : Int) : evG Try.prog bOf_D 2000 28 [0, 1, 2, 3, 4, 5, 6, 7, 8, 9, 10, 13, 20, 21, 22, 37] [(125, bOf_l125_sum)] [] [.g [.int true .i64 x0_0, .int true .i64 x0_1], .g [.int true .i64 x1_0, .int true .i64 x1_1, .int true .i64 x1_2, .int true .i64 x1_3, .int true .i64 x1_4, .int true .i64 x1_5], .g [.int true .i64 x2_0, .int true .i64 x2_1, .int true .i64 x2_2, .int true .i64 x2_3]] [] = some (bOf_o x0_0 x0_1 x1_0 x1_1 x1_2 x1_3 x1_4 x1_5 x2_0 x2_1 x2_2 x2_3, LV.a (At.vec (nat_lit 0) (nat_lit 1) (nat_lit 1)), [some (BC.mk (Hd.mk (nat_lit 1) (nat_lit 0) false (some (Rw.mk (nat_lit 0) [Kd.int IntKind.i64] (bOf_0 x0_0 x0_1 x1_0 x1_1 x1_2 x1_3 x1_4 x1_5 x2_0 x2_1 x2_2 x2_3) none))) [])]) := by kernel_rfl
def bOf_c : Con
  | [.g [.int true .i64 x0_0, .int true .i64 x0_1], .g [.int true .i64 x1_0, .int true .i64 x1_1, .int true .i64 x1_2, .int true .i64 x1_3, .int true .i64 x1_4, .int true .i64 x1_5], .g [.int true .i64 x2_0, .int true .i64 x2_1, .int true .i64 x2_2, .int true .i64 x2_3]], [] => some (bOf_o x0_0 x0_1 x1_0 x1_1 x1_2 x1_3 x1_4 x1_5 x2_0 x2_1 x2_2 x2_3, LV.a (At.vec (nat_lit 0) (nat_lit 1) (nat_lit 1)), [some (BC.mk (Hd.mk (nat_lit 1) (nat_lit 0) false (some (Rw.mk (nat_lit 0) [Kd.int IntKind.i64] (bOf_0 x0_0 x0_1 x1_0 x1_1 x1_2 x1_3 x1_4 x1_5 x2_0 x2_1 x2_2 x2_3) none))) [])])
  | _, _ => none
theorem bOf_ok : ConOK Try.prog 28 (normC bOf_c) := normC_ok (by
  intro args bs obs lv out h ho φ vs w may ha hM
  unfold bOf_c at h
  split at h
  · simp only [Option.some.injEq, Prod.mk.injEq] at h
    obtain ⟨rfl, rfl, rfl⟩ := h
    rename_i x0_0 x0_1 x1_0 x1_1 x1_2 x1_3 x1_4 x1_5 x2_0 x2_1 x2_2 x2_3
    exact evG_okL' bOf_D_ok follows (LOK_cons (show subs (bodyOf Try.prog 28) 1 125 = [.block (blockOf (subs (bodyOf Try.prog 28) 1 125)) (.loop bOf_l125_code)] from by kernel_rfl) bOf_l125_sok (LOK_nil')) _ _ _ _ _ (bOf_p x0_0 x0_1 x1_0 x1_1 x1_2 x1_3 x1_4 x1_5 x2_0 x2_1 x2_2 x2_3) ho φ vs w may ha hM
  · cases h)
theorem bOf_en : Enters Try.prog 28 := fun args => by kernel_rfl
-- 3583 790 10 ms

def tabRd4 : Tab := (28, normC bOf_c) :: tabRd1
theorem tabRd4_ok : TOK Try.prog tabRd4 := TOK.cons bOf_en bOf_ok (tabRd1_ok)

end Go.Proofs.Ytcdejlgophpdjaa
end

section
namespace Go.Proofs.Ytcdejlgophpdjaa
open Go Go.RowKit Go.Proofs.Ytcdejlgophpdjaa.V
set_option linter.unusedVariables false

/-! azulejo/azulejolaw18.RasterTiles -/
noncomputable def lRasTi_l1021_code : Go.Code := loopOf (subs (bodyOf Try.prog 19) 1 1021)
structure lRasTi_l1021_T where
  a0 : Bool
  a1 : Int
  a2 : Int
  a3 : Int
  a4 : Int
  a5 : Int
  a6 : Int
  a7 : Int
  a8 : Int
  a9 : Int
  a10 : Int
  a11 : Int
  a12 : Int
  a13 : Int
  a14 : Int
  a15 : Int
  a16 : Int
  a17 : Int
  a18 : Int
  a19 : Int
  a20 : Int
  a21 : Int
  a22 : Int
  a23 : Int
  a24 : Int
  a25 : Int
  a26 : Int
  a27 : Int
  a28 : Int
  a29 : Int
  a30 : Int
  a31 : Int
  a32 : Int
  a33 : Int
  a34 : List (List Int)
  a35 : List (List Int)
  deriving Inhabited
def lRasTi_l1021_hd (v : lRasTi_l1021_T) : HS := HS.mk [(nat_lit 8, LV.a (At.bool true (lRasTi_l1021_T.a0 v))), (nat_lit 9, LV.a (At.ptr (nat_lit 0) (nat_lit 0))), (nat_lit 11, LV.a (At.ptr (nat_lit 1) (nat_lit 0))), (nat_lit 12, LV.a (At.ptr (nat_lit 2) (nat_lit 0))), (nat_lit 13, LV.a (At.vec (nat_lit 3) (nat_lit 0) (nat_lit 7))), (nat_lit 14, LV.a (At.int true IntKind.i64 (lRasTi_l1021_T.a1 v))), (nat_lit 48, LV.a (At.vec (nat_lit 4) (nat_lit 0) (nat_lit 1))), (nat_lit 49, LV.a (At.int true IntKind.i64 (lRasTi_l1021_T.a2 v))), (nat_lit 50, LV.a (At.int true IntKind.i64 (lRasTi_l1021_T.a3 v)))] [BC.mk (Hd.mk (nat_lit 0) (nat_lit 24) true none) [some (At.int true IntKind.i64 (lRasTi_l1021_T.a4 v)), some (At.int true IntKind.i64 (lRasTi_l1021_T.a5 v)), some (At.int true IntKind.i64 (lRasTi_l1021_T.a6 v)), some (At.int true IntKind.i64 (lRasTi_l1021_T.a7 v)), some (At.int true IntKind.i64 (lRasTi_l1021_T.a8 v)), some (At.int true IntKind.i64 (lRasTi_l1021_T.a9 v)), some (At.int true IntKind.i64 (lRasTi_l1021_T.a10 v)), some (At.int true IntKind.i64 (lRasTi_l1021_T.a11 v)), some (At.int true IntKind.i64 (lRasTi_l1021_T.a12 v)), some (At.int true IntKind.i64 (lRasTi_l1021_T.a13 v)), some (At.int true IntKind.i64 (lRasTi_l1021_T.a14 v)), some (At.int true IntKind.i64 (lRasTi_l1021_T.a15 v)), some (At.int true IntKind.i64 (lRasTi_l1021_T.a16 v)), some (At.int true IntKind.i64 (lRasTi_l1021_T.a17 v)), some (At.int true IntKind.i64 (lRasTi_l1021_T.a18 v)), some (At.int true IntKind.i64 (lRasTi_l1021_T.a19 v)), some (At.int true IntKind.i64 (lRasTi_l1021_T.a20 v)), some (At.int true IntKind.i64 (lRasTi_l1021_T.a21 v)), some (At.int true IntKind.i64 (lRasTi_l1021_T.a22 v)), some (At.int true IntKind.i64 (lRasTi_l1021_T.a23 v)), some (At.int true IntKind.i64 (lRasTi_l1021_T.a24 v)), some (At.int true IntKind.i64 (lRasTi_l1021_T.a25 v)), some (At.int true IntKind.i64 (lRasTi_l1021_T.a26 v)), some (At.int true IntKind.i64 (lRasTi_l1021_T.a27 v))], BC.mk (Hd.mk (nat_lit 0) (nat_lit 2) true none) [some (At.int true IntKind.i64 (lRasTi_l1021_T.a28 v)), some (At.int true IntKind.i64 (lRasTi_l1021_T.a29 v))], BC.mk (Hd.mk (nat_lit 0) (nat_lit 4) true none) [some (At.int true IntKind.i64 (lRasTi_l1021_T.a30 v)), some (At.int true IntKind.i64 (lRasTi_l1021_T.a31 v)), some (At.int true IntKind.i64 (lRasTi_l1021_T.a32 v)), some (At.int true IntKind.i64 (lRasTi_l1021_T.a33 v))], BC.mk (Hd.mk (nat_lit 0) (nat_lit 0) true (some (Rw.mk (nat_lit 0) [Kd.int IntKind.i64, Kd.int IntKind.i64, Kd.int IntKind.i64, Kd.int IntKind.i64, Kd.int IntKind.i64, Kd.int IntKind.i64, Kd.int IntKind.i64] (lRasTi_l1021_T.a34 v) none))) [], BC.mk (Hd.mk (nat_lit 0) (nat_lit 0) true (some (Rw.mk (nat_lit 0) [Kd.int IntKind.i64] (lRasTi_l1021_T.a35 v) none))) []]
def lRasTi_l1021_s0 (v : lRasTi_l1021_T) : Bool := decide (lRasTi_l1021_T.a3 v < lRasTi_l1021_T.a2 v)
def lRasTi_l1021_s1 (v : lRasTi_l1021_T) : Int := bBox_0 (lRasTi_l1021_T.a28 v) (lRasTi_l1021_T.a29 v) (rget (lRasTi_l1021_T.a35 v) (Int.toNat (lRasTi_l1021_T.a3 v)) (0 : Nat))
def lRasTi_l1021_s2 (v : lRasTi_l1021_T) : Int := bBox_1 (lRasTi_l1021_T.a28 v) (lRasTi_l1021_T.a29 v) (rget (lRasTi_l1021_T.a35 v) (Int.toNat (lRasTi_l1021_T.a3 v)) (0 : Nat))
def lRasTi_l1021_s3 (v : lRasTi_l1021_T) : Int := bBox_2 (lRasTi_l1021_T.a28 v) (lRasTi_l1021_T.a29 v) (rget (lRasTi_l1021_T.a35 v) (Int.toNat (lRasTi_l1021_T.a3 v)) (0 : Nat))
def lRasTi_l1021_s4 (v : lRasTi_l1021_T) : Int := bBox_3 (lRasTi_l1021_T.a28 v) (lRasTi_l1021_T.a29 v) (rget (lRasTi_l1021_T.a35 v) (Int.toNat (lRasTi_l1021_T.a3 v)) (0 : Nat))
def lRasTi_l1021_st (v : lRasTi_l1021_T) : List Prop × List (X × Bool × lRasTi_l1021_T) := ([lRasTi_l1021_s0 v = true → (0 : Int) ≤ lRasTi_l1021_T.a3 v ∧ lRasTi_l1021_T.a3 v < Int.ofNat (List.length (lRasTi_l1021_T.a35 v)), lRasTi_l1021_s0 v = true → (!bBox_s0 (lRasTi_l1021_T.a28 v) (lRasTi_l1021_T.a29 v) (rget (lRasTi_l1021_T.a35 v) (Int.toNat (lRasTi_l1021_T.a3 v)) (0 : Nat))) = true → bTiles_0 (lRasTi_l1021_T.a28 v) ≠ (0 : Int), lRasTi_l1021_s0 v = true → (!bBox_s0 (lRasTi_l1021_T.a28 v) (lRasTi_l1021_T.a29 v) (rget (lRasTi_l1021_T.a35 v) (Int.toNat (lRasTi_l1021_T.a3 v)) (0 : Nat))) = true → bTiles_0 (lRasTi_l1021_T.a28 v) ≠ (0 : Int)], [(X.e (0 : Nat), !lRasTi_l1021_s0 v, lRasTi_l1021_T.mk (lRasTi_l1021_T.a0 v) (lRasTi_l1021_T.a1 v) (lRasTi_l1021_T.a2 v) (lRasTi_l1021_T.a3 v) (lRasTi_l1021_T.a4 v) (lRasTi_l1021_T.a5 v) (lRasTi_l1021_T.a6 v) (lRasTi_l1021_T.a7 v) (lRasTi_l1021_T.a8 v) (lRasTi_l1021_T.a9 v) (lRasTi_l1021_T.a10 v) (lRasTi_l1021_T.a11 v) (lRasTi_l1021_T.a12 v) (lRasTi_l1021_T.a13 v) (lRasTi_l1021_T.a14 v) (lRasTi_l1021_T.a15 v) (lRasTi_l1021_T.a16 v) (lRasTi_l1021_T.a17 v) (lRasTi_l1021_T.a18 v) (lRasTi_l1021_T.a19 v) (lRasTi_l1021_T.a20 v) (lRasTi_l1021_T.a21 v) (lRasTi_l1021_T.a22 v) (lRasTi_l1021_T.a23 v) (lRasTi_l1021_T.a24 v) (lRasTi_l1021_T.a25 v) (lRasTi_l1021_T.a26 v) (lRasTi_l1021_T.a27 v) (lRasTi_l1021_T.a28 v) (lRasTi_l1021_T.a29 v) (lRasTi_l1021_T.a30 v) (lRasTi_l1021_T.a31 v) (lRasTi_l1021_T.a32 v) (lRasTi_l1021_T.a33 v) (lRasTi_l1021_T.a34 v) (lRasTi_l1021_T.a35 v)), (X.n, lRasTi_l1021_s0 v, lRasTi_l1021_T.mk (lRasTi_l1021_T.a0 v) (IntKind.wrap IntKind.i64 (lRasTi_l1021_T.a1 v + Int.ofNat (List.length (lc (lRasTi_l1021_T.a4 v) (lRasTi_l1021_T.a5 v) (lRasTi_l1021_T.a6 v) (lRasTi_l1021_T.a7 v) (lRasTi_l1021_T.a8 v) (lRasTi_l1021_T.a9 v) (lRasTi_l1021_T.a10 v) (lRasTi_l1021_T.a11 v) (lRasTi_l1021_T.a12 v) (lRasTi_l1021_T.a13 v) (lRasTi_l1021_T.a14 v) (lRasTi_l1021_T.a15 v) (lRasTi_l1021_T.a16 v) (lRasTi_l1021_T.a17 v) (lRasTi_l1021_T.a18 v) (lRasTi_l1021_T.a19 v) (lRasTi_l1021_T.a20 v) (lRasTi_l1021_T.a21 v) (lRasTi_l1021_T.a22 v) (lRasTi_l1021_T.a23 v) (lRasTi_l1021_T.a24 v) (lRasTi_l1021_T.a25 v) (lRasTi_l1021_T.a26 v) (lRasTi_l1021_T.a27 v) (bMeet_0 (lRasTi_l1021_s1 v) (lRasTi_l1021_s2 v) (lRasTi_l1021_s3 v) (lRasTi_l1021_s4 v) (lRasTi_l1021_T.a30 v) (lRasTi_l1021_T.a31 v) (lRasTi_l1021_T.a32 v) (lRasTi_l1021_T.a33 v)) (bMeet_1 (lRasTi_l1021_s1 v) (lRasTi_l1021_s2 v) (lRasTi_l1021_s3 v) (lRasTi_l1021_s4 v) (lRasTi_l1021_T.a30 v) (lRasTi_l1021_T.a31 v) (lRasTi_l1021_T.a32 v) (lRasTi_l1021_T.a33 v)) (bMeet_2 (lRasTi_l1021_s1 v) (lRasTi_l1021_s2 v) (lRasTi_l1021_s3 v) (lRasTi_l1021_s4 v) (lRasTi_l1021_T.a30 v) (lRasTi_l1021_T.a31 v) (lRasTi_l1021_T.a32 v) (lRasTi_l1021_T.a33 v)) (bMeet_3 (lRasTi_l1021_s1 v) (lRasTi_l1021_s2 v) (lRasTi_l1021_s3 v) (lRasTi_l1021_s4 v) (lRasTi_l1021_T.a30 v) (lRasTi_l1021_T.a31 v) (lRasTi_l1021_T.a32 v) (lRasTi_l1021_T.a33 v)))))) (lRasTi_l1021_T.a2 v) (IntKind.wrap IntKind.i64 (lRasTi_l1021_T.a3 v + (1 : Int))) (lRasTi_l1021_T.a4 v) (lRasTi_l1021_T.a5 v) (lRasTi_l1021_T.a6 v) (lRasTi_l1021_T.a7 v) (lRasTi_l1021_T.a8 v) (lRasTi_l1021_T.a9 v) (lRasTi_l1021_T.a10 v) (lRasTi_l1021_T.a11 v) (lRasTi_l1021_T.a12 v) (lRasTi_l1021_T.a13 v) (lRasTi_l1021_T.a14 v) (lRasTi_l1021_T.a15 v) (lRasTi_l1021_T.a16 v) (lRasTi_l1021_T.a17 v) (lRasTi_l1021_T.a18 v) (lRasTi_l1021_T.a19 v) (lRasTi_l1021_T.a20 v) (lRasTi_l1021_T.a21 v) (lRasTi_l1021_T.a22 v) (lRasTi_l1021_T.a23 v) (lRasTi_l1021_T.a24 v) (lRasTi_l1021_T.a25 v) (lRasTi_l1021_T.a26 v) (lRasTi_l1021_T.a27 v) (lRasTi_l1021_T.a28 v) (lRasTi_l1021_T.a29 v) (lRasTi_l1021_T.a30 v) (lRasTi_l1021_T.a31 v) (lRasTi_l1021_T.a32 v) (lRasTi_l1021_T.a33 v) (lRasTi_l1021_T.a34 v) (lRasTi_l1021_T.a35 v))])
def lRasTi_l1021_rd : HS → Option lRasTi_l1021_T := rdS [.b, .i, .i, .i, .i, .i, .i, .i, .i, .i, .i, .i, .i, .i, .i, .i, .i, .i, .i, .i, .i, .i, .i, .i, .i, .i, .i, .i, .i, .i, .i, .i, .i, .i, .r, .r] (fun l => lRasTi_l1021_T.mk (gB l 0) (gI l 1) (gI l 2) (gI l 3) (gI l 4) (gI l 5) (gI l 6) (gI l 7) (gI l 8) (gI l 9) (gI l 10) (gI l 11) (gI l 12) (gI l 13) (gI l 14) (gI l 15) (gI l 16) (gI l 17) (gI l 18) (gI l 19) (gI l 20) (gI l 21) (gI l 22) (gI l 23) (gI l 24) (gI l 25) (gI l 26) (gI l 27) (gI l 28) (gI l 29) (gI l 30) (gI l 31) (gI l 32) (gI l 33) (gR l 34) (gR l 35)) lRasTi_l1021_hd
def lRasTi_l1021_sum : V.Sum := loopS lRasTi_l1021_hd lRasTi_l1021_rd lRasTi_l1021_st 18446744073709551616 [X.e (0 : Nat)] [0, 1, 2, 3, 4, 7, 8, 9, 11, 12, 13, 14, 16, 18, 48, 49, 50, 51] [8, 9, 11, 12, 13, 14, 48, 49, 50] [] [] [] 0
theorem lRasTi_l1021_E : ∀ v, bodyF Try.prog tabRd4 (ntOf Try.prog 19) [0, 1, 2, 3, 4, 7, 8, 9, 11, 12, 13, 14, 16, 18, 48, 49, 50, 51] [8, 9, 11, 12, 13, 14, 48, 49, 50] [] 2000 [] [] lRasTi_l1021_code 4084 (lRasTi_l1021_hd v) = some ((lRasTi_l1021_st v).1, (lRasTi_l1021_st v).2.map fun q => (q.1, q.2.1, lRasTi_l1021_hd q.2.2)) := fun v => by kernel_rfl
theorem lRasTi_l1021_R : ∀ h v, lRasTi_l1021_rd h = some v → h = lRasTi_l1021_hd v := rdS_ok fun l => by kernel_rfl
set_option maxRecDepth 100000 in
theorem lRasTi_l1021_sok : SumOK Try.prog (ntOf Try.prog 19) [0, 1, 2, 3, 4, 7, 8, 9, 11, 12, 13, 14, 16, 18, 48, 49, 50, 51] (.block (blockOf (subs (bodyOf Try.prog 19) 1 1021)) (.loop lRasTi_l1021_code)) lRasTi_l1021_sum := loopS_ok tabRd4_ok follows lRasTi_l1021_E lRasTi_l1021_R (fun v => by kernel_rfl) (LOK_of _ _ (LOK_nil'))
def lRasTi_s0 (x1 : Int) : Int := IntKind.wrap IntKind.i64 ((1 : Int) + IntKind.wrap IntKind.i64 (Int.tmod x1 (40 : Int)))
def lRasTi_s1 (x2 : Int) : Int := IntKind.wrap IntKind.i64 ((1 : Int) + IntKind.wrap IntKind.i64 (Int.tmod x2 (40 : Int)))
def lRasTi_s2 (x0_0 x0_1 x0_2 x0_3 x0_4 x0_5 x0_24 x1 x2 x3_0 x3_1 x3_2 x3_3 : Int) : List (List Int) := bOf_0 (lRasTi_s0 x1) (lRasTi_s1 x2) (sm13Tri_0 x0_0 x0_1 x0_2 x0_3 x0_4 x0_5 x0_24) (sm13Tri_1 x0_0 x0_1 x0_2 x0_3 x0_4 x0_5 x0_24) (sm13Tri_2 x0_0 x0_1 x0_2 x0_3 x0_4 x0_5 x0_24) (sm13Tri_3 x0_0 x0_1 x0_2 x0_3 x0_4 x0_5 x0_24) (sm13Tri_4 x0_0 x0_1 x0_2 x0_3 x0_4 x0_5 x0_24) (sm13Tri_5 x0_0 x0_1 x0_2 x0_3 x0_4 x0_5 x0_24) (l18box_0 x3_0) (l18box_1 x3_1) (l18box_2 x3_2) (l18box_3 x3_3)
def lRasTi_s3 (x0_0 x0_1 x0_2 x0_3 x0_4 x0_5 x0_6 x0_7 x0_8 x0_9 x0_10 x0_11 x0_12 x0_13 x0_14 x0_15 x0_16 x0_17 x0_18 x0_19 x0_20 x0_21 x0_22 x0_23 x0_24 x1 x2 x3_0 x3_1 x3_2 x3_3 : Int) : List (List Int) := lc (sm13Tri_0 x0_0 x0_1 x0_2 x0_3 x0_4 x0_5 x0_24) (sm13Tri_1 x0_0 x0_1 x0_2 x0_3 x0_4 x0_5 x0_24) (sm13Tri_2 x0_0 x0_1 x0_2 x0_3 x0_4 x0_5 x0_24) (sm13Tri_3 x0_0 x0_1 x0_2 x0_3 x0_4 x0_5 x0_24) (sm13Tri_4 x0_0 x0_1 x0_2 x0_3 x0_4 x0_5 x0_24) (sm13Tri_5 x0_0 x0_1 x0_2 x0_3 x0_4 x0_5 x0_24) (IntKind.wrap IntKind.i64 x0_6) (IntKind.wrap IntKind.i64 x0_7) (IntKind.wrap IntKind.i64 x0_8) (sm13Tri_6 x0_9) (sm13Tri_7 x0_10) (sm13Tri_8 x0_11) (IntKind.wrap IntKind.i64 x0_12) (IntKind.wrap IntKind.i64 x0_13) (IntKind.wrap IntKind.i64 x0_14) (IntKind.wrap IntKind.i64 x0_15) (IntKind.wrap IntKind.i64 x0_16) (IntKind.wrap IntKind.i64 x0_17) (IntKind.wrap IntKind.i64 x0_18) (IntKind.wrap IntKind.i64 x0_19) (IntKind.wrap IntKind.i64 x0_20) (IntKind.wrap IntKind.i64 x0_21) (IntKind.wrap IntKind.i64 x0_22) (IntKind.wrap IntKind.i64 x0_23) (bMeet_0 (l18box_0 x3_0) (l18box_1 x3_1) (l18box_2 x3_2) (l18box_3 x3_3) (0 : Int) (0 : Int) (lRasTi_s0 x1) (lRasTi_s1 x2)) (bMeet_1 (l18box_0 x3_0) (l18box_1 x3_1) (l18box_2 x3_2) (l18box_3 x3_3) (0 : Int) (0 : Int) (lRasTi_s0 x1) (lRasTi_s1 x2)) (bMeet_2 (l18box_0 x3_0) (l18box_1 x3_1) (l18box_2 x3_2) (l18box_3 x3_3) (0 : Int) (0 : Int) (lRasTi_s0 x1) (lRasTi_s1 x2)) (bMeet_3 (l18box_0 x3_0) (l18box_1 x3_1) (l18box_2 x3_2) (l18box_3 x3_3) (0 : Int) (0 : Int) (lRasTi_s0 x1) (lRasTi_s1 x2))
def lRasTi_0 (x0_0 x0_1 x0_2 x0_3 x0_4 x0_5 x0_6 x0_7 x0_8 x0_9 x0_10 x0_11 x0_12 x0_13 x0_14 x0_15 x0_16 x0_17 x0_18 x0_19 x0_20 x0_21 x0_22 x0_23 x0_24 x1 x2 x3_0 x3_1 x3_2 x3_3 : Int) : Bool := bif !l18Aw_0 then false else lRasTi_l1021_T.a1 (V.valOf (lrun lRasTi_l1021_st (18446744073709551616 : Nat) (lRasTi_l1021_T.mk false (0 : Int) (Int.ofNat (List.length (lRasTi_s2 x0_0 x0_1 x0_2 x0_3 x0_4 x0_5 x0_24 x1 x2 x3_0 x3_1 x3_2 x3_3))) (0 : Int) (sm13Tri_0 x0_0 x0_1 x0_2 x0_3 x0_4 x0_5 x0_24) (sm13Tri_1 x0_0 x0_1 x0_2 x0_3 x0_4 x0_5 x0_24) (sm13Tri_2 x0_0 x0_1 x0_2 x0_3 x0_4 x0_5 x0_24) (sm13Tri_3 x0_0 x0_1 x0_2 x0_3 x0_4 x0_5 x0_24) (sm13Tri_4 x0_0 x0_1 x0_2 x0_3 x0_4 x0_5 x0_24) (sm13Tri_5 x0_0 x0_1 x0_2 x0_3 x0_4 x0_5 x0_24) (IntKind.wrap IntKind.i64 x0_6) (IntKind.wrap IntKind.i64 x0_7) (IntKind.wrap IntKind.i64 x0_8) (sm13Tri_6 x0_9) (sm13Tri_7 x0_10) (sm13Tri_8 x0_11) (IntKind.wrap IntKind.i64 x0_12) (IntKind.wrap IntKind.i64 x0_13) (IntKind.wrap IntKind.i64 x0_14) (IntKind.wrap IntKind.i64 x0_15) (IntKind.wrap IntKind.i64 x0_16) (IntKind.wrap IntKind.i64 x0_17) (IntKind.wrap IntKind.i64 x0_18) (IntKind.wrap IntKind.i64 x0_19) (IntKind.wrap IntKind.i64 x0_20) (IntKind.wrap IntKind.i64 x0_21) (IntKind.wrap IntKind.i64 x0_22) (IntKind.wrap IntKind.i64 x0_23) (lRasTi_s0 x1) (lRasTi_s1 x2) (l18box_0 x3_0) (l18box_1 x3_1) (l18box_2 x3_2) (l18box_3 x3_3) (lRasTi_s3 x0_0 x0_1 x0_2 x0_3 x0_4 x0_5 x0_6 x0_7 x0_8 x0_9 x0_10 x0_11 x0_12 x0_13 x0_14 x0_15 x0_16 x0_17 x0_18 x0_19 x0_20 x0_21 x0_22 x0_23 x0_24 x1 x2 x3_0 x3_1 x3_2 x3_3) (lRasTi_s2 x0_0 x0_1 x0_2 x0_3 x0_4 x0_5 x0_24 x1 x2 x3_0 x3_1 x3_2 x3_3)))) == Int.ofNat (List.length (lRasTi_s3 x0_0 x0_1 x0_2 x0_3 x0_4 x0_5 x0_6 x0_7 x0_8 x0_9 x0_10 x0_11 x0_12 x0_13 x0_14 x0_15 x0_16 x0_17 x0_18 x0_19 x0_20 x0_21 x0_22 x0_23 x0_24 x1 x2 x3_0 x3_1 x3_2 x3_3))
def lRasTi_s4 (x0_0 x0_1 x0_2 x0_3 x0_4 x0_5 x0_24 : Int) : Int := bPix_0 (sm13Tri_0 x0_0 x0_1 x0_2 x0_3 x0_4 x0_5 x0_24) (sm13Tri_2 x0_0 x0_1 x0_2 x0_3 x0_4 x0_5 x0_24) (sm13Tri_4 x0_0 x0_1 x0_2 x0_3 x0_4 x0_5 x0_24)
def lRasTi_s5 (x0_0 x0_1 x0_2 x0_3 x0_4 x0_5 x0_24 : Int) : Int := bPix_1 (sm13Tri_1 x0_0 x0_1 x0_2 x0_3 x0_4 x0_5 x0_24) (sm13Tri_3 x0_0 x0_1 x0_2 x0_3 x0_4 x0_5 x0_24) (sm13Tri_5 x0_0 x0_1 x0_2 x0_3 x0_4 x0_5 x0_24)
def lRasTi_s6 (x0_0 x0_1 x0_2 x0_3 x0_4 x0_5 x0_24 : Int) : Int := bPix_2 (sm13Tri_0 x0_0 x0_1 x0_2 x0_3 x0_4 x0_5 x0_24) (sm13Tri_2 x0_0 x0_1 x0_2 x0_3 x0_4 x0_5 x0_24) (sm13Tri_4 x0_0 x0_1 x0_2 x0_3 x0_4 x0_5 x0_24)
def lRasTi_s7 (x0_0 x0_1 x0_2 x0_3 x0_4 x0_5 x0_24 : Int) : Int := bPix_3 (sm13Tri_1 x0_0 x0_1 x0_2 x0_3 x0_4 x0_5 x0_24) (sm13Tri_3 x0_0 x0_1 x0_2 x0_3 x0_4 x0_5 x0_24) (sm13Tri_5 x0_0 x0_1 x0_2 x0_3 x0_4 x0_5 x0_24)
def lRasTi_o (x0_0 x0_1 x0_2 x0_3 x0_4 x0_5 x0_6 x0_7 x0_8 x0_9 x0_10 x0_11 x0_12 x0_13 x0_14 x0_15 x0_16 x0_17 x0_18 x0_19 x0_20 x0_21 x0_22 x0_23 x0_24 x1 x2 x3_0 x3_1 x3_2 x3_3 : Int) : List Prop := [(!!l18Aw_0) = true → decide (tArea_0 (sm13Tri_0 x0_0 x0_1 x0_2 x0_3 x0_4 x0_5 x0_24) (sm13Tri_1 x0_0 x0_1 x0_2 x0_3 x0_4 x0_5 x0_24) (sm13Tri_2 x0_0 x0_1 x0_2 x0_3 x0_4 x0_5 x0_24) (sm13Tri_3 x0_0 x0_1 x0_2 x0_3 x0_4 x0_5 x0_24) (sm13Tri_4 x0_0 x0_1 x0_2 x0_3 x0_4 x0_5 x0_24) (sm13Tri_5 x0_0 x0_1 x0_2 x0_3 x0_4 x0_5 x0_24) ≤ (0 : Int)) = false, (!!l18Aw_0) = true → lok bOf_l125_st (18446744073709551616 : Nat) (bOf_l125_T.mk (bGTiles_0 (lRasTi_s0 x1) (lRasTi_s1 x2)) (0 : Int) (lRasTi_s0 x1) (lRasTi_s1 x2) (sm13Tri_0 x0_0 x0_1 x0_2 x0_3 x0_4 x0_5 x0_24) (sm13Tri_1 x0_0 x0_1 x0_2 x0_3 x0_4 x0_5 x0_24) (sm13Tri_2 x0_0 x0_1 x0_2 x0_3 x0_4 x0_5 x0_24) (sm13Tri_3 x0_0 x0_1 x0_2 x0_3 x0_4 x0_5 x0_24) (sm13Tri_4 x0_0 x0_1 x0_2 x0_3 x0_4 x0_5 x0_24) (sm13Tri_5 x0_0 x0_1 x0_2 x0_3 x0_4 x0_5 x0_24) (bMeet_0 (lRasTi_s4 x0_0 x0_1 x0_2 x0_3 x0_4 x0_5 x0_24) (lRasTi_s5 x0_0 x0_1 x0_2 x0_3 x0_4 x0_5 x0_24) (lRasTi_s6 x0_0 x0_1 x0_2 x0_3 x0_4 x0_5 x0_24) (lRasTi_s7 x0_0 x0_1 x0_2 x0_3 x0_4 x0_5 x0_24) (l18box_0 x3_0) (l18box_1 x3_1) (l18box_2 x3_2) (l18box_3 x3_3)) (bMeet_1 (lRasTi_s4 x0_0 x0_1 x0_2 x0_3 x0_4 x0_5 x0_24) (lRasTi_s5 x0_0 x0_1 x0_2 x0_3 x0_4 x0_5 x0_24) (lRasTi_s6 x0_0 x0_1 x0_2 x0_3 x0_4 x0_5 x0_24) (lRasTi_s7 x0_0 x0_1 x0_2 x0_3 x0_4 x0_5 x0_24) (l18box_0 x3_0) (l18box_1 x3_1) (l18box_2 x3_2) (l18box_3 x3_3)) (bMeet_2 (lRasTi_s4 x0_0 x0_1 x0_2 x0_3 x0_4 x0_5 x0_24) (lRasTi_s5 x0_0 x0_1 x0_2 x0_3 x0_4 x0_5 x0_24) (lRasTi_s6 x0_0 x0_1 x0_2 x0_3 x0_4 x0_5 x0_24) (lRasTi_s7 x0_0 x0_1 x0_2 x0_3 x0_4 x0_5 x0_24) (l18box_0 x3_0) (l18box_1 x3_1) (l18box_2 x3_2) (l18box_3 x3_3)) (bMeet_3 (lRasTi_s4 x0_0 x0_1 x0_2 x0_3 x0_4 x0_5 x0_24) (lRasTi_s5 x0_0 x0_1 x0_2 x0_3 x0_4 x0_5 x0_24) (lRasTi_s6 x0_0 x0_1 x0_2 x0_3 x0_4 x0_5 x0_24) (lRasTi_s7 x0_0 x0_1 x0_2 x0_3 x0_4 x0_5 x0_24) (l18box_0 x3_0) (l18box_1 x3_1) (l18box_2 x3_2) (l18box_3 x3_3)) []), (!!l18Aw_0) = true → lok lRasTi_l1021_st (18446744073709551616 : Nat) (lRasTi_l1021_T.mk false (0 : Int) (Int.ofNat (List.length (lRasTi_s2 x0_0 x0_1 x0_2 x0_3 x0_4 x0_5 x0_24 x1 x2 x3_0 x3_1 x3_2 x3_3))) (0 : Int) (sm13Tri_0 x0_0 x0_1 x0_2 x0_3 x0_4 x0_5 x0_24) (sm13Tri_1 x0_0 x0_1 x0_2 x0_3 x0_4 x0_5 x0_24) (sm13Tri_2 x0_0 x0_1 x0_2 x0_3 x0_4 x0_5 x0_24) (sm13Tri_3 x0_0 x0_1 x0_2 x0_3 x0_4 x0_5 x0_24) (sm13Tri_4 x0_0 x0_1 x0_2 x0_3 x0_4 x0_5 x0_24) (sm13Tri_5 x0_0 x0_1 x0_2 x0_3 x0_4 x0_5 x0_24) (IntKind.wrap IntKind.i64 x0_6) (IntKind.wrap IntKind.i64 x0_7) (IntKind.wrap IntKind.i64 x0_8) (sm13Tri_6 x0_9) (sm13Tri_7 x0_10) (sm13Tri_8 x0_11) (IntKind.wrap IntKind.i64 x0_12) (IntKind.wrap IntKind.i64 x0_13) (IntKind.wrap IntKind.i64 x0_14) (IntKind.wrap IntKind.i64 x0_15) (IntKind.wrap IntKind.i64 x0_16) (IntKind.wrap IntKind.i64 x0_17) (IntKind.wrap IntKind.i64 x0_18) (IntKind.wrap IntKind.i64 x0_19) (IntKind.wrap IntKind.i64 x0_20) (IntKind.wrap IntKind.i64 x0_21) (IntKind.wrap IntKind.i64 x0_22) (IntKind.wrap IntKind.i64 x0_23) (lRasTi_s0 x1) (lRasTi_s1 x2) (l18box_0 x3_0) (l18box_1 x3_1) (l18box_2 x3_2) (l18box_3 x3_3) (lRasTi_s3 x0_0 x0_1 x0_2 x0_3 x0_4 x0_5 x0_6 x0_7 x0_8 x0_9 x0_10 x0_11 x0_12 x0_13 x0_14 x0_15 x0_16 x0_17 x0_18 x0_19 x0_20 x0_21 x0_22 x0_23 x0_24 x1 x2 x3_0 x3_1 x3_2 x3_3) (lRasTi_s2 x0_0 x0_1 x0_2 x0_3 x0_4 x0_5 x0_24 x1 x2 x3_0 x3_1 x3_2 x3_3))]
theorem lRasTi_p (x0_0 x0_1 x0_2 x0_3 x0_4 x0_5 x0_6 x0_7 x0_8 x0_9 x0_10 x0_11 x0_12 x0_13 x0_14 x0_15 x0_16 x0_17 x0_18 x0_19 x0_20 x0_21 x0_22 x0_23 x0_24 x1 x2 x3_0 x3_1 x3_2 x3_3 : Int) : evG Try.prog tabRd4 2000 19 [0, 1, 2, 3, 4, 7, 8, 9, 11, 12, 13, 14, 16, 18, 48, 49, 50, 51] [(1021, lRasTi_l1021_sum)] [] [.g [.int true .i8 x0_0, .int true .i8 x0_1, .int true .i8 x0_2, .int true .i8 x0_3, .int true .i8 x0_4, .int true .i8 x0_5, .int true .u16 x0_6, .int true .u16 x0_7, .int true .u16 x0_8, .int true .u16 x0_9, .int true .u16 x0_10, .int true .u16 x0_11, .int true .u16 x0_12, .int true .u16 x0_13, .int true .u16 x0_14, .int true .u16 x0_15, .int true .u16 x0_16, .int true .u16 x0_17, .int true .u16 x0_18, .int true .u16 x0_19, .int true .u16 x0_20, .int true .u16 x0_21, .int true .u16 x0_22, .int true .u16 x0_23, .int true .u8 x0_24], .a (.int true .u8 x1), .a (.int true .u8 x2), .g [.int true .u8 x3_0, .int true .u8 x3_1, .int true .u8 x3_2, .int true .u8 x3_3]] [] = some (lRasTi_o x0_0 x0_1 x0_2 x0_3 x0_4 x0_5 x0_6 x0_7 x0_8 x0_9 x0_10 x0_11 x0_12 x0_13 x0_14 x0_15 x0_16 x0_17 x0_18 x0_19 x0_20 x0_21 x0_22 x0_23 x0_24 x1 x2 x3_0 x3_1 x3_2 x3_3, LV.a (At.bool true (lRasTi_0 x0_0 x0_1 x0_2 x0_3 x0_4 x0_5 x0_6 x0_7 x0_8 x0_9 x0_10 x0_11 x0_12 x0_13 x0_14 x0_15 x0_16 x0_17 x0_18 x0_19 x0_20 x0_21 x0_22 x0_23 x0_24 x1 x2 x3_0 x3_1 x3_2 x3_3)), []) := by kernel_rfl
def lRasTi_c : Con
  | [.g [.int true .i8 x0_0, .int true .i8 x0_1, .int true .i8 x0_2, .int true .i8 x0_3, .int true .i8 x0_4, .int true .i8 x0_5, .int true .u16 x0_6, .int true .u16 x0_7, .int true .u16 x0_8, .int true .u16 x0_9, .int true .u16 x0_10, .int true .u16 x0_11, .int true .u16 x0_12, .int true .u16 x0_13, .int true .u16 x0_14, .int true .u16 x0_15, .int true .u16 x0_16, .int true .u16 x0_17, .int true .u16 x0_18, .int true .u16 x0_19, .int true .u16 x0_20, .int true .u16 x0_21, .int true .u16 x0_22, .int true .u16 x0_23, .int true .u8 x0_24], .a (.int true .u8 x1), .a (.int true .u8 x2), .g [.int true .u8 x3_0, .int true .u8 x3_1, .int true .u8 x3_2, .int true .u8 x3_3]], [] => some (lRasTi_o x0_0 x0_1 x0_2 x0_3 x0_4 x0_5 x0_6 x0_7 x0_8 x0_9 x0_10 x0_11 x0_12 x0_13 x0_14 x0_15 x0_16 x0_17 x0_18 x0_19 x0_20 x0_21 x0_22 x0_23 x0_24 x1 x2 x3_0 x3_1 x3_2 x3_3, LV.a (At.bool true (lRasTi_0 x0_0 x0_1 x0_2 x0_3 x0_4 x0_5 x0_6 x0_7 x0_8 x0_9 x0_10 x0_11 x0_12 x0_13 x0_14 x0_15 x0_16 x0_17 x0_18 x0_19 x0_20 x0_21 x0_22 x0_23 x0_24 x1 x2 x3_0 x3_1 x3_2 x3_3)), [])
  | _, _ => none
theorem lRasTi_ok : ConOK Try.prog 19 (normC lRasTi_c) := normC_ok (by
  intro args bs obs lv out h ho φ vs w may ha hM
  unfold lRasTi_c at h
  split at h
  · simp only [Option.some.injEq, Prod.mk.injEq] at h
    obtain ⟨rfl, rfl, rfl⟩ := h
    rename_i x0_0 x0_1 x0_2 x0_3 x0_4 x0_5 x0_6 x0_7 x0_8 x0_9 x0_10 x0_11 x0_12 x0_13 x0_14 x0_15 x0_16 x0_17 x0_18 x0_19 x0_20 x0_21 x0_22 x0_23 x0_24 x1 x2 x3_0 x3_1 x3_2 x3_3
    exact evG_okL' tabRd4_ok follows (LOK_cons (show subs (bodyOf Try.prog 19) 1 1021 = [.block (blockOf (subs (bodyOf Try.prog 19) 1 1021)) (.loop lRasTi_l1021_code)] from by kernel_rfl) lRasTi_l1021_sok (LOK_nil')) _ _ _ _ _ (lRasTi_p x0_0 x0_1 x0_2 x0_3 x0_4 x0_5 x0_6 x0_7 x0_8 x0_9 x0_10 x0_11 x0_12 x0_13 x0_14 x0_15 x0_16 x0_17 x0_18 x0_19 x0_20 x0_21 x0_22 x0_23 x0_24 x1 x2 x3_0 x3_1 x3_2 x3_3) ho φ vs w may ha hM
  · cases h)
theorem lRasTi_en : Enters Try.prog 19 := fun args => by kernel_rfl
-- 5416 4958 32 ms

def tabRd8 : Tab := (19, normC lRasTi_c) :: tabRd4
theorem tabRd8_ok : TOK Try.prog tabRd8 := TOK.cons lRasTi_en lRasTi_ok (tabRd4_ok)

end Go.Proofs.Ytcdejlgophpdjaa
end

section
namespace Go.Proofs.Ytcdejlgophpdjaa
open Go Go.RowKit Go.Proofs.Ytcdejlgophpdjaa.V
set_option linter.unusedVariables false

def bOfZ_D : Tab := (2, decC [(29, true)]) :: tabRd1
theorem bOfZ_D_ok : TOK Try.prog bOfZ_D := TOK.cons (fun args => by kernel_rfl) (fun _ _ _ _ _ h ho => (decC_ok h ho).elim) tabRd1_ok
/-! (azulejo/bin.Grid).Of -/
def bOfZ_o (x0_0 x0_1 x1_0 x1_1 x1_2 x1_3 x1_4 x1_5 x2_0 x2_1 x2_2 x2_3 : Int) : List Prop := [decide (tArea_0 x1_0 x1_1 x1_2 x1_3 x1_4 x1_5 ≤ (0 : Int)) = true]
theorem bOfZ_p (x0_0 x0_1 x1_0 x1_1 x1_2 x1_3 x1_4 x1_5 x2_0 x2_1 x2_2 x2_3 : Int) : evG Try.prog bOfZ_D 2000 28 [0, 1, 2, 3, 4, 5, 6, 7, 8, 9, 10, 13, 20, 21, 22, 37] [] [] [.g [.int true .i64 x0_0, .int true .i64 x0_1], .g [.int true .i64 x1_0, .int true .i64 x1_1, .int true .i64 x1_2, .int true .i64 x1_3, .int true .i64 x1_4, .int true .i64 x1_5], .g [.int true .i64 x2_0, .int true .i64 x2_1, .int true .i64 x2_2, .int true .i64 x2_3]] [] = some (bOfZ_o x0_0 x0_1 x1_0 x1_1 x1_2 x1_3 x1_4 x1_5 x2_0 x2_1 x2_2 x2_3, LV.a At.nils, []) := by kernel_rfl
def bOfZ_c : Con
  | [.g [.int true .i64 x0_0, .int true .i64 x0_1], .g [.int true .i64 x1_0, .int true .i64 x1_1, .int true .i64 x1_2, .int true .i64 x1_3, .int true .i64 x1_4, .int true .i64 x1_5], .g [.int true .i64 x2_0, .int true .i64 x2_1, .int true .i64 x2_2, .int true .i64 x2_3]], [] => some (bOfZ_o x0_0 x0_1 x1_0 x1_1 x1_2 x1_3 x1_4 x1_5 x2_0 x2_1 x2_2 x2_3, LV.a At.nils, [])
  | _, _ => none
theorem bOfZ_ok : ConOK Try.prog 28 (normC bOfZ_c) := normC_ok (by
  intro args bs obs lv out h ho φ vs w may ha hM
  unfold bOfZ_c at h
  split at h
  · simp only [Option.some.injEq, Prod.mk.injEq] at h
    obtain ⟨rfl, rfl, rfl⟩ := h
    rename_i x0_0 x0_1 x1_0 x1_1 x1_2 x1_3 x1_4 x1_5 x2_0 x2_1 x2_2 x2_3
    exact evG_ok bOfZ_D_ok follows _ _ _ _ _ (bOfZ_p x0_0 x0_1 x1_0 x1_1 x1_2 x1_3 x1_4 x1_5 x2_0 x2_1 x2_2 x2_3) ho φ vs w may ha hM
  · cases h)
theorem bOfZ_en : Enters Try.prog 28 := fun args => by kernel_rfl
-- 57 2 0 ms

def tabRd9 : Tab := (28, normC bOfZ_c) :: tabRd1
theorem tabRd9_ok : TOK Try.prog tabRd9 := TOK.cons bOfZ_en bOfZ_ok (tabRd1_ok)

end Go.Proofs.Ytcdejlgophpdjaa
end

section
namespace Go.Proofs.Ytcdejlgophpdjaa
open Go Go.RowKit Go.Proofs.Ytcdejlgophpdjaa.V
set_option linter.unusedVariables false

/-! azulejo/azulejolaw18.RasterTiles -/
def lRasTz_s0 (x1 : Int) : Int := IntKind.wrap IntKind.i64 ((1 : Int) + IntKind.wrap IntKind.i64 (Int.tmod x1 (40 : Int)))
def lRasTz_s1 (x2 : Int) : Int := IntKind.wrap IntKind.i64 ((1 : Int) + IntKind.wrap IntKind.i64 (Int.tmod x2 (40 : Int)))
def lRasTz_0 (x0_0 x0_1 x0_2 x0_3 x0_4 x0_5 x0_6 x0_7 x0_8 x0_9 x0_10 x0_11 x0_12 x0_13 x0_14 x0_15 x0_16 x0_17 x0_18 x0_19 x0_20 x0_21 x0_22 x0_23 x0_24 x1 x2 x3_0 x3_1 x3_2 x3_3 : Int) : Bool := bif !l18Aw_0 then false else (0 : Int) == Int.ofNat (List.length (lc (sm13Tri_0 x0_0 x0_1 x0_2 x0_3 x0_4 x0_5 x0_24) (sm13Tri_1 x0_0 x0_1 x0_2 x0_3 x0_4 x0_5 x0_24) (sm13Tri_2 x0_0 x0_1 x0_2 x0_3 x0_4 x0_5 x0_24) (sm13Tri_3 x0_0 x0_1 x0_2 x0_3 x0_4 x0_5 x0_24) (sm13Tri_4 x0_0 x0_1 x0_2 x0_3 x0_4 x0_5 x0_24) (sm13Tri_5 x0_0 x0_1 x0_2 x0_3 x0_4 x0_5 x0_24) (IntKind.wrap IntKind.i64 x0_6) (IntKind.wrap IntKind.i64 x0_7) (IntKind.wrap IntKind.i64 x0_8) (sm13Tri_6 x0_9) (sm13Tri_7 x0_10) (sm13Tri_8 x0_11) (IntKind.wrap IntKind.i64 x0_12) (IntKind.wrap IntKind.i64 x0_13) (IntKind.wrap IntKind.i64 x0_14) (IntKind.wrap IntKind.i64 x0_15) (IntKind.wrap IntKind.i64 x0_16) (IntKind.wrap IntKind.i64 x0_17) (IntKind.wrap IntKind.i64 x0_18) (IntKind.wrap IntKind.i64 x0_19) (IntKind.wrap IntKind.i64 x0_20) (IntKind.wrap IntKind.i64 x0_21) (IntKind.wrap IntKind.i64 x0_22) (IntKind.wrap IntKind.i64 x0_23) (bMeet_0 (l18box_0 x3_0) (l18box_1 x3_1) (l18box_2 x3_2) (l18box_3 x3_3) (0 : Int) (0 : Int) (lRasTz_s0 x1) (lRasTz_s1 x2)) (bMeet_1 (l18box_0 x3_0) (l18box_1 x3_1) (l18box_2 x3_2) (l18box_3 x3_3) (0 : Int) (0 : Int) (lRasTz_s0 x1) (lRasTz_s1 x2)) (bMeet_2 (l18box_0 x3_0) (l18box_1 x3_1) (l18box_2 x3_2) (l18box_3 x3_3) (0 : Int) (0 : Int) (lRasTz_s0 x1) (lRasTz_s1 x2)) (bMeet_3 (l18box_0 x3_0) (l18box_1 x3_1) (l18box_2 x3_2) (l18box_3 x3_3) (0 : Int) (0 : Int) (lRasTz_s0 x1) (lRasTz_s1 x2))))
def lRasTz_o (x0_0 x0_1 x0_2 x0_3 x0_4 x0_5 x0_6 x0_7 x0_8 x0_9 x0_10 x0_11 x0_12 x0_13 x0_14 x0_15 x0_16 x0_17 x0_18 x0_19 x0_20 x0_21 x0_22 x0_23 x0_24 x1 x2 x3_0 x3_1 x3_2 x3_3 : Int) : List Prop := [(!!l18Aw_0) = true → decide (tArea_0 (sm13Tri_0 x0_0 x0_1 x0_2 x0_3 x0_4 x0_5 x0_24) (sm13Tri_1 x0_0 x0_1 x0_2 x0_3 x0_4 x0_5 x0_24) (sm13Tri_2 x0_0 x0_1 x0_2 x0_3 x0_4 x0_5 x0_24) (sm13Tri_3 x0_0 x0_1 x0_2 x0_3 x0_4 x0_5 x0_24) (sm13Tri_4 x0_0 x0_1 x0_2 x0_3 x0_4 x0_5 x0_24) (sm13Tri_5 x0_0 x0_1 x0_2 x0_3 x0_4 x0_5 x0_24) ≤ (0 : Int)) = true]
theorem lRasTz_p (x0_0 x0_1 x0_2 x0_3 x0_4 x0_5 x0_6 x0_7 x0_8 x0_9 x0_10 x0_11 x0_12 x0_13 x0_14 x0_15 x0_16 x0_17 x0_18 x0_19 x0_20 x0_21 x0_22 x0_23 x0_24 x1 x2 x3_0 x3_1 x3_2 x3_3 : Int) : evG Try.prog tabRd9 2000 19 [0, 1, 2, 3, 4, 7, 8, 9, 11, 12, 13, 14, 16, 18, 48, 49, 50, 51] [] [] [.g [.int true .i8 x0_0, .int true .i8 x0_1, .int true .i8 x0_2, .int true .i8 x0_3, .int true .i8 x0_4, .int true .i8 x0_5, .int true .u16 x0_6, .int true .u16 x0_7, .int true .u16 x0_8, .int true .u16 x0_9, .int true .u16 x0_10, .int true .u16 x0_11, .int true .u16 x0_12, .int true .u16 x0_13, .int true .u16 x0_14, .int true .u16 x0_15, .int true .u16 x0_16, .int true .u16 x0_17, .int true .u16 x0_18, .int true .u16 x0_19, .int true .u16 x0_20, .int true .u16 x0_21, .int true .u16 x0_22, .int true .u16 x0_23, .int true .u8 x0_24], .a (.int true .u8 x1), .a (.int true .u8 x2), .g [.int true .u8 x3_0, .int true .u8 x3_1, .int true .u8 x3_2, .int true .u8 x3_3]] [] = some (lRasTz_o x0_0 x0_1 x0_2 x0_3 x0_4 x0_5 x0_6 x0_7 x0_8 x0_9 x0_10 x0_11 x0_12 x0_13 x0_14 x0_15 x0_16 x0_17 x0_18 x0_19 x0_20 x0_21 x0_22 x0_23 x0_24 x1 x2 x3_0 x3_1 x3_2 x3_3, LV.a (At.bool true (lRasTz_0 x0_0 x0_1 x0_2 x0_3 x0_4 x0_5 x0_6 x0_7 x0_8 x0_9 x0_10 x0_11 x0_12 x0_13 x0_14 x0_15 x0_16 x0_17 x0_18 x0_19 x0_20 x0_21 x0_22 x0_23 x0_24 x1 x2 x3_0 x3_1 x3_2 x3_3)), []) := by kernel_rfl
def lRasTz_c : Con
  | [.g [.int true .i8 x0_0, .int true .i8 x0_1, .int true .i8 x0_2, .int true .i8 x0_3, .int true .i8 x0_4, .int true .i8 x0_5, .int true .u16 x0_6, .int true .u16 x0_7, .int true .u16 x0_8, .int true .u16 x0_9, .int true .u16 x0_10, .int true .u16 x0_11, .int true .u16 x0_12, .int true .u16 x0_13, .int true .u16 x0_14, .int true .u16 x0_15, .int true .u16 x0_16, .int true .u16 x0_17, .int true .u16 x0_18, .int true .u16 x0_19, .int true .u16 x0_20, .int true .u16 x0_21, .int true .u16 x0_22, .int true .u16 x0_23, .int true .u8 x0_24], .a (.int true .u8 x1), .a (.int true .u8 x2), .g [.int true .u8 x3_0, .int true .u8 x3_1, .int true .u8 x3_2, .int true .u8 x3_3]], [] => some (lRasTz_o x0_0 x0_1 x0_2 x0_3 x0_4 x0_5 x0_6 x0_7 x0_8 x0_9 x0_10 x0_11 x0_12 x0_13 x0_14 x0_15 x0_16 x0_17 x0_18 x0_19 x0_20 x0_21 x0_22 x0_23 x0_24 x1 x2 x3_0 x3_1 x3_2 x3_3, LV.a (At.bool true (lRasTz_0 x0_0 x0_1 x0_2 x0_3 x0_4 x0_5 x0_6 x0_7 x0_8 x0_9 x0_10 x0_11 x0_12 x0_13 x0_14 x0_15 x0_16 x0_17 x0_18 x0_19 x0_20 x0_21 x0_22 x0_23 x0_24 x1 x2 x3_0 x3_1 x3_2 x3_3)), [])
  | _, _ => none
theorem lRasTz_ok : ConOK Try.prog 19 (normC lRasTz_c) := normC_ok (by
  intro args bs obs lv out h ho φ vs w may ha hM
  unfold lRasTz_c at h
  split at h
  · simp only [Option.some.injEq, Prod.mk.injEq] at h
    obtain ⟨rfl, rfl, rfl⟩ := h
    rename_i x0_0 x0_1 x0_2 x0_3 x0_4 x0_5 x0_6 x0_7 x0_8 x0_9 x0_10 x0_11 x0_12 x0_13 x0_14 x0_15 x0_16 x0_17 x0_18 x0_19 x0_20 x0_21 x0_22 x0_23 x0_24 x1 x2 x3_0 x3_1 x3_2 x3_3
    exact evG_ok tabRd9_ok follows _ _ _ _ _ (lRasTz_p x0_0 x0_1 x0_2 x0_3 x0_4 x0_5 x0_6 x0_7 x0_8 x0_9 x0_10 x0_11 x0_12 x0_13 x0_14 x0_15 x0_16 x0_17 x0_18 x0_19 x0_20 x0_21 x0_22 x0_23 x0_24 x1 x2 x3_0 x3_1 x3_2 x3_3) ho φ vs w may ha hM
  · cases h)
theorem lRasTz_en : Enters Try.prog 19 := fun args => by kernel_rfl
-- 481 54 14 ms

def tabRda : Tab := (19, normC lRasTz_c) :: tabRd9
theorem tabRda_ok : TOK Try.prog tabRda := TOK.cons lRasTz_en lRasTz_ok (tabRd9_ok)

end Go.Proofs.Ytcdejlgophpdjaa
end

section
namespace Go.Proofs.Ytcdejlgophpdjaa
open Go Go.RowKit Go.Proofs.Ytcdejlgophpdjaa.V
set_option linter.unusedVariables false
set_option linter.unusedSectionVars false

namespace Ra
theorem corner {a b c d p q p0 p1 q0 q1 : Int} (hp : p0 ≤ p ∧ p ≤ p1) (hq : q0 ≤ q ∧ q ≤ q1) (h00 : sd a b c d p0 q0 < 0) (h10 : sd a b c d p1 q0 < 0) (h01 : sd a b c d p0 q1 < 0) (h11 : sd a b c d p1 q1 < 0) : sd a b c d p q < 0 := by
  unfold sd at *
  have fA : (0 ≤ c - a ∧ (c - a) * (q - b) ≤ (c - a) * (q1 - b)) ∨ (c - a) * (q - b) ≤ (c - a) * (q0 - b) := by
    by_cases h : 0 ≤ c - a
    · exact .inl ⟨h, Int.mul_le_mul_of_nonneg_left (by omega) h⟩
    · have := Int.mul_le_mul_of_nonneg_left (show q0 - b ≤ q - b by omega) (show 0 ≤ -(c - a) by omega)
      rw [Int.neg_mul, Int.neg_mul] at this
      exact .inr (by omega)
  have fB : (d - b) * (p0 - a) ≤ (d - b) * (p - a) ∨ (d - b) * (p1 - a) ≤ (d - b) * (p - a) := by
    by_cases h : 0 ≤ d - b
    · exact .inl (Int.mul_le_mul_of_nonneg_left (by omega) h)
    · have := Int.mul_le_mul_of_nonneg_left (show p - a ≤ p1 - a by omega) (show 0 ≤ -(d - b) by omega)
      rw [Int.neg_mul, Int.neg_mul] at this
      exact .inr (by omega)
  generalize (c - a) * (q - b) = u at *
  generalize (d - b) * (p - a) = v at *
  generalize (c - a) * (q0 - b) = u0 at *
  generalize (c - a) * (q1 - b) = u1 at *
  generalize (d - b) * (p0 - a) = v0 at *
  generalize (d - b) * (p1 - a) = v1 at *
  omega

theorem edge_no {a b c d m0 m1 m2 m3 x y : Int} (ha : -2000 ≤ a ∧ a ≤ 2000) (hb : -2000 ≤ b ∧ b ≤ 2000) (hc : -2000 ≤ c ∧ c ≤ 2000) (hd : -2000 ≤ d ∧ d ≤ 2000) (h0 : 0 ≤ m0) (h1 : 0 ≤ m1) (h2 : m2 ≤ 64) (h3 : m3 ≤ 64) (hx : m0 ≤ x ∧ x < m2) (hy : m1 ≤ y ∧ y < m3) (hs : 0 ≤ sd a b c d (16 * x + 8) (16 * y + 8)) :
    (bif bif bif decide (eSide_0 a b c d (sMiddle_0 m0) (sMiddle_1 m1) < 0) then decide (eSide_0 a b c d (bOut_s0 m2) (sMiddle_1 m1) < 0) else false then decide (eSide_0 a b c d (sMiddle_0 m0) (bOut_s1 m3) < 0) else false then decide (eSide_0 a b c d (bOut_s0 m2) (bOut_s1 m3) < 0) else false) = false := by
  have e2 : bOut_s0 m2 = 16 * (m2 - 1) + 8 := by
    unfold bOut_s0
    rw [w64_in (n := m2 - 1) (by omega) (by omega)]
    exact mid_0 (by omega)
  have e3 : bOut_s1 m3 = 16 * (m3 - 1) + 8 := by
    unfold bOut_s1
    rw [w64_in (n := m3 - 1) (by omega) (by omega)]
    exact mid_1 (by omega)
  rw [e2, e3, mid_0 (x := m0) (by omega), mid_1 (x := m1) (by omega), side_eq, side_eq, side_eq, side_eq, nc_id (x := a) (by omega) (by omega), nc_id (x := b) (by omega) (by omega), nc_id (x := c) (by omega) (by omega), nc_id (x := d) (by omega) (by omega), nc_id (x := 16 * m0 + 8) (by omega) (by omega), nc_id (x := 16 * m1 + 8) (by omega) (by omega), nc_id (x := 16 * (m2 - 1) + 8) (by omega) (by omega), nc_id (x := 16 * (m3 - 1) + 8) (by omega) (by omega)]
  have key := fun g00 g10 g01 g11 => corner (a := a) (b := b) (c := c) (d := d) (p := 16 * x + 8) (q := 16 * y + 8) (p0 := 16 * m0 + 8) (p1 := 16 * (m2 - 1) + 8) (q0 := 16 * m1 + 8) (q1 := 16 * (m3 - 1) + 8) (by omega) (by omega) g00 g10 g01 g11
  by_cases g00 : sd a b c d (16 * m0 + 8) (16 * m1 + 8) < 0
  · by_cases g10 : sd a b c d (16 * (m2 - 1) + 8) (16 * m1 + 8) < 0
    · by_cases g01 : sd a b c d (16 * m0 + 8) (16 * (m3 - 1) + 8) < 0
      · by_cases g11 : sd a b c d (16 * (m2 - 1) + 8) (16 * (m3 - 1) + 8) < 0
        · have := key g00 g10 g01 g11
          omega
        · rw [decide_eq_false g11]
          cases decide (sd a b c d (16 * m0 + 8) (16 * m1 + 8) < 0) <;> cases decide (sd a b c d (16 * (m2 - 1) + 8) (16 * m1 + 8) < 0) <;> cases decide (sd a b c d (16 * m0 + 8) (16 * (m3 - 1) + 8) < 0) <;> rfl
      · rw [decide_eq_false g01]
        cases decide (sd a b c d (16 * m0 + 8) (16 * m1 + 8) < 0) <;> cases decide (sd a b c d (16 * (m2 - 1) + 8) (16 * m1 + 8) < 0) <;> rfl
    · rw [decide_eq_false g10]
      cases decide (sd a b c d (16 * m0 + 8) (16 * m1 + 8) < 0) <;> rfl
  · rw [decide_eq_false g00]; rfl

theorem min3 (p q r : Int) : (if r < (if q < p then q else p) then r else (if q < p then q else p)) ≤ p ∧ (if r < (if q < p then q else p) then r else (if q < p then q else p)) ≤ q ∧ (if r < (if q < p then q else p) then r else (if q < p then q else p)) ≤ r ∧ ((if r < (if q < p then q else p) then r else (if q < p then q else p)) = p ∨ (if r < (if q < p then q else p) then r else (if q < p then q else p)) = q ∨ (if r < (if q < p then q else p) then r else (if q < p then q else p)) = r) := by
  have h1 := mn p q
  have h2 := mn (if q < p then q else p) r
  omega
theorem max3 (p q r : Int) : p ≤ (if (if p < q then q else p) < r then r else (if p < q then q else p)) ∧ q ≤ (if (if p < q then q else p) < r then r else (if p < q then q else p)) ∧ r ≤ (if (if p < q then q else p) < r then r else (if p < q then q else p)) ∧ ((if (if p < q then q else p) < r then r else (if p < q then q else p)) = p ∨ (if (if p < q then q else p) < r then r else (if p < q then q else p)) = q ∨ (if (if p < q then q else p) < r then r else (if p < q then q else p)) = r) := by
  have h1 := mx p q
  have h2 := mx (if p < q then q else p) r
  omega
theorem s16 : bPix_s0 = 16 := by kernel_rfl
/-- A row of pixels' ends. -/
theorem pix_lo {m x : Int} (hm : -2000 ≤ m ∧ m ≤ 2000) (h : m ≤ 16 * x + 8) : Int.fdiv (IntKind.wrap .i64 (m + 7)) bPix_s0 ≤ x := by
  rw [s16, w64_in (by omega) (by omega), Int.fdiv_eq_ediv_of_nonneg _ (by omega)]
  omega
theorem pix_hi {m x : Int} (hm : -2000 ≤ m ∧ m ≤ 2000) (h : 16 * x + 8 ≤ m) : x < IntKind.wrap .i64 (Int.fdiv (IntKind.wrap .i64 (m - 8)) bPix_s0 + 1) := by
  rw [s16, w64_in (n := m - 8) (by omega) (by omega), Int.fdiv_eq_ediv_of_nonneg _ (by omega), w64_in (by omega) (by omega)]
  omega

section
variable {pa pb pc pd pe pf z0 z1 z2 n0 n1 n2 k00 k01 k02 k03 k10 k11 k12 k13 k20 k21 k22 k23 : Int} (H : TB pa pb pc pd pe pf z0 z1 z2 n0 n1 n2 k00 k01 k02 k03 k10 k11 k12 k13 k20 k21 k22 k23)
include H
theorem pix_in {x y : Int} (h : cv pa pb pc pd pe pf (16 * x + 8) (16 * y + 8)) : bPix_0 pa pc pe ≤ x ∧ x < bPix_2 pa pc pe ∧ bPix_1 pb pd pf ≤ y ∧ y < bPix_3 pb pd pf := by
  obtain ⟨hA, g0, g1, g2⟩ := h
  have g0 := wok_nonneg g0
  have g1 := wok_nonneg g1
  have g2 := wok_nonneg g2
  have hs := sd_sum pa pb pc pd pe pf (16 * x + 8) (16 * y + 8)
  have hx := sd_x pa pb pc pd pe pf (16 * x + 8) (16 * y + 8)
  have hy := sd_y pa pb pc pd pe pf (16 * x + 8) (16 * y + 8)
  obtain ⟨e0, e1, e2, e3, e4, e5⟩ := nrs H
  have ha := H.ha
  have hb := H.hb
  have hc := H.hc
  have hd := H.hd
  have he := H.he
  have hf := H.hf
  have m0 : eBox_0 pa pc pe ≤ pa ∧ eBox_0 pa pc pe ≤ pc ∧ eBox_0 pa pc pe ≤ pe ∧ (eBox_0 pa pc pe = pa ∨ eBox_0 pa pc pe = pc ∨ eBox_0 pa pc pe = pe) := by
    unfold eBox_0 eBox_s0
    rw [Ytcdejlgophpdjaa.n0, Ytcdejlgophpdjaa.n0, Ytcdejlgophpdjaa.n0, e0, e2, e4]
    exact min3 pa pc pe
  have m1 : eBox_1 pb pd pf ≤ pb ∧ eBox_1 pb pd pf ≤ pd ∧ eBox_1 pb pd pf ≤ pf ∧ (eBox_1 pb pd pf = pb ∨ eBox_1 pb pd pf = pd ∨ eBox_1 pb pd pf = pf) := by
    unfold eBox_1 eBox_s1
    rw [Ytcdejlgophpdjaa.n1, Ytcdejlgophpdjaa.n1, Ytcdejlgophpdjaa.n1, e1, e3, e5]
    exact min3 pb pd pf
  have m2 : pa ≤ eBox_2 pa pc pe ∧ pc ≤ eBox_2 pa pc pe ∧ pe ≤ eBox_2 pa pc pe ∧ (eBox_2 pa pc pe = pa ∨ eBox_2 pa pc pe = pc ∨ eBox_2 pa pc pe = pe) := by
    unfold eBox_2 eBox_s2
    rw [Ytcdejlgophpdjaa.n0, Ytcdejlgophpdjaa.n0, Ytcdejlgophpdjaa.n0, e0, e2, e4]
    exact max3 pa pc pe
  have m3 : pb ≤ eBox_3 pb pd pf ∧ pd ≤ eBox_3 pb pd pf ∧ pf ≤ eBox_3 pb pd pf ∧ (eBox_3 pb pd pf = pb ∨ eBox_3 pb pd pf = pd ∨ eBox_3 pb pd pf = pf) := by
    unfold eBox_3 eBox_s3
    rw [Ytcdejlgophpdjaa.n1, Ytcdejlgophpdjaa.n1, Ytcdejlgophpdjaa.n1, e1, e3, e5]
    exact max3 pb pd pf
  refine ⟨pix_lo (by omega) ?_, pix_hi (by omega) ?_, pix_lo (by omega) ?_, pix_hi (by omega) ?_⟩
  · exact between g0 g1 g2 hs hA hx m0.1 m0.2.1 m0.2.2.1
  · exact between' g0 g1 g2 hs hA hx m2.1 m2.2.1 m2.2.2.1
  · exact between g0 g1 g2 hs hA hy m1.1 m1.2.1 m1.2.2.1
  · exact between' g0 g1 g2 hs hA hy m3.1 m3.2.1 m3.2.2.1

theorem out_no {m0 m1 m2 m3 x y : Int} (h0 : 0 ≤ m0) (h1 : 0 ≤ m1) (h2 : m2 ≤ 64) (h3 : m3 ≤ 64) (hx : m0 ≤ x ∧ x < m2) (hy : m1 ≤ y ∧ y < m3) (h : cv pa pb pc pd pe pf (16 * x + 8) (16 * y + 8)) : bOut_0 pa pb pc pd pe pf m0 m1 m2 m3 = false := by
  obtain ⟨hA, g0, g1, g2⟩ := h
  have g0 := wok_nonneg g0
  have g1 := wok_nonneg g1
  have g2 := wok_nonneg g2
  have i1 : bOut_s2 pa pb pc pd m0 m1 m2 m3 = false := edge_no H.ha H.hb H.hc H.hd h0 h1 h2 h3 hx hy g2
  have i2 : bOut_s3 pc pd pe pf m0 m1 m2 m3 = false := edge_no H.hc H.hd H.he H.hf h0 h1 h2 h3 hx hy g0
  have i3 := edge_no H.he H.hf H.ha H.hb h0 h1 h2 h3 hx hy g1
  unfold bOut_0
  rw [i1, i2, i3]
  rfl

variable {w h : Int} (w0 : 1 ≤ w) (w1 : w ≤ 40) (h0 : 1 ≤ h) (h1 : h ≤ 40) (c0 c1 c2 c3 : Int)
include w0 w1 h0 h1
theorem told_yes {t x y : Int} (t0 : 0 ≤ t) (t1 : t < tl w * tl h) (hb : bBox_0 w h t ≤ x ∧ x < bBox_2 w h t ∧ bBox_1 w h t ≤ y ∧ y < bBox_3 w h t) (hc : c0 ≤ x ∧ x < c2 ∧ c1 ≤ y ∧ y < c3) (hp : cv pa pb pc pd pe pf (16 * x + 8) (16 * y + 8)) : (fun t => bOf_l125_s5 (.mk 0 t w h pa pb pc pd pe pf (bMeet_0 (bPix_0 pa pc pe) (bPix_1 pb pd pf) (bPix_2 pa pc pe) (bPix_3 pb pd pf) c0 c1 c2 c3) (bMeet_1 (bPix_0 pa pc pe) (bPix_1 pb pd pf) (bPix_2 pa pc pe) (bPix_3 pb pd pf) c0 c1 c2 c3) (bMeet_2 (bPix_0 pa pc pe) (bPix_1 pb pd pf) (bPix_2 pa pc pe) (bPix_3 pb pd pf) c0 c1 c2 c3) (bMeet_3 (bPix_0 pa pc pe) (bPix_1 pb pd pf) (bPix_2 pa pc pe) (bPix_3 pb pd pf) c0 c1 c2 c3) [])) t = true := by
  obtain ⟨b0, b2, b1, b3⟩ := tile_in w0 (by omega) h0 (by omega) t0 t1
  have hq := (meet_iff (bPix_0 pa pc pe) (bPix_1 pb pd pf) (bPix_2 pa pc pe) (bPix_3 pb pd pf) c0 c1 c2 c3 x y).2 ⟨pix_in H hp, hc⟩
  show bOf_l125_s5 (.mk 0 t w h pa pb pc pd pe pf (bMeet_0 (bPix_0 pa pc pe) (bPix_1 pb pd pf) (bPix_2 pa pc pe) (bPix_3 pb pd pf) c0 c1 c2 c3) (bMeet_1 (bPix_0 pa pc pe) (bPix_1 pb pd pf) (bPix_2 pa pc pe) (bPix_3 pb pd pf) c0 c1 c2 c3) (bMeet_2 (bPix_0 pa pc pe) (bPix_1 pb pd pf) (bPix_2 pa pc pe) (bPix_3 pb pd pf) c0 c1 c2 c3) (bMeet_3 (bPix_0 pa pc pe) (bPix_1 pb pd pf) (bPix_2 pa pc pe) (bPix_3 pb pd pf) c0 c1 c2 c3) []) = true
  generalize bMeet_0 (bPix_0 pa pc pe) (bPix_1 pb pd pf) (bPix_2 pa pc pe) (bPix_3 pb pd pf) c0 c1 c2 c3 = q0 at *
  generalize bMeet_1 (bPix_0 pa pc pe) (bPix_1 pb pd pf) (bPix_2 pa pc pe) (bPix_3 pb pd pf) c0 c1 c2 c3 = q1 at *
  generalize bMeet_2 (bPix_0 pa pc pe) (bPix_1 pb pd pf) (bPix_2 pa pc pe) (bPix_3 pb pd pf) c0 c1 c2 c3 = q2 at *
  generalize bMeet_3 (bPix_0 pa pc pe) (bPix_1 pb pd pf) (bPix_2 pa pc pe) (bPix_3 pb pd pf) c0 c1 c2 c3 = q3 at *
  have hm := (meet_iff (bBox_0 w h t) (bBox_1 w h t) (bBox_2 w h t) (bBox_3 w h t) q0 q1 q2 q3 x y).2 ⟨hb, hq⟩
  obtain ⟨d0, d1, d2, d3⟩ := meet_bd (bBox_0 w h t) (bBox_1 w h t) (bBox_2 w h t) (bBox_3 w h t) q0 q1 q2 q3 (n := 64) (by omega) b0 b1 (by omega) (by omega)
  have e : bOf_l125_s5 (.mk 0 t w h pa pb pc pd pe pf q0 q1 q2 q3 []) = (bif !(bMeet_0 (bBox_0 w h t) (bBox_1 w h t) (bBox_2 w h t) (bBox_3 w h t) q0 q1 q2 q3 == 0 && (bMeet_1 (bBox_0 w h t) (bBox_1 w h t) (bBox_2 w h t) (bBox_3 w h t) q0 q1 q2 q3 == 0 && (bMeet_2 (bBox_0 w h t) (bBox_1 w h t) (bBox_2 w h t) (bBox_3 w h t) q0 q1 q2 q3 == 0 && bMeet_3 (bBox_0 w h t) (bBox_1 w h t) (bBox_2 w h t) (bBox_3 w h t) q0 q1 q2 q3 == 0))) then !bOut_0 pa pb pc pd pe pf (bMeet_0 (bBox_0 w h t) (bBox_1 w h t) (bBox_2 w h t) (bBox_3 w h t) q0 q1 q2 q3) (bMeet_1 (bBox_0 w h t) (bBox_1 w h t) (bBox_2 w h t) (bBox_3 w h t) q0 q1 q2 q3) (bMeet_2 (bBox_0 w h t) (bBox_1 w h t) (bBox_2 w h t) (bBox_3 w h t) q0 q1 q2 q3) (bMeet_3 (bBox_0 w h t) (bBox_1 w h t) (bBox_2 w h t) (bBox_3 w h t) q0 q1 q2 q3) else false) := rfl
  rw [e, out_no H d0 d1 d2 d3 ⟨hm.1, hm.2.1⟩ hm.2.2 hp]
  have hz : (bMeet_2 (bBox_0 w h t) (bBox_1 w h t) (bBox_2 w h t) (bBox_3 w h t) q0 q1 q2 q3 == 0) = false := beq_false_of_ne (by omega)
  rw [hz]
  simp

/-- All pixels, tile by tile. -/
theorem tiles_len : (tD (fun t => lc pa pb pc pd pe pf z0 z1 z2 n0 n1 n2 k00 k01 k02 k03 k10 k11 k12 k13 k20 k21 k22 k23 (bMeet_0 (bBox_0 w h t) (bBox_1 w h t) (bBox_2 w h t) (bBox_3 w h t) c0 c1 c2 c3) (bMeet_1 (bBox_0 w h t) (bBox_1 w h t) (bBox_2 w h t) (bBox_3 w h t) c0 c1 c2 c3) (bMeet_2 (bBox_0 w h t) (bBox_1 w h t) (bBox_2 w h t) (bBox_3 w h t) c0 c1 c2 c3) (bMeet_3 (bBox_0 w h t) (bBox_1 w h t) (bBox_2 w h t) (bBox_3 w h t) c0 c1 c2 c3)) (fun t => bOf_l125_s5 (.mk 0 t w h pa pb pc pd pe pf (bMeet_0 (bPix_0 pa pc pe) (bPix_1 pb pd pf) (bPix_2 pa pc pe) (bPix_3 pb pd pf) c0 c1 c2 c3) (bMeet_1 (bPix_0 pa pc pe) (bPix_1 pb pd pf) (bPix_2 pa pc pe) (bPix_3 pb pd pf) c0 c1 c2 c3) (bMeet_2 (bPix_0 pa pc pe) (bPix_1 pb pd pf) (bPix_2 pa pc pe) (bPix_3 pb pd pf) c0 c1 c2 c3) (bMeet_3 (bPix_0 pa pc pe) (bPix_1 pb pd pf) (bPix_2 pa pc pe) (bPix_3 pb pd pf) c0 c1 c2 c3) [])) (tl w * tl h).toNat 0).length = (lc pa pb pc pd pe pf z0 z1 z2 n0 n1 n2 k00 k01 k02 k03 k10 k11 k12 k13 k20 k21 k22 k23 (bMeet_0 c0 c1 c2 c3 0 0 w h) (bMeet_1 c0 c1 c2 c3 0 0 w h) (bMeet_2 c0 c1 c2 c3 0 0 w h) (bMeet_3 c0 c1 c2 c3 0 0 w h)).length := by
  have hT := mul_bd8 (tl_bd (w := w) (by omega) (by omega)) (tl_bd (w := h) (by omega) (by omega))
  have disj : ∀ i j r, 0 ≤ i → i < tl w * tl h → 0 ≤ j → j < tl w * tl h → r ∈ (fun t => lc pa pb pc pd pe pf z0 z1 z2 n0 n1 n2 k00 k01 k02 k03 k10 k11 k12 k13 k20 k21 k22 k23 (bMeet_0 (bBox_0 w h t) (bBox_1 w h t) (bBox_2 w h t) (bBox_3 w h t) c0 c1 c2 c3) (bMeet_1 (bBox_0 w h t) (bBox_1 w h t) (bBox_2 w h t) (bBox_3 w h t) c0 c1 c2 c3) (bMeet_2 (bBox_0 w h t) (bBox_1 w h t) (bBox_2 w h t) (bBox_3 w h t) c0 c1 c2 c3) (bMeet_3 (bBox_0 w h t) (bBox_1 w h t) (bBox_2 w h t) (bBox_3 w h t) c0 c1 c2 c3)) i → r ∈ (fun t => lc pa pb pc pd pe pf z0 z1 z2 n0 n1 n2 k00 k01 k02 k03 k10 k11 k12 k13 k20 k21 k22 k23 (bMeet_0 (bBox_0 w h t) (bBox_1 w h t) (bBox_2 w h t) (bBox_3 w h t) c0 c1 c2 c3) (bMeet_1 (bBox_0 w h t) (bBox_1 w h t) (bBox_2 w h t) (bBox_3 w h t) c0 c1 c2 c3) (bMeet_2 (bBox_0 w h t) (bBox_1 w h t) (bBox_2 w h t) (bBox_3 w h t) c0 c1 c2 c3) (bMeet_3 (bBox_0 w h t) (bBox_1 w h t) (bBox_2 w h t) (bBox_3 w h t) c0 c1 c2 c3)) j → i = j := by
    intro i j r i0 i1 j0 j1 hi hj
    obtain ⟨-, x, y, p1, -, -, p4⟩ := (cells_iff _ _ _ _ _ r).1 hi
    obtain ⟨-, x', y', p1', -, -, p4'⟩ := (cells_iff _ _ _ _ _ r).1 hj
    rw [p4] at p4'
    have ex : x = x' := congrArg (fun l : List Int => l.headD 0) p4'
    have ey : y = y' := congrArg (fun l : List Int => l.getD 1 0) p4'
    subst ex
    subst ey
    have a := ((meet_iff _ _ _ _ _ _ _ _ x y).1 p1).1
    have b := ((meet_iff _ _ _ _ _ _ _ _ x y).1 p1').1
    exact apart_tiles w0 (by omega) h0 (by omega) i0 i1 j0 j1 ⟨a.1, a.2.1, a.2.2.1, a.2.2.2, b⟩
  have nd := tD_nodup (f := (fun t => bOf_l125_s5 (.mk 0 t w h pa pb pc pd pe pf (bMeet_0 (bPix_0 pa pc pe) (bPix_1 pb pd pf) (bPix_2 pa pc pe) (bPix_3 pb pd pf) c0 c1 c2 c3) (bMeet_1 (bPix_0 pa pc pe) (bPix_1 pb pd pf) (bPix_2 pa pc pe) (bPix_3 pb pd pf) c0 c1 c2 c3) (bMeet_2 (bPix_0 pa pc pe) (bPix_1 pb pd pf) (bPix_2 pa pc pe) (bPix_3 pb pd pf) c0 c1 c2 c3) (bMeet_3 (bPix_0 pa pc pe) (bPix_1 pb pd pf) (bPix_2 pa pc pe) (bPix_3 pb pd pf) c0 c1 c2 c3) []))) (fun j => cells_nodup _ _ _ _ _) disj (tl w * tl h).toNat 0 (by omega) (by omega)
  refine List.Perm.length_eq ((List.perm_ext_iff_of_nodup nd (cells_nodup _ _ _ _ _)).2 fun r => ?_)
  rw [tD_mem]
  constructor
  · rintro ⟨j, j0, j1, hf, hr⟩
    obtain ⟨hk, x, y, p1, p2, p3, p4⟩ := (cells_iff _ _ _ _ _ r).1 hr
    obtain ⟨a, b⟩ := (meet_iff _ _ _ _ _ _ _ _ x y).1 p1
    obtain ⟨b0, b2, b1, b3⟩ := tile_in w0 (by omega) h0 (by omega) j0 (by omega : j < tl w * tl h)
    exact (cells_iff _ _ _ _ _ r).2 ⟨hk, x, y, (meet_iff _ _ _ _ _ _ _ _ x y).2 ⟨b, by omega⟩, p2, p3, p4⟩
  · intro hr
    obtain ⟨hk, x, y, p1, p2, p3, p4⟩ := (cells_iff _ _ _ _ _ r).1 hr
    obtain ⟨a, b⟩ := (meet_iff _ _ _ _ _ _ _ _ x y).1 p1
    obtain ⟨t, t0, t1, ht⟩ := tile_of w0 (by omega) h0 (by omega) b.1 b.2.1 b.2.2.1 b.2.2.2
    have hcv : cv pa pb pc pd pe pf (16 * x + 8) (16 * y + 8) := by
      have e : Ytcdejlgophpdjaa.at5 pa pb pc pd pe pf x y = true := (sat_5 H (by omega) (by omega)).symm.trans p3
      exact of_decide_eq_true e
    exact ⟨t, t0, by omega, told_yes H w0 w1 h0 h1 c0 c1 c2 c3 t0 t1 ht a hcv, (cells_iff _ _ _ _ _ r).2 ⟨hk, x, y, (meet_iff _ _ _ _ _ _ _ _ x y).2 ⟨ht, a⟩, p2, p3, p4⟩⟩
end

section
variable {w h : Int} (w0 : 1 ≤ w) (w1 : w ≤ 40) (h0 : 1 ≤ h) (h1 : h ≤ 40)
include w0 w1 h0 h1
/-- The tiles that are told of. -/
theorem of_run (pa pb pc pd pe pf q0 q1 q2 q3 : Int) : (∃ v', lrun bOf_l125_st 18446744073709551616 (.mk (bGTiles_0 w h) 0 w h pa pb pc pd pe pf q0 q1 q2 q3 []) = some (.e 0, v') ∧ v' = .mk (bGTiles_0 w h) (Int.ofNat (tl w * tl h).toNat) w h pa pb pc pd pe pf q0 q1 q2 q3 (told (fun t => bOf_l125_s5 (.mk 0 t w h pa pb pc pd pe pf q0 q1 q2 q3 [])) (tl w * tl h).toNat 0)) ∧
    lok bOf_l125_st 18446744073709551616 (.mk (bGTiles_0 w h) 0 w h pa pb pc pd pe pf q0 q1 q2 q3 []) := by
  have hT := mul_bd8 (tl_bd (w := w) (by omega) (by omega)) (tl_bd (w := h) (by omega) (by omega))
  have hN := gtiles_eq (w := w) (h := h) (by omega) (by omega) (by omega) (by omega)
  have hW : bTiles_0 w ≠ 0 := by
    rw [tiles_eq (by omega) (by omega)]
    unfold tl; omega
  rw [hN]
  obtain ⟨N, hNN⟩ : ∃ N : Nat, tl w * tl h = (N : Int) := ⟨(tl w * tl h).toNat, by omega⟩
  rw [hNN] at hT ⊢
  rw [Int.toNat_natCast]
  refine inv_run (I := fun k v => v = (.mk (N : Int) (Int.ofNat k) w h pa pb pc pd pe pf q0 q1 q2 q3 (told (fun t => bOf_l125_s5 (.mk 0 t w h pa pb pc pd pe pf q0 q1 q2 q3 [])) k 0) : bOf_l125_T)) (x := .e 0) (n := N) nofun ?_ ?_ ?_ N 0 _ (by omega) rfl _ (by omega)
  · rintro k v hk rfl
    have ek : Int.ofNat k = (k : Int) := rfl
    have s0 : ∀ l, bOf_l125_s0 (.mk (N : Int) (Int.ofNat k) w h pa pb pc pd pe pf q0 q1 q2 q3 l) = true := fun l => decide_eq_true (by show Int.ofNat k < (N : Int); omega)
    unfold bOf_l125_st
    rw [s0]
    refine ⟨_, rfl, ?_⟩
    have e1 : IntKind.wrap .i64 (Int.ofNat k + 1) = Int.ofNat (k + 1) := by rw [w64_in (by omega) (by omega)]; rfl
    show (.mk (N : Int) (IntKind.wrap .i64 (Int.ofNat k + 1)) w h pa pb pc pd pe pf q0 q1 q2 q3 (bif (fun t => bOf_l125_s5 (.mk 0 t w h pa pb pc pd pe pf q0 q1 q2 q3 [])) (Int.ofNat k) then told (fun t => bOf_l125_s5 (.mk 0 t w h pa pb pc pd pe pf q0 q1 q2 q3 [])) k 0 ++ [[Int.ofNat k]] else told (fun t => bOf_l125_s5 (.mk 0 t w h pa pb pc pd pe pf q0 q1 q2 q3 [])) k 0) : bOf_l125_T) = _
    rw [e1, told_snoc, Int.zero_add]
    show _ = (.mk (N : Int) (Int.ofNat (k + 1)) w h pa pb pc pd pe pf q0 q1 q2 q3 (told (fun t => bOf_l125_s5 (.mk 0 t w h pa pb pc pd pe pf q0 q1 q2 q3 [])) k 0 ++ (bif (fun t => bOf_l125_s5 (.mk 0 t w h pa pb pc pd pe pf q0 q1 q2 q3 [])) (Int.ofNat k) then [[Int.ofNat k]] else [])) : bOf_l125_T)
    cases (fun t => bOf_l125_s5 (.mk 0 t w h pa pb pc pd pe pf q0 q1 q2 q3 [])) (Int.ofNat k)
    · rw [cond_false, cond_false, List.append_nil]
    · rfl
  · rintro v rfl
    have s0 : ∀ l, bOf_l125_s0 (.mk (N : Int) (Int.ofNat N) w h pa pb pc pd pe pf q0 q1 q2 q3 l) = false := fun l => decide_eq_false (by
      have ek : Int.ofNat N = (N : Int) := rfl
      show ¬ Int.ofNat N < (N : Int); omega)
    unfold bOf_l125_st
    rw [s0]
    rfl
  · rintro k v hk rfl
    refine ⟨fun _ _ => hW, fun _ _ => hW, fun _ _ => ?_, trivial⟩
    have := told_len (fun t => bOf_l125_s5 (.mk 0 t w h pa pb pc pd pe pf q0 q1 q2 q3 [])) k 0
    have e : ∀ l : List (List Int), (bOf_l125_s6 (.mk (N : Int) (Int.ofNat k) w h pa pb pc pd pe pf q0 q1 q2 q3 l)).length = l.length + 1 := fun l => by unfold bOf_l125_s6; simp
    rw [e]
    omega

variable (pa pb pc pd pe pf z0 z1 z2 n0 n1 n2 k00 k01 k02 k03 k10 k11 k12 k13 k20 k21 k22 k23 c0 c1 c2 c3 : Int) (G : List (List Int))
/-- The pixels of all tiles. -/
theorem sum_run (Tl : List (List Int)) (hl : Tl.length ≤ 64) : (∃ v', lrun lRasTi_l1021_st 18446744073709551616 (.mk false 0 (Int.ofNat (List.length Tl)) 0 pa pb pc pd pe pf z0 z1 z2 n0 n1 n2 k00 k01 k02 k03 k10 k11 k12 k13 k20 k21 k22 k23 w h c0 c1 c2 c3 G Tl : lRasTi_l1021_T) = some (.e 0, v') ∧ v' = (.mk false (Int.ofNat (Tl.map fun r => ((fun t => lc pa pb pc pd pe pf z0 z1 z2 n0 n1 n2 k00 k01 k02 k03 k10 k11 k12 k13 k20 k21 k22 k23 (bMeet_0 (bBox_0 w h t) (bBox_1 w h t) (bBox_2 w h t) (bBox_3 w h t) c0 c1 c2 c3) (bMeet_1 (bBox_0 w h t) (bBox_1 w h t) (bBox_2 w h t) (bBox_3 w h t) c0 c1 c2 c3) (bMeet_2 (bBox_0 w h t) (bBox_1 w h t) (bBox_2 w h t) (bBox_3 w h t) c0 c1 c2 c3) (bMeet_3 (bBox_0 w h t) (bBox_1 w h t) (bBox_2 w h t) (bBox_3 w h t) c0 c1 c2 c3)) (r.getD 0 0)).length).sum) (Int.ofNat (List.length Tl)) (Int.ofNat Tl.length) pa pb pc pd pe pf z0 z1 z2 n0 n1 n2 k00 k01 k02 k03 k10 k11 k12 k13 k20 k21 k22 k23 w h c0 c1 c2 c3 G Tl : lRasTi_l1021_T)) ∧ lok lRasTi_l1021_st 18446744073709551616 (.mk false 0 (Int.ofNat (List.length Tl)) 0 pa pb pc pd pe pf z0 z1 z2 n0 n1 n2 k00 k01 k02 k03 k10 k11 k12 k13 k20 k21 k22 k23 w h c0 c1 c2 c3 G Tl : lRasTi_l1021_T) := by
  have hW : bTiles_0 w ≠ 0 := by
    rw [tiles_eq (by omega) (by omega)]
    unfold tl; omega
  have g1 : ∀ r : List Int, ((fun t => lc pa pb pc pd pe pf z0 z1 z2 n0 n1 n2 k00 k01 k02 k03 k10 k11 k12 k13 k20 k21 k22 k23 (bMeet_0 (bBox_0 w h t) (bBox_1 w h t) (bBox_2 w h t) (bBox_3 w h t) c0 c1 c2 c3) (bMeet_1 (bBox_0 w h t) (bBox_1 w h t) (bBox_2 w h t) (bBox_3 w h t) c0 c1 c2 c3) (bMeet_2 (bBox_0 w h t) (bBox_1 w h t) (bBox_2 w h t) (bBox_3 w h t) c0 c1 c2 c3) (bMeet_3 (bBox_0 w h t) (bBox_1 w h t) (bBox_2 w h t) (bBox_3 w h t) c0 c1 c2 c3)) (r.getD 0 0)).length ≤ 4096 := fun r => cells_len _ _ _ _ _
  have bd : ∀ k, ((Tl.take k).map fun r => ((fun t => lc pa pb pc pd pe pf z0 z1 z2 n0 n1 n2 k00 k01 k02 k03 k10 k11 k12 k13 k20 k21 k22 k23 (bMeet_0 (bBox_0 w h t) (bBox_1 w h t) (bBox_2 w h t) (bBox_3 w h t) c0 c1 c2 c3) (bMeet_1 (bBox_0 w h t) (bBox_1 w h t) (bBox_2 w h t) (bBox_3 w h t) c0 c1 c2 c3) (bMeet_2 (bBox_0 w h t) (bBox_1 w h t) (bBox_2 w h t) (bBox_3 w h t) c0 c1 c2 c3) (bMeet_3 (bBox_0 w h t) (bBox_1 w h t) (bBox_2 w h t) (bBox_3 w h t) c0 c1 c2 c3)) (r.getD 0 0)).length).sum ≤ 4096 * (Tl.take k).length := by
    intro k
    generalize Tl.take k = l
    induction l with
    | nil => simp
    | cons r l ih =>
      rw [List.map_cons, List.sum_cons, List.length_cons]
      have := g1 r
      omega
  have hlast : Tl.take Tl.length = Tl := List.take_length
  refine (fun (p : (∃ v', lrun lRasTi_l1021_st 18446744073709551616 (.mk false 0 (Int.ofNat (List.length Tl)) 0 pa pb pc pd pe pf z0 z1 z2 n0 n1 n2 k00 k01 k02 k03 k10 k11 k12 k13 k20 k21 k22 k23 w h c0 c1 c2 c3 G Tl : lRasTi_l1021_T) = some (.e 0, v') ∧ v' = (.mk false (Int.ofNat ((Tl.take Tl.length).map fun r => ((fun t => lc pa pb pc pd pe pf z0 z1 z2 n0 n1 n2 k00 k01 k02 k03 k10 k11 k12 k13 k20 k21 k22 k23 (bMeet_0 (bBox_0 w h t) (bBox_1 w h t) (bBox_2 w h t) (bBox_3 w h t) c0 c1 c2 c3) (bMeet_1 (bBox_0 w h t) (bBox_1 w h t) (bBox_2 w h t) (bBox_3 w h t) c0 c1 c2 c3) (bMeet_2 (bBox_0 w h t) (bBox_1 w h t) (bBox_2 w h t) (bBox_3 w h t) c0 c1 c2 c3) (bMeet_3 (bBox_0 w h t) (bBox_1 w h t) (bBox_2 w h t) (bBox_3 w h t) c0 c1 c2 c3)) (r.getD 0 0)).length).sum) (Int.ofNat (List.length Tl)) (Int.ofNat Tl.length) pa pb pc pd pe pf z0 z1 z2 n0 n1 n2 k00 k01 k02 k03 k10 k11 k12 k13 k20 k21 k22 k23 w h c0 c1 c2 c3 G Tl : lRasTi_l1021_T)) ∧ _) => by rw [hlast] at p; exact p) (inv_run (I := fun k v => v = (.mk false (Int.ofNat ((Tl.take k).map fun r => ((fun t => lc pa pb pc pd pe pf z0 z1 z2 n0 n1 n2 k00 k01 k02 k03 k10 k11 k12 k13 k20 k21 k22 k23 (bMeet_0 (bBox_0 w h t) (bBox_1 w h t) (bBox_2 w h t) (bBox_3 w h t) c0 c1 c2 c3) (bMeet_1 (bBox_0 w h t) (bBox_1 w h t) (bBox_2 w h t) (bBox_3 w h t) c0 c1 c2 c3) (bMeet_2 (bBox_0 w h t) (bBox_1 w h t) (bBox_2 w h t) (bBox_3 w h t) c0 c1 c2 c3) (bMeet_3 (bBox_0 w h t) (bBox_1 w h t) (bBox_2 w h t) (bBox_3 w h t) c0 c1 c2 c3)) (r.getD 0 0)).length).sum) (Int.ofNat (List.length Tl)) (Int.ofNat k) pa pb pc pd pe pf z0 z1 z2 n0 n1 n2 k00 k01 k02 k03 k10 k11 k12 k13 k20 k21 k22 k23 w h c0 c1 c2 c3 G Tl : lRasTi_l1021_T)) (x := .e 0) (n := Tl.length) nofun ?_ ?_ ?_ Tl.length 0 _ (by omega) ?_ _ (by omega))
  · rintro k v hk rfl
    have ek : Int.ofNat k = (k : Int) := rfl
    have s0 : ∀ a, lRasTi_l1021_s0 (.mk false a (Int.ofNat (List.length Tl)) (Int.ofNat k) pa pb pc pd pe pf z0 z1 z2 n0 n1 n2 k00 k01 k02 k03 k10 k11 k12 k13 k20 k21 k22 k23 w h c0 c1 c2 c3 G Tl : lRasTi_l1021_T) = true := fun a => decide_eq_true (by show Int.ofNat k < Int.ofNat Tl.length; exact Int.ofNat_lt.2 hk)
    obtain ⟨r, hr, hg⟩ : ∃ r, Tl[k]? = some r ∧ ∀ j, rget Tl k j = r.getD j 0 := by
      refine ⟨Tl[k], List.getElem?_eq_getElem hk, fun j => ?_⟩
      unfold rget
      rw [show Tl.getD k [] = Tl[k] from by rw [List.getD_eq_getElem?_getD, List.getElem?_eq_getElem hk]; rfl]
    have hstep : ((Tl.take (k + 1)).map fun r => ((fun t => lc pa pb pc pd pe pf z0 z1 z2 n0 n1 n2 k00 k01 k02 k03 k10 k11 k12 k13 k20 k21 k22 k23 (bMeet_0 (bBox_0 w h t) (bBox_1 w h t) (bBox_2 w h t) (bBox_3 w h t) c0 c1 c2 c3) (bMeet_1 (bBox_0 w h t) (bBox_1 w h t) (bBox_2 w h t) (bBox_3 w h t) c0 c1 c2 c3) (bMeet_2 (bBox_0 w h t) (bBox_1 w h t) (bBox_2 w h t) (bBox_3 w h t) c0 c1 c2 c3) (bMeet_3 (bBox_0 w h t) (bBox_1 w h t) (bBox_2 w h t) (bBox_3 w h t) c0 c1 c2 c3)) (r.getD 0 0)).length).sum = ((Tl.take k).map fun r => ((fun t => lc pa pb pc pd pe pf z0 z1 z2 n0 n1 n2 k00 k01 k02 k03 k10 k11 k12 k13 k20 k21 k22 k23 (bMeet_0 (bBox_0 w h t) (bBox_1 w h t) (bBox_2 w h t) (bBox_3 w h t) c0 c1 c2 c3) (bMeet_1 (bBox_0 w h t) (bBox_1 w h t) (bBox_2 w h t) (bBox_3 w h t) c0 c1 c2 c3) (bMeet_2 (bBox_0 w h t) (bBox_1 w h t) (bBox_2 w h t) (bBox_3 w h t) c0 c1 c2 c3) (bMeet_3 (bBox_0 w h t) (bBox_1 w h t) (bBox_2 w h t) (bBox_3 w h t) c0 c1 c2 c3)) (r.getD 0 0)).length).sum + ((fun t => lc pa pb pc pd pe pf z0 z1 z2 n0 n1 n2 k00 k01 k02 k03 k10 k11 k12 k13 k20 k21 k22 k23 (bMeet_0 (bBox_0 w h t) (bBox_1 w h t) (bBox_2 w h t) (bBox_3 w h t) c0 c1 c2 c3) (bMeet_1 (bBox_0 w h t) (bBox_1 w h t) (bBox_2 w h t) (bBox_3 w h t) c0 c1 c2 c3) (bMeet_2 (bBox_0 w h t) (bBox_1 w h t) (bBox_2 w h t) (bBox_3 w h t) c0 c1 c2 c3) (bMeet_3 (bBox_0 w h t) (bBox_1 w h t) (bBox_2 w h t) (bBox_3 w h t) c0 c1 c2 c3)) (r.getD 0 0)).length := by
      rw [List.take_add_one, hr]
      simp
    have b1 := bd (k + 1)
    have b2 : (Tl.take (k + 1)).length ≤ 64 := by rw [List.length_take]; omega
    unfold lRasTi_l1021_st
    rw [s0]
    refine ⟨_, rfl, ?_⟩
    have e1 : IntKind.wrap .i64 (Int.ofNat k + 1) = Int.ofNat (k + 1) := by rw [w64_in (by omega) (by omega)]; rfl
    have e2 : IntKind.wrap .i64 (Int.ofNat ((Tl.take k).map fun r => ((fun t => lc pa pb pc pd pe pf z0 z1 z2 n0 n1 n2 k00 k01 k02 k03 k10 k11 k12 k13 k20 k21 k22 k23 (bMeet_0 (bBox_0 w h t) (bBox_1 w h t) (bBox_2 w h t) (bBox_3 w h t) c0 c1 c2 c3) (bMeet_1 (bBox_0 w h t) (bBox_1 w h t) (bBox_2 w h t) (bBox_3 w h t) c0 c1 c2 c3) (bMeet_2 (bBox_0 w h t) (bBox_1 w h t) (bBox_2 w h t) (bBox_3 w h t) c0 c1 c2 c3) (bMeet_3 (bBox_0 w h t) (bBox_1 w h t) (bBox_2 w h t) (bBox_3 w h t) c0 c1 c2 c3)) (r.getD 0 0)).length).sum + Int.ofNat ((fun t => lc pa pb pc pd pe pf z0 z1 z2 n0 n1 n2 k00 k01 k02 k03 k10 k11 k12 k13 k20 k21 k22 k23 (bMeet_0 (bBox_0 w h t) (bBox_1 w h t) (bBox_2 w h t) (bBox_3 w h t) c0 c1 c2 c3) (bMeet_1 (bBox_0 w h t) (bBox_1 w h t) (bBox_2 w h t) (bBox_3 w h t) c0 c1 c2 c3) (bMeet_2 (bBox_0 w h t) (bBox_1 w h t) (bBox_2 w h t) (bBox_3 w h t) c0 c1 c2 c3) (bMeet_3 (bBox_0 w h t) (bBox_1 w h t) (bBox_2 w h t) (bBox_3 w h t) c0 c1 c2 c3)) (rget Tl k 0)).length) = Int.ofNat ((Tl.take (k + 1)).map fun r => ((fun t => lc pa pb pc pd pe pf z0 z1 z2 n0 n1 n2 k00 k01 k02 k03 k10 k11 k12 k13 k20 k21 k22 k23 (bMeet_0 (bBox_0 w h t) (bBox_1 w h t) (bBox_2 w h t) (bBox_3 w h t) c0 c1 c2 c3) (bMeet_1 (bBox_0 w h t) (bBox_1 w h t) (bBox_2 w h t) (bBox_3 w h t) c0 c1 c2 c3) (bMeet_2 (bBox_0 w h t) (bBox_1 w h t) (bBox_2 w h t) (bBox_3 w h t) c0 c1 c2 c3) (bMeet_3 (bBox_0 w h t) (bBox_1 w h t) (bBox_2 w h t) (bBox_3 w h t) c0 c1 c2 c3)) (r.getD 0 0)).length).sum := by
      rw [hstep, hg 0]
      rw [hstep] at b1
      generalize ((Tl.take k).map fun r => ((fun t => lc pa pb pc pd pe pf z0 z1 z2 n0 n1 n2 k00 k01 k02 k03 k10 k11 k12 k13 k20 k21 k22 k23 (bMeet_0 (bBox_0 w h t) (bBox_1 w h t) (bBox_2 w h t) (bBox_3 w h t) c0 c1 c2 c3) (bMeet_1 (bBox_0 w h t) (bBox_1 w h t) (bBox_2 w h t) (bBox_3 w h t) c0 c1 c2 c3) (bMeet_2 (bBox_0 w h t) (bBox_1 w h t) (bBox_2 w h t) (bBox_3 w h t) c0 c1 c2 c3) (bMeet_3 (bBox_0 w h t) (bBox_1 w h t) (bBox_2 w h t) (bBox_3 w h t) c0 c1 c2 c3)) (r.getD 0 0)).length).sum = u at *
      generalize ((fun t => lc pa pb pc pd pe pf z0 z1 z2 n0 n1 n2 k00 k01 k02 k03 k10 k11 k12 k13 k20 k21 k22 k23 (bMeet_0 (bBox_0 w h t) (bBox_1 w h t) (bBox_2 w h t) (bBox_3 w h t) c0 c1 c2 c3) (bMeet_1 (bBox_0 w h t) (bBox_1 w h t) (bBox_2 w h t) (bBox_3 w h t) c0 c1 c2 c3) (bMeet_2 (bBox_0 w h t) (bBox_1 w h t) (bBox_2 w h t) (bBox_3 w h t) c0 c1 c2 c3) (bMeet_3 (bBox_0 w h t) (bBox_1 w h t) (bBox_2 w h t) (bBox_3 w h t) c0 c1 c2 c3)) (r.getD 0 0)).length = v at *
      have eu : Int.ofNat u = (u : Int) := rfl
      have ev : Int.ofNat v = (v : Int) := rfl
      rw [w64_in (by omega) (by omega)]
      rfl
    show (.mk false (IntKind.wrap .i64 (Int.ofNat ((Tl.take k).map fun r => ((fun t => lc pa pb pc pd pe pf z0 z1 z2 n0 n1 n2 k00 k01 k02 k03 k10 k11 k12 k13 k20 k21 k22 k23 (bMeet_0 (bBox_0 w h t) (bBox_1 w h t) (bBox_2 w h t) (bBox_3 w h t) c0 c1 c2 c3) (bMeet_1 (bBox_0 w h t) (bBox_1 w h t) (bBox_2 w h t) (bBox_3 w h t) c0 c1 c2 c3) (bMeet_2 (bBox_0 w h t) (bBox_1 w h t) (bBox_2 w h t) (bBox_3 w h t) c0 c1 c2 c3) (bMeet_3 (bBox_0 w h t) (bBox_1 w h t) (bBox_2 w h t) (bBox_3 w h t) c0 c1 c2 c3)) (r.getD 0 0)).length).sum + Int.ofNat ((fun t => lc pa pb pc pd pe pf z0 z1 z2 n0 n1 n2 k00 k01 k02 k03 k10 k11 k12 k13 k20 k21 k22 k23 (bMeet_0 (bBox_0 w h t) (bBox_1 w h t) (bBox_2 w h t) (bBox_3 w h t) c0 c1 c2 c3) (bMeet_1 (bBox_0 w h t) (bBox_1 w h t) (bBox_2 w h t) (bBox_3 w h t) c0 c1 c2 c3) (bMeet_2 (bBox_0 w h t) (bBox_1 w h t) (bBox_2 w h t) (bBox_3 w h t) c0 c1 c2 c3) (bMeet_3 (bBox_0 w h t) (bBox_1 w h t) (bBox_2 w h t) (bBox_3 w h t) c0 c1 c2 c3)) (rget Tl k 0)).length)) (Int.ofNat (List.length Tl)) (IntKind.wrap .i64 (Int.ofNat k + 1)) pa pb pc pd pe pf z0 z1 z2 n0 n1 n2 k00 k01 k02 k03 k10 k11 k12 k13 k20 k21 k22 k23 w h c0 c1 c2 c3 G Tl : lRasTi_l1021_T) = _
    rw [e1, e2]
  · rintro v rfl
    have s0 : ∀ a, lRasTi_l1021_s0 (.mk false a (Int.ofNat (List.length Tl)) (Int.ofNat Tl.length) pa pb pc pd pe pf z0 z1 z2 n0 n1 n2 k00 k01 k02 k03 k10 k11 k12 k13 k20 k21 k22 k23 w h c0 c1 c2 c3 G Tl : lRasTi_l1021_T) = false := fun a => decide_eq_false (by show ¬ Int.ofNat Tl.length < Int.ofNat Tl.length; omega)
    unfold lRasTi_l1021_st
    rw [s0]
    rfl
  · rintro k v hk rfl
    refine ⟨fun h => ?_, fun _ _ => hW, fun _ _ => hW, trivial⟩
    have h' : decide (Int.ofNat k < Int.ofNat Tl.length) = true := h
    exact ⟨Int.natCast_nonneg k, of_decide_eq_true h'⟩
  · rfl
end
theorem u8_41 {x : Int} (a : IntKind.min .u8 ≤ x) (b : x ≤ IntKind.max .u8) : 1 ≤ lRasTi_s0 x ∧ lRasTi_s0 x ≤ 40 := by
  obtain ⟨l, g⟩ := bd_u8 a b
  unfold lRasTi_s0
  rw [Int.tmod_eq_emod_of_nonneg (by omega), w64_in (n := x % 40) (by omega) (by omega), w64_in (by omega) (by omega)]
  omega
end Ra

theorem RasterTiles_true (x0_0 : Int) (a0_0 : IntKind.min .i8 ≤ x0_0) (b0_0 : x0_0 ≤ IntKind.max .i8) (x0_1 : Int) (a0_1 : IntKind.min .i8 ≤ x0_1) (b0_1 : x0_1 ≤ IntKind.max .i8) (x0_2 : Int) (a0_2 : IntKind.min .i8 ≤ x0_2) (b0_2 : x0_2 ≤ IntKind.max .i8) (x0_3 : Int) (a0_3 : IntKind.min .i8 ≤ x0_3) (b0_3 : x0_3 ≤ IntKind.max .i8) (x0_4 : Int) (a0_4 : IntKind.min .i8 ≤ x0_4) (b0_4 : x0_4 ≤ IntKind.max .i8) (x0_5 : Int) (a0_5 : IntKind.min .i8 ≤ x0_5) (b0_5 : x0_5 ≤ IntKind.max .i8) (x0_6 : Int) (a0_6 : IntKind.min .u16 ≤ x0_6) (b0_6 : x0_6 ≤ IntKind.max .u16) (x0_7 : Int) (a0_7 : IntKind.min .u16 ≤ x0_7) (b0_7 : x0_7 ≤ IntKind.max .u16) (x0_8 : Int) (a0_8 : IntKind.min .u16 ≤ x0_8) (b0_8 : x0_8 ≤ IntKind.max .u16) (x0_9 : Int) (a0_9 : IntKind.min .u16 ≤ x0_9) (b0_9 : x0_9 ≤ IntKind.max .u16) (x0_10 : Int) (a0_10 : IntKind.min .u16 ≤ x0_10) (b0_10 : x0_10 ≤ IntKind.max .u16) (x0_11 : Int) (a0_11 : IntKind.min .u16 ≤ x0_11) (b0_11 : x0_11 ≤ IntKind.max .u16) (x0_12 : Int) (a0_12 : IntKind.min .u16 ≤ x0_12) (b0_12 : x0_12 ≤ IntKind.max .u16) (x0_13 : Int) (a0_13 : IntKind.min .u16 ≤ x0_13) (b0_13 : x0_13 ≤ IntKind.max .u16) (x0_14 : Int) (a0_14 : IntKind.min .u16 ≤ x0_14) (b0_14 : x0_14 ≤ IntKind.max .u16) (x0_15 : Int) (a0_15 : IntKind.min .u16 ≤ x0_15) (b0_15 : x0_15 ≤ IntKind.max .u16) (x0_16 : Int) (a0_16 : IntKind.min .u16 ≤ x0_16) (b0_16 : x0_16 ≤ IntKind.max .u16) (x0_17 : Int) (a0_17 : IntKind.min .u16 ≤ x0_17) (b0_17 : x0_17 ≤ IntKind.max .u16) (x0_18 : Int) (a0_18 : IntKind.min .u16 ≤ x0_18) (b0_18 : x0_18 ≤ IntKind.max .u16) (x0_19 : Int) (a0_19 : IntKind.min .u16 ≤ x0_19) (b0_19 : x0_19 ≤ IntKind.max .u16) (x0_20 : Int) (a0_20 : IntKind.min .u16 ≤ x0_20) (b0_20 : x0_20 ≤ IntKind.max .u16) (x0_21 : Int) (a0_21 : IntKind.min .u16 ≤ x0_21) (b0_21 : x0_21 ≤ IntKind.max .u16) (x0_22 : Int) (a0_22 : IntKind.min .u16 ≤ x0_22) (b0_22 : x0_22 ≤ IntKind.max .u16) (x0_23 : Int) (a0_23 : IntKind.min .u16 ≤ x0_23) (b0_23 : x0_23 ≤ IntKind.max .u16) (x0_24 : Int) (a0_24 : IntKind.min .u8 ≤ x0_24) (b0_24 : x0_24 ≤ IntKind.max .u8) (x1 : Int) (a1 : IntKind.min .u8 ≤ x1) (b1 : x1 ≤ IntKind.max .u8) (x2 : Int) (a2 : IntKind.min .u8 ≤ x2) (b2 : x2 ≤ IntKind.max .u8) (x3_0 : Int) (a3_0 : IntKind.min .u8 ≤ x3_0) (b3_0 : x3_0 ≤ IntKind.max .u8) (x3_1 : Int) (a3_1 : IntKind.min .u8 ≤ x3_1) (b3_1 : x3_1 ≤ IntKind.max .u8) (x3_2 : Int) (a3_2 : IntKind.min .u8 ≤ x3_2) (b3_2 : x3_2 ≤ IntKind.max .u8) (x3_3 : Int) (a3_3 : IntKind.min .u8 ≤ x3_3) (b3_3 : x3_3 ≤ IntKind.max .u8) (hq : sm13Tri_9 x0_0 x0_1 x0_2 x0_3 x0_4 x0_5 x0_24 = true) : lRasTi_0 x0_0 x0_1 x0_2 x0_3 x0_4 x0_5 x0_6 x0_7 x0_8 x0_9 x0_10 x0_11 x0_12 x0_13 x0_14 x0_15 x0_16 x0_17 x0_18 x0_19 x0_20 x0_21 x0_22 x0_23 x0_24 x1 x2 x3_0 x3_1 x3_2 x3_3 = true := by
  obtain ⟨l0_0, g0_0⟩ := bd_i8 a0_0 b0_0
  have w0_0 : IntKind.wrap .i64 x0_0 = x0_0 := w64_in (by omega) (by omega)
  obtain ⟨l0_1, g0_1⟩ := bd_i8 a0_1 b0_1
  have w0_1 : IntKind.wrap .i64 x0_1 = x0_1 := w64_in (by omega) (by omega)
  obtain ⟨l0_2, g0_2⟩ := bd_i8 a0_2 b0_2
  have w0_2 : IntKind.wrap .i64 x0_2 = x0_2 := w64_in (by omega) (by omega)
  obtain ⟨l0_3, g0_3⟩ := bd_i8 a0_3 b0_3
  have w0_3 : IntKind.wrap .i64 x0_3 = x0_3 := w64_in (by omega) (by omega)
  obtain ⟨l0_4, g0_4⟩ := bd_i8 a0_4 b0_4
  have w0_4 : IntKind.wrap .i64 x0_4 = x0_4 := w64_in (by omega) (by omega)
  obtain ⟨l0_5, g0_5⟩ := bd_i8 a0_5 b0_5
  have w0_5 : IntKind.wrap .i64 x0_5 = x0_5 := w64_in (by omega) (by omega)
  obtain ⟨l0_6, g0_6⟩ := bd_u16 a0_6 b0_6
  have w0_6 : IntKind.wrap .i64 x0_6 = x0_6 := w64_in (by omega) (by omega)
  obtain ⟨l0_7, g0_7⟩ := bd_u16 a0_7 b0_7
  have w0_7 : IntKind.wrap .i64 x0_7 = x0_7 := w64_in (by omega) (by omega)
  obtain ⟨l0_8, g0_8⟩ := bd_u16 a0_8 b0_8
  have w0_8 : IntKind.wrap .i64 x0_8 = x0_8 := w64_in (by omega) (by omega)
  obtain ⟨l0_9, g0_9⟩ := bd_u16 a0_9 b0_9
  have w0_9 : IntKind.wrap .i64 x0_9 = x0_9 := w64_in (by omega) (by omega)
  obtain ⟨l0_10, g0_10⟩ := bd_u16 a0_10 b0_10
  have w0_10 : IntKind.wrap .i64 x0_10 = x0_10 := w64_in (by omega) (by omega)
  obtain ⟨l0_11, g0_11⟩ := bd_u16 a0_11 b0_11
  have w0_11 : IntKind.wrap .i64 x0_11 = x0_11 := w64_in (by omega) (by omega)
  obtain ⟨l0_12, g0_12⟩ := bd_u16 a0_12 b0_12
  have w0_12 : IntKind.wrap .i64 x0_12 = x0_12 := w64_in (by omega) (by omega)
  obtain ⟨l0_13, g0_13⟩ := bd_u16 a0_13 b0_13
  have w0_13 : IntKind.wrap .i64 x0_13 = x0_13 := w64_in (by omega) (by omega)
  obtain ⟨l0_14, g0_14⟩ := bd_u16 a0_14 b0_14
  have w0_14 : IntKind.wrap .i64 x0_14 = x0_14 := w64_in (by omega) (by omega)
  obtain ⟨l0_15, g0_15⟩ := bd_u16 a0_15 b0_15
  have w0_15 : IntKind.wrap .i64 x0_15 = x0_15 := w64_in (by omega) (by omega)
  obtain ⟨l0_16, g0_16⟩ := bd_u16 a0_16 b0_16
  have w0_16 : IntKind.wrap .i64 x0_16 = x0_16 := w64_in (by omega) (by omega)
  obtain ⟨l0_17, g0_17⟩ := bd_u16 a0_17 b0_17
  have w0_17 : IntKind.wrap .i64 x0_17 = x0_17 := w64_in (by omega) (by omega)
  obtain ⟨l0_18, g0_18⟩ := bd_u16 a0_18 b0_18
  have w0_18 : IntKind.wrap .i64 x0_18 = x0_18 := w64_in (by omega) (by omega)
  obtain ⟨l0_19, g0_19⟩ := bd_u16 a0_19 b0_19
  have w0_19 : IntKind.wrap .i64 x0_19 = x0_19 := w64_in (by omega) (by omega)
  obtain ⟨l0_20, g0_20⟩ := bd_u16 a0_20 b0_20
  have w0_20 : IntKind.wrap .i64 x0_20 = x0_20 := w64_in (by omega) (by omega)
  obtain ⟨l0_21, g0_21⟩ := bd_u16 a0_21 b0_21
  have w0_21 : IntKind.wrap .i64 x0_21 = x0_21 := w64_in (by omega) (by omega)
  obtain ⟨l0_22, g0_22⟩ := bd_u16 a0_22 b0_22
  have w0_22 : IntKind.wrap .i64 x0_22 = x0_22 := w64_in (by omega) (by omega)
  obtain ⟨l0_23, g0_23⟩ := bd_u16 a0_23 b0_23
  have w0_23 : IntKind.wrap .i64 x0_23 = x0_23 := w64_in (by omega) (by omega)
  obtain ⟨l0_24, g0_24⟩ := bd_u8 a0_24 b0_24
  have w0_24 : IntKind.wrap .i64 x0_24 = x0_24 := w64_in (by omega) (by omega)
  have T := sm_TB ⟨l0_0, g0_0⟩ ⟨l0_1, g0_1⟩ ⟨l0_2, g0_2⟩ ⟨l0_3, g0_3⟩ ⟨l0_4, g0_4⟩ ⟨l0_5, g0_5⟩ l0_24 g0_24 ⟨l0_9, g0_9⟩ ⟨l0_10, g0_10⟩ ⟨l0_11, g0_11⟩ (c16 l0_6 g0_6 w0_6) (c16 l0_7 g0_7 w0_7) (c16 l0_8 g0_8 w0_8) (b16 l0_12 g0_12 w0_12) (b16 l0_13 g0_13 w0_13) (b16 l0_14 g0_14 w0_14) (b16 l0_15 g0_15 w0_15) (b16 l0_16 g0_16 w0_16) (b16 l0_17 g0_17 w0_17) (b16 l0_18 g0_18 w0_18) (b16 l0_19 g0_19 w0_19) (b16 l0_20 g0_20 w0_20) (b16 l0_21 g0_21 w0_21) (b16 l0_22 g0_22 w0_22) (b16 l0_23 g0_23 w0_23)
  have hw := Ra.u8_41 a1 b1
  have hh : 1 ≤ lRasTi_s1 x2 ∧ lRasTi_s1 x2 ≤ 40 := Ra.u8_41 a2 b2
  have key := Ra.tiles_len T hw.1 hw.2 hh.1 hh.2 (l18box_0 x3_0) (l18box_1 x3_1) (l18box_2 x3_2) (l18box_3 x3_3)
  rw [Ra.tD_len] at key
  unfold lRasTi_0
  rw [Ra.aw]
  unfold lRasTi_s2 bOf_0
  obtain ⟨⟨v', r1, rfl⟩, -⟩ := Ra.of_run hw.1 hw.2 hh.1 hh.2 (sm13Tri_0 x0_0 x0_1 x0_2 x0_3 x0_4 x0_5 x0_24) (sm13Tri_1 x0_0 x0_1 x0_2 x0_3 x0_4 x0_5 x0_24) (sm13Tri_2 x0_0 x0_1 x0_2 x0_3 x0_4 x0_5 x0_24) (sm13Tri_3 x0_0 x0_1 x0_2 x0_3 x0_4 x0_5 x0_24) (sm13Tri_4 x0_0 x0_1 x0_2 x0_3 x0_4 x0_5 x0_24) (sm13Tri_5 x0_0 x0_1 x0_2 x0_3 x0_4 x0_5 x0_24) (bMeet_0 (bPix_0 (sm13Tri_0 x0_0 x0_1 x0_2 x0_3 x0_4 x0_5 x0_24) (sm13Tri_2 x0_0 x0_1 x0_2 x0_3 x0_4 x0_5 x0_24) (sm13Tri_4 x0_0 x0_1 x0_2 x0_3 x0_4 x0_5 x0_24)) (bPix_1 (sm13Tri_1 x0_0 x0_1 x0_2 x0_3 x0_4 x0_5 x0_24) (sm13Tri_3 x0_0 x0_1 x0_2 x0_3 x0_4 x0_5 x0_24) (sm13Tri_5 x0_0 x0_1 x0_2 x0_3 x0_4 x0_5 x0_24)) (bPix_2 (sm13Tri_0 x0_0 x0_1 x0_2 x0_3 x0_4 x0_5 x0_24) (sm13Tri_2 x0_0 x0_1 x0_2 x0_3 x0_4 x0_5 x0_24) (sm13Tri_4 x0_0 x0_1 x0_2 x0_3 x0_4 x0_5 x0_24)) (bPix_3 (sm13Tri_1 x0_0 x0_1 x0_2 x0_3 x0_4 x0_5 x0_24) (sm13Tri_3 x0_0 x0_1 x0_2 x0_3 x0_4 x0_5 x0_24) (sm13Tri_5 x0_0 x0_1 x0_2 x0_3 x0_4 x0_5 x0_24)) (l18box_0 x3_0) (l18box_1 x3_1) (l18box_2 x3_2) (l18box_3 x3_3)) (bMeet_1 (bPix_0 (sm13Tri_0 x0_0 x0_1 x0_2 x0_3 x0_4 x0_5 x0_24) (sm13Tri_2 x0_0 x0_1 x0_2 x0_3 x0_4 x0_5 x0_24) (sm13Tri_4 x0_0 x0_1 x0_2 x0_3 x0_4 x0_5 x0_24)) (bPix_1 (sm13Tri_1 x0_0 x0_1 x0_2 x0_3 x0_4 x0_5 x0_24) (sm13Tri_3 x0_0 x0_1 x0_2 x0_3 x0_4 x0_5 x0_24) (sm13Tri_5 x0_0 x0_1 x0_2 x0_3 x0_4 x0_5 x0_24)) (bPix_2 (sm13Tri_0 x0_0 x0_1 x0_2 x0_3 x0_4 x0_5 x0_24) (sm13Tri_2 x0_0 x0_1 x0_2 x0_3 x0_4 x0_5 x0_24) (sm13Tri_4 x0_0 x0_1 x0_2 x0_3 x0_4 x0_5 x0_24)) (bPix_3 (sm13Tri_1 x0_0 x0_1 x0_2 x0_3 x0_4 x0_5 x0_24) (sm13Tri_3 x0_0 x0_1 x0_2 x0_3 x0_4 x0_5 x0_24) (sm13Tri_5 x0_0 x0_1 x0_2 x0_3 x0_4 x0_5 x0_24)) (l18box_0 x3_0) (l18box_1 x3_1) (l18box_2 x3_2) (l18box_3 x3_3)) (bMeet_2 (bPix_0 (sm13Tri_0 x0_0 x0_1 x0_2 x0_3 x0_4 x0_5 x0_24) (sm13Tri_2 x0_0 x0_1 x0_2 x0_3 x0_4 x0_5 x0_24) (sm13Tri_4 x0_0 x0_1 x0_2 x0_3 x0_4 x0_5 x0_24)) (bPix_1 (sm13Tri_1 x0_0 x0_1 x0_2 x0_3 x0_4 x0_5 x0_24) (sm13Tri_3 x0_0 x0_1 x0_2 x0_3 x0_4 x0_5 x0_24) (sm13Tri_5 x0_0 x0_1 x0_2 x0_3 x0_4 x0_5 x0_24)) (bPix_2 (sm13Tri_0 x0_0 x0_1 x0_2 x0_3 x0_4 x0_5 x0_24) (sm13Tri_2 x0_0 x0_1 x0_2 x0_3 x0_4 x0_5 x0_24) (sm13Tri_4 x0_0 x0_1 x0_2 x0_3 x0_4 x0_5 x0_24)) (bPix_3 (sm13Tri_1 x0_0 x0_1 x0_2 x0_3 x0_4 x0_5 x0_24) (sm13Tri_3 x0_0 x0_1 x0_2 x0_3 x0_4 x0_5 x0_24) (sm13Tri_5 x0_0 x0_1 x0_2 x0_3 x0_4 x0_5 x0_24)) (l18box_0 x3_0) (l18box_1 x3_1) (l18box_2 x3_2) (l18box_3 x3_3)) (bMeet_3 (bPix_0 (sm13Tri_0 x0_0 x0_1 x0_2 x0_3 x0_4 x0_5 x0_24) (sm13Tri_2 x0_0 x0_1 x0_2 x0_3 x0_4 x0_5 x0_24) (sm13Tri_4 x0_0 x0_1 x0_2 x0_3 x0_4 x0_5 x0_24)) (bPix_1 (sm13Tri_1 x0_0 x0_1 x0_2 x0_3 x0_4 x0_5 x0_24) (sm13Tri_3 x0_0 x0_1 x0_2 x0_3 x0_4 x0_5 x0_24) (sm13Tri_5 x0_0 x0_1 x0_2 x0_3 x0_4 x0_5 x0_24)) (bPix_2 (sm13Tri_0 x0_0 x0_1 x0_2 x0_3 x0_4 x0_5 x0_24) (sm13Tri_2 x0_0 x0_1 x0_2 x0_3 x0_4 x0_5 x0_24) (sm13Tri_4 x0_0 x0_1 x0_2 x0_3 x0_4 x0_5 x0_24)) (bPix_3 (sm13Tri_1 x0_0 x0_1 x0_2 x0_3 x0_4 x0_5 x0_24) (sm13Tri_3 x0_0 x0_1 x0_2 x0_3 x0_4 x0_5 x0_24) (sm13Tri_5 x0_0 x0_1 x0_2 x0_3 x0_4 x0_5 x0_24)) (l18box_0 x3_0) (l18box_1 x3_1) (l18box_2 x3_2) (l18box_3 x3_3))
  rw [r1]
  obtain ⟨⟨v', r2, rfl⟩, -⟩ := Ra.sum_run hw.1 hw.2 hh.1 hh.2 (sm13Tri_0 x0_0 x0_1 x0_2 x0_3 x0_4 x0_5 x0_24) (sm13Tri_1 x0_0 x0_1 x0_2 x0_3 x0_4 x0_5 x0_24) (sm13Tri_2 x0_0 x0_1 x0_2 x0_3 x0_4 x0_5 x0_24) (sm13Tri_3 x0_0 x0_1 x0_2 x0_3 x0_4 x0_5 x0_24) (sm13Tri_4 x0_0 x0_1 x0_2 x0_3 x0_4 x0_5 x0_24) (sm13Tri_5 x0_0 x0_1 x0_2 x0_3 x0_4 x0_5 x0_24) (IntKind.wrap .i64 x0_6) (IntKind.wrap .i64 x0_7) (IntKind.wrap .i64 x0_8) (sm13Tri_6 x0_9) (sm13Tri_7 x0_10) (sm13Tri_8 x0_11) (IntKind.wrap .i64 x0_12) (IntKind.wrap .i64 x0_13) (IntKind.wrap .i64 x0_14) (IntKind.wrap .i64 x0_15) (IntKind.wrap .i64 x0_16) (IntKind.wrap .i64 x0_17) (IntKind.wrap .i64 x0_18) (IntKind.wrap .i64 x0_19) (IntKind.wrap .i64 x0_20) (IntKind.wrap .i64 x0_21) (IntKind.wrap .i64 x0_22) (IntKind.wrap .i64 x0_23) (l18box_0 x3_0) (l18box_1 x3_1) (l18box_2 x3_2) (l18box_3 x3_3) (lRasTi_s3 x0_0 x0_1 x0_2 x0_3 x0_4 x0_5 x0_6 x0_7 x0_8 x0_9 x0_10 x0_11 x0_12 x0_13 x0_14 x0_15 x0_16 x0_17 x0_18 x0_19 x0_20 x0_21 x0_22 x0_23 x0_24 x1 x2 x3_0 x3_1 x3_2 x3_3) (Ra.told (fun t => bOf_l125_s5 (.mk 0 t (lRasTi_s0 x1) (lRasTi_s1 x2) (sm13Tri_0 x0_0 x0_1 x0_2 x0_3 x0_4 x0_5 x0_24) (sm13Tri_1 x0_0 x0_1 x0_2 x0_3 x0_4 x0_5 x0_24) (sm13Tri_2 x0_0 x0_1 x0_2 x0_3 x0_4 x0_5 x0_24) (sm13Tri_3 x0_0 x0_1 x0_2 x0_3 x0_4 x0_5 x0_24) (sm13Tri_4 x0_0 x0_1 x0_2 x0_3 x0_4 x0_5 x0_24) (sm13Tri_5 x0_0 x0_1 x0_2 x0_3 x0_4 x0_5 x0_24) (bMeet_0 (bPix_0 (sm13Tri_0 x0_0 x0_1 x0_2 x0_3 x0_4 x0_5 x0_24) (sm13Tri_2 x0_0 x0_1 x0_2 x0_3 x0_4 x0_5 x0_24) (sm13Tri_4 x0_0 x0_1 x0_2 x0_3 x0_4 x0_5 x0_24)) (bPix_1 (sm13Tri_1 x0_0 x0_1 x0_2 x0_3 x0_4 x0_5 x0_24) (sm13Tri_3 x0_0 x0_1 x0_2 x0_3 x0_4 x0_5 x0_24) (sm13Tri_5 x0_0 x0_1 x0_2 x0_3 x0_4 x0_5 x0_24)) (bPix_2 (sm13Tri_0 x0_0 x0_1 x0_2 x0_3 x0_4 x0_5 x0_24) (sm13Tri_2 x0_0 x0_1 x0_2 x0_3 x0_4 x0_5 x0_24) (sm13Tri_4 x0_0 x0_1 x0_2 x0_3 x0_4 x0_5 x0_24)) (bPix_3 (sm13Tri_1 x0_0 x0_1 x0_2 x0_3 x0_4 x0_5 x0_24) (sm13Tri_3 x0_0 x0_1 x0_2 x0_3 x0_4 x0_5 x0_24) (sm13Tri_5 x0_0 x0_1 x0_2 x0_3 x0_4 x0_5 x0_24)) (l18box_0 x3_0) (l18box_1 x3_1) (l18box_2 x3_2) (l18box_3 x3_3)) (bMeet_1 (bPix_0 (sm13Tri_0 x0_0 x0_1 x0_2 x0_3 x0_4 x0_5 x0_24) (sm13Tri_2 x0_0 x0_1 x0_2 x0_3 x0_4 x0_5 x0_24) (sm13Tri_4 x0_0 x0_1 x0_2 x0_3 x0_4 x0_5 x0_24)) (bPix_1 (sm13Tri_1 x0_0 x0_1 x0_2 x0_3 x0_4 x0_5 x0_24) (sm13Tri_3 x0_0 x0_1 x0_2 x0_3 x0_4 x0_5 x0_24) (sm13Tri_5 x0_0 x0_1 x0_2 x0_3 x0_4 x0_5 x0_24)) (bPix_2 (sm13Tri_0 x0_0 x0_1 x0_2 x0_3 x0_4 x0_5 x0_24) (sm13Tri_2 x0_0 x0_1 x0_2 x0_3 x0_4 x0_5 x0_24) (sm13Tri_4 x0_0 x0_1 x0_2 x0_3 x0_4 x0_5 x0_24)) (bPix_3 (sm13Tri_1 x0_0 x0_1 x0_2 x0_3 x0_4 x0_5 x0_24) (sm13Tri_3 x0_0 x0_1 x0_2 x0_3 x0_4 x0_5 x0_24) (sm13Tri_5 x0_0 x0_1 x0_2 x0_3 x0_4 x0_5 x0_24)) (l18box_0 x3_0) (l18box_1 x3_1) (l18box_2 x3_2) (l18box_3 x3_3)) (bMeet_2 (bPix_0 (sm13Tri_0 x0_0 x0_1 x0_2 x0_3 x0_4 x0_5 x0_24) (sm13Tri_2 x0_0 x0_1 x0_2 x0_3 x0_4 x0_5 x0_24) (sm13Tri_4 x0_0 x0_1 x0_2 x0_3 x0_4 x0_5 x0_24)) (bPix_1 (sm13Tri_1 x0_0 x0_1 x0_2 x0_3 x0_4 x0_5 x0_24) (sm13Tri_3 x0_0 x0_1 x0_2 x0_3 x0_4 x0_5 x0_24) (sm13Tri_5 x0_0 x0_1 x0_2 x0_3 x0_4 x0_5 x0_24)) (bPix_2 (sm13Tri_0 x0_0 x0_1 x0_2 x0_3 x0_4 x0_5 x0_24) (sm13Tri_2 x0_0 x0_1 x0_2 x0_3 x0_4 x0_5 x0_24) (sm13Tri_4 x0_0 x0_1 x0_2 x0_3 x0_4 x0_5 x0_24)) (bPix_3 (sm13Tri_1 x0_0 x0_1 x0_2 x0_3 x0_4 x0_5 x0_24) (sm13Tri_3 x0_0 x0_1 x0_2 x0_3 x0_4 x0_5 x0_24) (sm13Tri_5 x0_0 x0_1 x0_2 x0_3 x0_4 x0_5 x0_24)) (l18box_0 x3_0) (l18box_1 x3_1) (l18box_2 x3_2) (l18box_3 x3_3)) (bMeet_3 (bPix_0 (sm13Tri_0 x0_0 x0_1 x0_2 x0_3 x0_4 x0_5 x0_24) (sm13Tri_2 x0_0 x0_1 x0_2 x0_3 x0_4 x0_5 x0_24) (sm13Tri_4 x0_0 x0_1 x0_2 x0_3 x0_4 x0_5 x0_24)) (bPix_1 (sm13Tri_1 x0_0 x0_1 x0_2 x0_3 x0_4 x0_5 x0_24) (sm13Tri_3 x0_0 x0_1 x0_2 x0_3 x0_4 x0_5 x0_24) (sm13Tri_5 x0_0 x0_1 x0_2 x0_3 x0_4 x0_5 x0_24)) (bPix_2 (sm13Tri_0 x0_0 x0_1 x0_2 x0_3 x0_4 x0_5 x0_24) (sm13Tri_2 x0_0 x0_1 x0_2 x0_3 x0_4 x0_5 x0_24) (sm13Tri_4 x0_0 x0_1 x0_2 x0_3 x0_4 x0_5 x0_24)) (bPix_3 (sm13Tri_1 x0_0 x0_1 x0_2 x0_3 x0_4 x0_5 x0_24) (sm13Tri_3 x0_0 x0_1 x0_2 x0_3 x0_4 x0_5 x0_24) (sm13Tri_5 x0_0 x0_1 x0_2 x0_3 x0_4 x0_5 x0_24)) (l18box_0 x3_0) (l18box_1 x3_1) (l18box_2 x3_2) (l18box_3 x3_3)) [])) (Ra.tl (lRasTi_s0 x1) * Ra.tl (lRasTi_s1 x2)).toNat 0) (by
    have hT := Ra.mul_bd8 (Ra.tl_bd (w := lRasTi_s0 x1) (by omega) (by omega)) (Ra.tl_bd (w := lRasTi_s1 x2) (by omega) (by omega))
    refine Nat.le_trans (Ra.told_len _ _ _) (by omega))
  have r2' := congrArg (fun z => lRasTi_l1021_T.a1 (V.valOf z) == Int.ofNat (List.length (lRasTi_s3 x0_0 x0_1 x0_2 x0_3 x0_4 x0_5 x0_6 x0_7 x0_8 x0_9 x0_10 x0_11 x0_12 x0_13 x0_14 x0_15 x0_16 x0_17 x0_18 x0_19 x0_20 x0_21 x0_22 x0_23 x0_24 x1 x2 x3_0 x3_1 x3_2 x3_3))) r2
  refine Eq.trans r2' ?_
  show (Int.ofNat _ == Int.ofNat _) = true
  rw [beq_iff_eq]
  exact congrArg Int.ofNat key

theorem RasterTiles_obs (x0_0 : Int) (a0_0 : IntKind.min .i8 ≤ x0_0) (b0_0 : x0_0 ≤ IntKind.max .i8) (x0_1 : Int) (a0_1 : IntKind.min .i8 ≤ x0_1) (b0_1 : x0_1 ≤ IntKind.max .i8) (x0_2 : Int) (a0_2 : IntKind.min .i8 ≤ x0_2) (b0_2 : x0_2 ≤ IntKind.max .i8) (x0_3 : Int) (a0_3 : IntKind.min .i8 ≤ x0_3) (b0_3 : x0_3 ≤ IntKind.max .i8) (x0_4 : Int) (a0_4 : IntKind.min .i8 ≤ x0_4) (b0_4 : x0_4 ≤ IntKind.max .i8) (x0_5 : Int) (a0_5 : IntKind.min .i8 ≤ x0_5) (b0_5 : x0_5 ≤ IntKind.max .i8) (x0_6 : Int) (a0_6 : IntKind.min .u16 ≤ x0_6) (b0_6 : x0_6 ≤ IntKind.max .u16) (x0_7 : Int) (a0_7 : IntKind.min .u16 ≤ x0_7) (b0_7 : x0_7 ≤ IntKind.max .u16) (x0_8 : Int) (a0_8 : IntKind.min .u16 ≤ x0_8) (b0_8 : x0_8 ≤ IntKind.max .u16) (x0_9 : Int) (a0_9 : IntKind.min .u16 ≤ x0_9) (b0_9 : x0_9 ≤ IntKind.max .u16) (x0_10 : Int) (a0_10 : IntKind.min .u16 ≤ x0_10) (b0_10 : x0_10 ≤ IntKind.max .u16) (x0_11 : Int) (a0_11 : IntKind.min .u16 ≤ x0_11) (b0_11 : x0_11 ≤ IntKind.max .u16) (x0_12 : Int) (a0_12 : IntKind.min .u16 ≤ x0_12) (b0_12 : x0_12 ≤ IntKind.max .u16) (x0_13 : Int) (a0_13 : IntKind.min .u16 ≤ x0_13) (b0_13 : x0_13 ≤ IntKind.max .u16) (x0_14 : Int) (a0_14 : IntKind.min .u16 ≤ x0_14) (b0_14 : x0_14 ≤ IntKind.max .u16) (x0_15 : Int) (a0_15 : IntKind.min .u16 ≤ x0_15) (b0_15 : x0_15 ≤ IntKind.max .u16) (x0_16 : Int) (a0_16 : IntKind.min .u16 ≤ x0_16) (b0_16 : x0_16 ≤ IntKind.max .u16) (x0_17 : Int) (a0_17 : IntKind.min .u16 ≤ x0_17) (b0_17 : x0_17 ≤ IntKind.max .u16) (x0_18 : Int) (a0_18 : IntKind.min .u16 ≤ x0_18) (b0_18 : x0_18 ≤ IntKind.max .u16) (x0_19 : Int) (a0_19 : IntKind.min .u16 ≤ x0_19) (b0_19 : x0_19 ≤ IntKind.max .u16) (x0_20 : Int) (a0_20 : IntKind.min .u16 ≤ x0_20) (b0_20 : x0_20 ≤ IntKind.max .u16) (x0_21 : Int) (a0_21 : IntKind.min .u16 ≤ x0_21) (b0_21 : x0_21 ≤ IntKind.max .u16) (x0_22 : Int) (a0_22 : IntKind.min .u16 ≤ x0_22) (b0_22 : x0_22 ≤ IntKind.max .u16) (x0_23 : Int) (a0_23 : IntKind.min .u16 ≤ x0_23) (b0_23 : x0_23 ≤ IntKind.max .u16) (x0_24 : Int) (a0_24 : IntKind.min .u8 ≤ x0_24) (b0_24 : x0_24 ≤ IntKind.max .u8) (x1 : Int) (a1 : IntKind.min .u8 ≤ x1) (b1 : x1 ≤ IntKind.max .u8) (x2 : Int) (a2 : IntKind.min .u8 ≤ x2) (b2 : x2 ≤ IntKind.max .u8) (x3_0 : Int) (a3_0 : IntKind.min .u8 ≤ x3_0) (b3_0 : x3_0 ≤ IntKind.max .u8) (x3_1 : Int) (a3_1 : IntKind.min .u8 ≤ x3_1) (b3_1 : x3_1 ≤ IntKind.max .u8) (x3_2 : Int) (a3_2 : IntKind.min .u8 ≤ x3_2) (b3_2 : x3_2 ≤ IntKind.max .u8) (x3_3 : Int) (a3_3 : IntKind.min .u8 ≤ x3_3) (b3_3 : x3_3 ≤ IntKind.max .u8) (hq : sm13Tri_9 x0_0 x0_1 x0_2 x0_3 x0_4 x0_5 x0_24 = true) : Alls (lRasTi_o x0_0 x0_1 x0_2 x0_3 x0_4 x0_5 x0_6 x0_7 x0_8 x0_9 x0_10 x0_11 x0_12 x0_13 x0_14 x0_15 x0_16 x0_17 x0_18 x0_19 x0_20 x0_21 x0_22 x0_23 x0_24 x1 x2 x3_0 x3_1 x3_2 x3_3) := by
  obtain ⟨l0_0, g0_0⟩ := bd_i8 a0_0 b0_0
  have w0_0 : IntKind.wrap .i64 x0_0 = x0_0 := w64_in (by omega) (by omega)
  obtain ⟨l0_1, g0_1⟩ := bd_i8 a0_1 b0_1
  have w0_1 : IntKind.wrap .i64 x0_1 = x0_1 := w64_in (by omega) (by omega)
  obtain ⟨l0_2, g0_2⟩ := bd_i8 a0_2 b0_2
  have w0_2 : IntKind.wrap .i64 x0_2 = x0_2 := w64_in (by omega) (by omega)
  obtain ⟨l0_3, g0_3⟩ := bd_i8 a0_3 b0_3
  have w0_3 : IntKind.wrap .i64 x0_3 = x0_3 := w64_in (by omega) (by omega)
  obtain ⟨l0_4, g0_4⟩ := bd_i8 a0_4 b0_4
  have w0_4 : IntKind.wrap .i64 x0_4 = x0_4 := w64_in (by omega) (by omega)
  obtain ⟨l0_5, g0_5⟩ := bd_i8 a0_5 b0_5
  have w0_5 : IntKind.wrap .i64 x0_5 = x0_5 := w64_in (by omega) (by omega)
  obtain ⟨l0_6, g0_6⟩ := bd_u16 a0_6 b0_6
  have w0_6 : IntKind.wrap .i64 x0_6 = x0_6 := w64_in (by omega) (by omega)
  obtain ⟨l0_7, g0_7⟩ := bd_u16 a0_7 b0_7
  have w0_7 : IntKind.wrap .i64 x0_7 = x0_7 := w64_in (by omega) (by omega)
  obtain ⟨l0_8, g0_8⟩ := bd_u16 a0_8 b0_8
  have w0_8 : IntKind.wrap .i64 x0_8 = x0_8 := w64_in (by omega) (by omega)
  obtain ⟨l0_9, g0_9⟩ := bd_u16 a0_9 b0_9
  have w0_9 : IntKind.wrap .i64 x0_9 = x0_9 := w64_in (by omega) (by omega)
  obtain ⟨l0_10, g0_10⟩ := bd_u16 a0_10 b0_10
  have w0_10 : IntKind.wrap .i64 x0_10 = x0_10 := w64_in (by omega) (by omega)
  obtain ⟨l0_11, g0_11⟩ := bd_u16 a0_11 b0_11
  have w0_11 : IntKind.wrap .i64 x0_11 = x0_11 := w64_in (by omega) (by omega)
  obtain ⟨l0_12, g0_12⟩ := bd_u16 a0_12 b0_12
  have w0_12 : IntKind.wrap .i64 x0_12 = x0_12 := w64_in (by omega) (by omega)
  obtain ⟨l0_13, g0_13⟩ := bd_u16 a0_13 b0_13
  have w0_13 : IntKind.wrap .i64 x0_13 = x0_13 := w64_in (by omega) (by omega)
  obtain ⟨l0_14, g0_14⟩ := bd_u16 a0_14 b0_14
  have w0_14 : IntKind.wrap .i64 x0_14 = x0_14 := w64_in (by omega) (by omega)
  obtain ⟨l0_15, g0_15⟩ := bd_u16 a0_15 b0_15
  have w0_15 : IntKind.wrap .i64 x0_15 = x0_15 := w64_in (by omega) (by omega)
  obtain ⟨l0_16, g0_16⟩ := bd_u16 a0_16 b0_16
  have w0_16 : IntKind.wrap .i64 x0_16 = x0_16 := w64_in (by omega) (by omega)
  obtain ⟨l0_17, g0_17⟩ := bd_u16 a0_17 b0_17
  have w0_17 : IntKind.wrap .i64 x0_17 = x0_17 := w64_in (by omega) (by omega)
  obtain ⟨l0_18, g0_18⟩ := bd_u16 a0_18 b0_18
  have w0_18 : IntKind.wrap .i64 x0_18 = x0_18 := w64_in (by omega) (by omega)
  obtain ⟨l0_19, g0_19⟩ := bd_u16 a0_19 b0_19
  have w0_19 : IntKind.wrap .i64 x0_19 = x0_19 := w64_in (by omega) (by omega)
  obtain ⟨l0_20, g0_20⟩ := bd_u16 a0_20 b0_20
  have w0_20 : IntKind.wrap .i64 x0_20 = x0_20 := w64_in (by omega) (by omega)
  obtain ⟨l0_21, g0_21⟩ := bd_u16 a0_21 b0_21
  have w0_21 : IntKind.wrap .i64 x0_21 = x0_21 := w64_in (by omega) (by omega)
  obtain ⟨l0_22, g0_22⟩ := bd_u16 a0_22 b0_22
  have w0_22 : IntKind.wrap .i64 x0_22 = x0_22 := w64_in (by omega) (by omega)
  obtain ⟨l0_23, g0_23⟩ := bd_u16 a0_23 b0_23
  have w0_23 : IntKind.wrap .i64 x0_23 = x0_23 := w64_in (by omega) (by omega)
  obtain ⟨l0_24, g0_24⟩ := bd_u8 a0_24 b0_24
  have w0_24 : IntKind.wrap .i64 x0_24 = x0_24 := w64_in (by omega) (by omega)
  have T := sm_TB ⟨l0_0, g0_0⟩ ⟨l0_1, g0_1⟩ ⟨l0_2, g0_2⟩ ⟨l0_3, g0_3⟩ ⟨l0_4, g0_4⟩ ⟨l0_5, g0_5⟩ l0_24 g0_24 ⟨l0_9, g0_9⟩ ⟨l0_10, g0_10⟩ ⟨l0_11, g0_11⟩ (c16 l0_6 g0_6 w0_6) (c16 l0_7 g0_7 w0_7) (c16 l0_8 g0_8 w0_8) (b16 l0_12 g0_12 w0_12) (b16 l0_13 g0_13 w0_13) (b16 l0_14 g0_14 w0_14) (b16 l0_15 g0_15 w0_15) (b16 l0_16 g0_16 w0_16) (b16 l0_17 g0_17 w0_17) (b16 l0_18 g0_18 w0_18) (b16 l0_19 g0_19 w0_19) (b16 l0_20 g0_20 w0_20) (b16 l0_21 g0_21 w0_21) (b16 l0_22 g0_22 w0_22) (b16 l0_23 g0_23 w0_23)
  have t9 := tri9 T
  rw [t9] at hq
  have hA := of_decide_eq_true hq
  have hw := Ra.u8_41 a1 b1
  have hh : 1 ≤ lRasTi_s1 x2 ∧ lRasTi_s1 x2 ≤ 40 := Ra.u8_41 a2 b2
  refine ⟨fun _ => decide_eq_false (by rw [area_eq T]; omega), fun _ => (Ra.of_run hw.1 hw.2 hh.1 hh.2 _ _ _ _ _ _ _ _ _ _).2, fun _ => ?_, trivial⟩
  unfold lRasTi_s2 bOf_0
  obtain ⟨⟨v', r1, rfl⟩, -⟩ := Ra.of_run hw.1 hw.2 hh.1 hh.2 (sm13Tri_0 x0_0 x0_1 x0_2 x0_3 x0_4 x0_5 x0_24) (sm13Tri_1 x0_0 x0_1 x0_2 x0_3 x0_4 x0_5 x0_24) (sm13Tri_2 x0_0 x0_1 x0_2 x0_3 x0_4 x0_5 x0_24) (sm13Tri_3 x0_0 x0_1 x0_2 x0_3 x0_4 x0_5 x0_24) (sm13Tri_4 x0_0 x0_1 x0_2 x0_3 x0_4 x0_5 x0_24) (sm13Tri_5 x0_0 x0_1 x0_2 x0_3 x0_4 x0_5 x0_24) (bMeet_0 (bPix_0 (sm13Tri_0 x0_0 x0_1 x0_2 x0_3 x0_4 x0_5 x0_24) (sm13Tri_2 x0_0 x0_1 x0_2 x0_3 x0_4 x0_5 x0_24) (sm13Tri_4 x0_0 x0_1 x0_2 x0_3 x0_4 x0_5 x0_24)) (bPix_1 (sm13Tri_1 x0_0 x0_1 x0_2 x0_3 x0_4 x0_5 x0_24) (sm13Tri_3 x0_0 x0_1 x0_2 x0_3 x0_4 x0_5 x0_24) (sm13Tri_5 x0_0 x0_1 x0_2 x0_3 x0_4 x0_5 x0_24)) (bPix_2 (sm13Tri_0 x0_0 x0_1 x0_2 x0_3 x0_4 x0_5 x0_24) (sm13Tri_2 x0_0 x0_1 x0_2 x0_3 x0_4 x0_5 x0_24) (sm13Tri_4 x0_0 x0_1 x0_2 x0_3 x0_4 x0_5 x0_24)) (bPix_3 (sm13Tri_1 x0_0 x0_1 x0_2 x0_3 x0_4 x0_5 x0_24) (sm13Tri_3 x0_0 x0_1 x0_2 x0_3 x0_4 x0_5 x0_24) (sm13Tri_5 x0_0 x0_1 x0_2 x0_3 x0_4 x0_5 x0_24)) (l18box_0 x3_0) (l18box_1 x3_1) (l18box_2 x3_2) (l18box_3 x3_3)) (bMeet_1 (bPix_0 (sm13Tri_0 x0_0 x0_1 x0_2 x0_3 x0_4 x0_5 x0_24) (sm13Tri_2 x0_0 x0_1 x0_2 x0_3 x0_4 x0_5 x0_24) (sm13Tri_4 x0_0 x0_1 x0_2 x0_3 x0_4 x0_5 x0_24)) (bPix_1 (sm13Tri_1 x0_0 x0_1 x0_2 x0_3 x0_4 x0_5 x0_24) (sm13Tri_3 x0_0 x0_1 x0_2 x0_3 x0_4 x0_5 x0_24) (sm13Tri_5 x0_0 x0_1 x0_2 x0_3 x0_4 x0_5 x0_24)) (bPix_2 (sm13Tri_0 x0_0 x0_1 x0_2 x0_3 x0_4 x0_5 x0_24) (sm13Tri_2 x0_0 x0_1 x0_2 x0_3 x0_4 x0_5 x0_24) (sm13Tri_4 x0_0 x0_1 x0_2 x0_3 x0_4 x0_5 x0_24)) (bPix_3 (sm13Tri_1 x0_0 x0_1 x0_2 x0_3 x0_4 x0_5 x0_24) (sm13Tri_3 x0_0 x0_1 x0_2 x0_3 x0_4 x0_5 x0_24) (sm13Tri_5 x0_0 x0_1 x0_2 x0_3 x0_4 x0_5 x0_24)) (l18box_0 x3_0) (l18box_1 x3_1) (l18box_2 x3_2) (l18box_3 x3_3)) (bMeet_2 (bPix_0 (sm13Tri_0 x0_0 x0_1 x0_2 x0_3 x0_4 x0_5 x0_24) (sm13Tri_2 x0_0 x0_1 x0_2 x0_3 x0_4 x0_5 x0_24) (sm13Tri_4 x0_0 x0_1 x0_2 x0_3 x0_4 x0_5 x0_24)) (bPix_1 (sm13Tri_1 x0_0 x0_1 x0_2 x0_3 x0_4 x0_5 x0_24) (sm13Tri_3 x0_0 x0_1 x0_2 x0_3 x0_4 x0_5 x0_24) (sm13Tri_5 x0_0 x0_1 x0_2 x0_3 x0_4 x0_5 x0_24)) (bPix_2 (sm13Tri_0 x0_0 x0_1 x0_2 x0_3 x0_4 x0_5 x0_24) (sm13Tri_2 x0_0 x0_1 x0_2 x0_3 x0_4 x0_5 x0_24) (sm13Tri_4 x0_0 x0_1 x0_2 x0_3 x0_4 x0_5 x0_24)) (bPix_3 (sm13Tri_1 x0_0 x0_1 x0_2 x0_3 x0_4 x0_5 x0_24) (sm13Tri_3 x0_0 x0_1 x0_2 x0_3 x0_4 x0_5 x0_24) (sm13Tri_5 x0_0 x0_1 x0_2 x0_3 x0_4 x0_5 x0_24)) (l18box_0 x3_0) (l18box_1 x3_1) (l18box_2 x3_2) (l18box_3 x3_3)) (bMeet_3 (bPix_0 (sm13Tri_0 x0_0 x0_1 x0_2 x0_3 x0_4 x0_5 x0_24) (sm13Tri_2 x0_0 x0_1 x0_2 x0_3 x0_4 x0_5 x0_24) (sm13Tri_4 x0_0 x0_1 x0_2 x0_3 x0_4 x0_5 x0_24)) (bPix_1 (sm13Tri_1 x0_0 x0_1 x0_2 x0_3 x0_4 x0_5 x0_24) (sm13Tri_3 x0_0 x0_1 x0_2 x0_3 x0_4 x0_5 x0_24) (sm13Tri_5 x0_0 x0_1 x0_2 x0_3 x0_4 x0_5 x0_24)) (bPix_2 (sm13Tri_0 x0_0 x0_1 x0_2 x0_3 x0_4 x0_5 x0_24) (sm13Tri_2 x0_0 x0_1 x0_2 x0_3 x0_4 x0_5 x0_24) (sm13Tri_4 x0_0 x0_1 x0_2 x0_3 x0_4 x0_5 x0_24)) (bPix_3 (sm13Tri_1 x0_0 x0_1 x0_2 x0_3 x0_4 x0_5 x0_24) (sm13Tri_3 x0_0 x0_1 x0_2 x0_3 x0_4 x0_5 x0_24) (sm13Tri_5 x0_0 x0_1 x0_2 x0_3 x0_4 x0_5 x0_24)) (l18box_0 x3_0) (l18box_1 x3_1) (l18box_2 x3_2) (l18box_3 x3_3))
  rw [r1]
  exact (Ra.sum_run hw.1 hw.2 hh.1 hh.2 (sm13Tri_0 x0_0 x0_1 x0_2 x0_3 x0_4 x0_5 x0_24) (sm13Tri_1 x0_0 x0_1 x0_2 x0_3 x0_4 x0_5 x0_24) (sm13Tri_2 x0_0 x0_1 x0_2 x0_3 x0_4 x0_5 x0_24) (sm13Tri_3 x0_0 x0_1 x0_2 x0_3 x0_4 x0_5 x0_24) (sm13Tri_4 x0_0 x0_1 x0_2 x0_3 x0_4 x0_5 x0_24) (sm13Tri_5 x0_0 x0_1 x0_2 x0_3 x0_4 x0_5 x0_24) (IntKind.wrap .i64 x0_6) (IntKind.wrap .i64 x0_7) (IntKind.wrap .i64 x0_8) (sm13Tri_6 x0_9) (sm13Tri_7 x0_10) (sm13Tri_8 x0_11) (IntKind.wrap .i64 x0_12) (IntKind.wrap .i64 x0_13) (IntKind.wrap .i64 x0_14) (IntKind.wrap .i64 x0_15) (IntKind.wrap .i64 x0_16) (IntKind.wrap .i64 x0_17) (IntKind.wrap .i64 x0_18) (IntKind.wrap .i64 x0_19) (IntKind.wrap .i64 x0_20) (IntKind.wrap .i64 x0_21) (IntKind.wrap .i64 x0_22) (IntKind.wrap .i64 x0_23) (l18box_0 x3_0) (l18box_1 x3_1) (l18box_2 x3_2) (l18box_3 x3_3) (lRasTi_s3 x0_0 x0_1 x0_2 x0_3 x0_4 x0_5 x0_6 x0_7 x0_8 x0_9 x0_10 x0_11 x0_12 x0_13 x0_14 x0_15 x0_16 x0_17 x0_18 x0_19 x0_20 x0_21 x0_22 x0_23 x0_24 x1 x2 x3_0 x3_1 x3_2 x3_3) (Ra.told (fun t => bOf_l125_s5 (.mk 0 t (lRasTi_s0 x1) (lRasTi_s1 x2) (sm13Tri_0 x0_0 x0_1 x0_2 x0_3 x0_4 x0_5 x0_24) (sm13Tri_1 x0_0 x0_1 x0_2 x0_3 x0_4 x0_5 x0_24) (sm13Tri_2 x0_0 x0_1 x0_2 x0_3 x0_4 x0_5 x0_24) (sm13Tri_3 x0_0 x0_1 x0_2 x0_3 x0_4 x0_5 x0_24) (sm13Tri_4 x0_0 x0_1 x0_2 x0_3 x0_4 x0_5 x0_24) (sm13Tri_5 x0_0 x0_1 x0_2 x0_3 x0_4 x0_5 x0_24) (bMeet_0 (bPix_0 (sm13Tri_0 x0_0 x0_1 x0_2 x0_3 x0_4 x0_5 x0_24) (sm13Tri_2 x0_0 x0_1 x0_2 x0_3 x0_4 x0_5 x0_24) (sm13Tri_4 x0_0 x0_1 x0_2 x0_3 x0_4 x0_5 x0_24)) (bPix_1 (sm13Tri_1 x0_0 x0_1 x0_2 x0_3 x0_4 x0_5 x0_24) (sm13Tri_3 x0_0 x0_1 x0_2 x0_3 x0_4 x0_5 x0_24) (sm13Tri_5 x0_0 x0_1 x0_2 x0_3 x0_4 x0_5 x0_24)) (bPix_2 (sm13Tri_0 x0_0 x0_1 x0_2 x0_3 x0_4 x0_5 x0_24) (sm13Tri_2 x0_0 x0_1 x0_2 x0_3 x0_4 x0_5 x0_24) (sm13Tri_4 x0_0 x0_1 x0_2 x0_3 x0_4 x0_5 x0_24)) (bPix_3 (sm13Tri_1 x0_0 x0_1 x0_2 x0_3 x0_4 x0_5 x0_24) (sm13Tri_3 x0_0 x0_1 x0_2 x0_3 x0_4 x0_5 x0_24) (sm13Tri_5 x0_0 x0_1 x0_2 x0_3 x0_4 x0_5 x0_24)) (l18box_0 x3_0) (l18box_1 x3_1) (l18box_2 x3_2) (l18box_3 x3_3)) (bMeet_1 (bPix_0 (sm13Tri_0 x0_0 x0_1 x0_2 x0_3 x0_4 x0_5 x0_24) (sm13Tri_2 x0_0 x0_1 x0_2 x0_3 x0_4 x0_5 x0_24) (sm13Tri_4 x0_0 x0_1 x0_2 x0_3 x0_4 x0_5 x0_24)) (bPix_1 (sm13Tri_1 x0_0 x0_1 x0_2 x0_3 x0_4 x0_5 x0_24) (sm13Tri_3 x0_0 x0_1 x0_2 x0_3 x0_4 x0_5 x0_24) (sm13Tri_5 x0_0 x0_1 x0_2 x0_3 x0_4 x0_5 x0_24)) (bPix_2 (sm13Tri_0 x0_0 x0_1 x0_2 x0_3 x0_4 x0_5 x0_24) (sm13Tri_2 x0_0 x0_1 x0_2 x0_3 x0_4 x0_5 x0_24) (sm13Tri_4 x0_0 x0_1 x0_2 x0_3 x0_4 x0_5 x0_24)) (bPix_3 (sm13Tri_1 x0_0 x0_1 x0_2 x0_3 x0_4 x0_5 x0_24) (sm13Tri_3 x0_0 x0_1 x0_2 x0_3 x0_4 x0_5 x0_24) (sm13Tri_5 x0_0 x0_1 x0_2 x0_3 x0_4 x0_5 x0_24)) (l18box_0 x3_0) (l18box_1 x3_1) (l18box_2 x3_2) (l18box_3 x3_3)) (bMeet_2 (bPix_0 (sm13Tri_0 x0_0 x0_1 x0_2 x0_3 x0_4 x0_5 x0_24) (sm13Tri_2 x0_0 x0_1 x0_2 x0_3 x0_4 x0_5 x0_24) (sm13Tri_4 x0_0 x0_1 x0_2 x0_3 x0_4 x0_5 x0_24)) (bPix_1 (sm13Tri_1 x0_0 x0_1 x0_2 x0_3 x0_4 x0_5 x0_24) (sm13Tri_3 x0_0 x0_1 x0_2 x0_3 x0_4 x0_5 x0_24) (sm13Tri_5 x0_0 x0_1 x0_2 x0_3 x0_4 x0_5 x0_24)) (bPix_2 (sm13Tri_0 x0_0 x0_1 x0_2 x0_3 x0_4 x0_5 x0_24) (sm13Tri_2 x0_0 x0_1 x0_2 x0_3 x0_4 x0_5 x0_24) (sm13Tri_4 x0_0 x0_1 x0_2 x0_3 x0_4 x0_5 x0_24)) (bPix_3 (sm13Tri_1 x0_0 x0_1 x0_2 x0_3 x0_4 x0_5 x0_24) (sm13Tri_3 x0_0 x0_1 x0_2 x0_3 x0_4 x0_5 x0_24) (sm13Tri_5 x0_0 x0_1 x0_2 x0_3 x0_4 x0_5 x0_24)) (l18box_0 x3_0) (l18box_1 x3_1) (l18box_2 x3_2) (l18box_3 x3_3)) (bMeet_3 (bPix_0 (sm13Tri_0 x0_0 x0_1 x0_2 x0_3 x0_4 x0_5 x0_24) (sm13Tri_2 x0_0 x0_1 x0_2 x0_3 x0_4 x0_5 x0_24) (sm13Tri_4 x0_0 x0_1 x0_2 x0_3 x0_4 x0_5 x0_24)) (bPix_1 (sm13Tri_1 x0_0 x0_1 x0_2 x0_3 x0_4 x0_5 x0_24) (sm13Tri_3 x0_0 x0_1 x0_2 x0_3 x0_4 x0_5 x0_24) (sm13Tri_5 x0_0 x0_1 x0_2 x0_3 x0_4 x0_5 x0_24)) (bPix_2 (sm13Tri_0 x0_0 x0_1 x0_2 x0_3 x0_4 x0_5 x0_24) (sm13Tri_2 x0_0 x0_1 x0_2 x0_3 x0_4 x0_5 x0_24) (sm13Tri_4 x0_0 x0_1 x0_2 x0_3 x0_4 x0_5 x0_24)) (bPix_3 (sm13Tri_1 x0_0 x0_1 x0_2 x0_3 x0_4 x0_5 x0_24) (sm13Tri_3 x0_0 x0_1 x0_2 x0_3 x0_4 x0_5 x0_24) (sm13Tri_5 x0_0 x0_1 x0_2 x0_3 x0_4 x0_5 x0_24)) (l18box_0 x3_0) (l18box_1 x3_1) (l18box_2 x3_2) (l18box_3 x3_3)) [])) (Ra.tl (lRasTi_s0 x1) * Ra.tl (lRasTi_s1 x2)).toNat 0) (by
    have hT := Ra.mul_bd8 (Ra.tl_bd (w := lRasTi_s0 x1) (by omega) (by omega)) (Ra.tl_bd (w := lRasTi_s1 x2) (by omega) (by omega))
    refine Nat.le_trans (Ra.told_len _ _ _) (by omega))).2

theorem RasterTilesB_true (x0_0 : Int) (a0_0 : IntKind.min .i8 ≤ x0_0) (b0_0 : x0_0 ≤ IntKind.max .i8) (x0_1 : Int) (a0_1 : IntKind.min .i8 ≤ x0_1) (b0_1 : x0_1 ≤ IntKind.max .i8) (x0_2 : Int) (a0_2 : IntKind.min .i8 ≤ x0_2) (b0_2 : x0_2 ≤ IntKind.max .i8) (x0_3 : Int) (a0_3 : IntKind.min .i8 ≤ x0_3) (b0_3 : x0_3 ≤ IntKind.max .i8) (x0_4 : Int) (a0_4 : IntKind.min .i8 ≤ x0_4) (b0_4 : x0_4 ≤ IntKind.max .i8) (x0_5 : Int) (a0_5 : IntKind.min .i8 ≤ x0_5) (b0_5 : x0_5 ≤ IntKind.max .i8) (x0_6 : Int) (a0_6 : IntKind.min .u16 ≤ x0_6) (b0_6 : x0_6 ≤ IntKind.max .u16) (x0_7 : Int) (a0_7 : IntKind.min .u16 ≤ x0_7) (b0_7 : x0_7 ≤ IntKind.max .u16) (x0_8 : Int) (a0_8 : IntKind.min .u16 ≤ x0_8) (b0_8 : x0_8 ≤ IntKind.max .u16) (x0_9 : Int) (a0_9 : IntKind.min .u16 ≤ x0_9) (b0_9 : x0_9 ≤ IntKind.max .u16) (x0_10 : Int) (a0_10 : IntKind.min .u16 ≤ x0_10) (b0_10 : x0_10 ≤ IntKind.max .u16) (x0_11 : Int) (a0_11 : IntKind.min .u16 ≤ x0_11) (b0_11 : x0_11 ≤ IntKind.max .u16) (x0_12 : Int) (a0_12 : IntKind.min .u16 ≤ x0_12) (b0_12 : x0_12 ≤ IntKind.max .u16) (x0_13 : Int) (a0_13 : IntKind.min .u16 ≤ x0_13) (b0_13 : x0_13 ≤ IntKind.max .u16) (x0_14 : Int) (a0_14 : IntKind.min .u16 ≤ x0_14) (b0_14 : x0_14 ≤ IntKind.max .u16) (x0_15 : Int) (a0_15 : IntKind.min .u16 ≤ x0_15) (b0_15 : x0_15 ≤ IntKind.max .u16) (x0_16 : Int) (a0_16 : IntKind.min .u16 ≤ x0_16) (b0_16 : x0_16 ≤ IntKind.max .u16) (x0_17 : Int) (a0_17 : IntKind.min .u16 ≤ x0_17) (b0_17 : x0_17 ≤ IntKind.max .u16) (x0_18 : Int) (a0_18 : IntKind.min .u16 ≤ x0_18) (b0_18 : x0_18 ≤ IntKind.max .u16) (x0_19 : Int) (a0_19 : IntKind.min .u16 ≤ x0_19) (b0_19 : x0_19 ≤ IntKind.max .u16) (x0_20 : Int) (a0_20 : IntKind.min .u16 ≤ x0_20) (b0_20 : x0_20 ≤ IntKind.max .u16) (x0_21 : Int) (a0_21 : IntKind.min .u16 ≤ x0_21) (b0_21 : x0_21 ≤ IntKind.max .u16) (x0_22 : Int) (a0_22 : IntKind.min .u16 ≤ x0_22) (b0_22 : x0_22 ≤ IntKind.max .u16) (x0_23 : Int) (a0_23 : IntKind.min .u16 ≤ x0_23) (b0_23 : x0_23 ≤ IntKind.max .u16) (x0_24 : Int) (a0_24 : IntKind.min .u8 ≤ x0_24) (b0_24 : x0_24 ≤ IntKind.max .u8) (x1 : Int) (a1 : IntKind.min .u8 ≤ x1) (b1 : x1 ≤ IntKind.max .u8) (x2 : Int) (a2 : IntKind.min .u8 ≤ x2) (b2 : x2 ≤ IntKind.max .u8) (x3_0 : Int) (a3_0 : IntKind.min .u8 ≤ x3_0) (b3_0 : x3_0 ≤ IntKind.max .u8) (x3_1 : Int) (a3_1 : IntKind.min .u8 ≤ x3_1) (b3_1 : x3_1 ≤ IntKind.max .u8) (x3_2 : Int) (a3_2 : IntKind.min .u8 ≤ x3_2) (b3_2 : x3_2 ≤ IntKind.max .u8) (x3_3 : Int) (a3_3 : IntKind.min .u8 ≤ x3_3) (b3_3 : x3_3 ≤ IntKind.max .u8) (hq : sm13Tri_9 x0_0 x0_1 x0_2 x0_3 x0_4 x0_5 x0_24 = false) : lRasTz_0 x0_0 x0_1 x0_2 x0_3 x0_4 x0_5 x0_6 x0_7 x0_8 x0_9 x0_10 x0_11 x0_12 x0_13 x0_14 x0_15 x0_16 x0_17 x0_18 x0_19 x0_20 x0_21 x0_22 x0_23 x0_24 x1 x2 x3_0 x3_1 x3_2 x3_3 = true := by
  obtain ⟨l0_0, g0_0⟩ := bd_i8 a0_0 b0_0
  have w0_0 : IntKind.wrap .i64 x0_0 = x0_0 := w64_in (by omega) (by omega)
  obtain ⟨l0_1, g0_1⟩ := bd_i8 a0_1 b0_1
  have w0_1 : IntKind.wrap .i64 x0_1 = x0_1 := w64_in (by omega) (by omega)
  obtain ⟨l0_2, g0_2⟩ := bd_i8 a0_2 b0_2
  have w0_2 : IntKind.wrap .i64 x0_2 = x0_2 := w64_in (by omega) (by omega)
  obtain ⟨l0_3, g0_3⟩ := bd_i8 a0_3 b0_3
  have w0_3 : IntKind.wrap .i64 x0_3 = x0_3 := w64_in (by omega) (by omega)
  obtain ⟨l0_4, g0_4⟩ := bd_i8 a0_4 b0_4
  have w0_4 : IntKind.wrap .i64 x0_4 = x0_4 := w64_in (by omega) (by omega)
  obtain ⟨l0_5, g0_5⟩ := bd_i8 a0_5 b0_5
  have w0_5 : IntKind.wrap .i64 x0_5 = x0_5 := w64_in (by omega) (by omega)
  obtain ⟨l0_6, g0_6⟩ := bd_u16 a0_6 b0_6
  have w0_6 : IntKind.wrap .i64 x0_6 = x0_6 := w64_in (by omega) (by omega)
  obtain ⟨l0_7, g0_7⟩ := bd_u16 a0_7 b0_7
  have w0_7 : IntKind.wrap .i64 x0_7 = x0_7 := w64_in (by omega) (by omega)
  obtain ⟨l0_8, g0_8⟩ := bd_u16 a0_8 b0_8
  have w0_8 : IntKind.wrap .i64 x0_8 = x0_8 := w64_in (by omega) (by omega)
  obtain ⟨l0_9, g0_9⟩ := bd_u16 a0_9 b0_9
  have w0_9 : IntKind.wrap .i64 x0_9 = x0_9 := w64_in (by omega) (by omega)
  obtain ⟨l0_10, g0_10⟩ := bd_u16 a0_10 b0_10
  have w0_10 : IntKind.wrap .i64 x0_10 = x0_10 := w64_in (by omega) (by omega)
  obtain ⟨l0_11, g0_11⟩ := bd_u16 a0_11 b0_11
  have w0_11 : IntKind.wrap .i64 x0_11 = x0_11 := w64_in (by omega) (by omega)
  obtain ⟨l0_12, g0_12⟩ := bd_u16 a0_12 b0_12
  have w0_12 : IntKind.wrap .i64 x0_12 = x0_12 := w64_in (by omega) (by omega)
  obtain ⟨l0_13, g0_13⟩ := bd_u16 a0_13 b0_13
  have w0_13 : IntKind.wrap .i64 x0_13 = x0_13 := w64_in (by omega) (by omega)
  obtain ⟨l0_14, g0_14⟩ := bd_u16 a0_14 b0_14
  have w0_14 : IntKind.wrap .i64 x0_14 = x0_14 := w64_in (by omega) (by omega)
  obtain ⟨l0_15, g0_15⟩ := bd_u16 a0_15 b0_15
  have w0_15 : IntKind.wrap .i64 x0_15 = x0_15 := w64_in (by omega) (by omega)
  obtain ⟨l0_16, g0_16⟩ := bd_u16 a0_16 b0_16
  have w0_16 : IntKind.wrap .i64 x0_16 = x0_16 := w64_in (by omega) (by omega)
  obtain ⟨l0_17, g0_17⟩ := bd_u16 a0_17 b0_17
  have w0_17 : IntKind.wrap .i64 x0_17 = x0_17 := w64_in (by omega) (by omega)
  obtain ⟨l0_18, g0_18⟩ := bd_u16 a0_18 b0_18
  have w0_18 : IntKind.wrap .i64 x0_18 = x0_18 := w64_in (by omega) (by omega)
  obtain ⟨l0_19, g0_19⟩ := bd_u16 a0_19 b0_19
  have w0_19 : IntKind.wrap .i64 x0_19 = x0_19 := w64_in (by omega) (by omega)
  obtain ⟨l0_20, g0_20⟩ := bd_u16 a0_20 b0_20
  have w0_20 : IntKind.wrap .i64 x0_20 = x0_20 := w64_in (by omega) (by omega)
  obtain ⟨l0_21, g0_21⟩ := bd_u16 a0_21 b0_21
  have w0_21 : IntKind.wrap .i64 x0_21 = x0_21 := w64_in (by omega) (by omega)
  obtain ⟨l0_22, g0_22⟩ := bd_u16 a0_22 b0_22
  have w0_22 : IntKind.wrap .i64 x0_22 = x0_22 := w64_in (by omega) (by omega)
  obtain ⟨l0_23, g0_23⟩ := bd_u16 a0_23 b0_23
  have w0_23 : IntKind.wrap .i64 x0_23 = x0_23 := w64_in (by omega) (by omega)
  obtain ⟨l0_24, g0_24⟩ := bd_u8 a0_24 b0_24
  have w0_24 : IntKind.wrap .i64 x0_24 = x0_24 := w64_in (by omega) (by omega)
  have T := sm_TB ⟨l0_0, g0_0⟩ ⟨l0_1, g0_1⟩ ⟨l0_2, g0_2⟩ ⟨l0_3, g0_3⟩ ⟨l0_4, g0_4⟩ ⟨l0_5, g0_5⟩ l0_24 g0_24 ⟨l0_9, g0_9⟩ ⟨l0_10, g0_10⟩ ⟨l0_11, g0_11⟩ (c16 l0_6 g0_6 w0_6) (c16 l0_7 g0_7 w0_7) (c16 l0_8 g0_8 w0_8) (b16 l0_12 g0_12 w0_12) (b16 l0_13 g0_13 w0_13) (b16 l0_14 g0_14 w0_14) (b16 l0_15 g0_15 w0_15) (b16 l0_16 g0_16 w0_16) (b16 l0_17 g0_17 w0_17) (b16 l0_18 g0_18 w0_18) (b16 l0_19 g0_19 w0_19) (b16 l0_20 g0_20 w0_20) (b16 l0_21 g0_21 w0_21) (b16 l0_22 g0_22 w0_22) (b16 l0_23 g0_23 w0_23)
  have t9 := tri9 T
  rw [t9] at hq
  have hA := of_decide_eq_false hq
  have hk : (Ra.ck (tg (sm13Tri_0 x0_0 x0_1 x0_2 x0_3 x0_4 x0_5 x0_24) (sm13Tri_1 x0_0 x0_1 x0_2 x0_3 x0_4 x0_5 x0_24) (sm13Tri_2 x0_0 x0_1 x0_2 x0_3 x0_4 x0_5 x0_24) (sm13Tri_3 x0_0 x0_1 x0_2 x0_3 x0_4 x0_5 x0_24) (sm13Tri_4 x0_0 x0_1 x0_2 x0_3 x0_4 x0_5 x0_24) (sm13Tri_5 x0_0 x0_1 x0_2 x0_3 x0_4 x0_5 x0_24) (IntKind.wrap .i64 x0_6) (IntKind.wrap .i64 x0_7) (IntKind.wrap .i64 x0_8) (sm13Tri_6 x0_9) (sm13Tri_7 x0_10) (sm13Tri_8 x0_11) (IntKind.wrap .i64 x0_12) (IntKind.wrap .i64 x0_13) (IntKind.wrap .i64 x0_14) (IntKind.wrap .i64 x0_15) (IntKind.wrap .i64 x0_16) (IntKind.wrap .i64 x0_17) (IntKind.wrap .i64 x0_18) (IntKind.wrap .i64 x0_19) (IntKind.wrap .i64 x0_20) (IntKind.wrap .i64 x0_21) (IntKind.wrap .i64 x0_22) (IntKind.wrap .i64 x0_23)) != 0) = true := by
    have h : Ra.ck (tg (sm13Tri_0 x0_0 x0_1 x0_2 x0_3 x0_4 x0_5 x0_24) (sm13Tri_1 x0_0 x0_1 x0_2 x0_3 x0_4 x0_5 x0_24) (sm13Tri_2 x0_0 x0_1 x0_2 x0_3 x0_4 x0_5 x0_24) (sm13Tri_3 x0_0 x0_1 x0_2 x0_3 x0_4 x0_5 x0_24) (sm13Tri_4 x0_0 x0_1 x0_2 x0_3 x0_4 x0_5 x0_24) (sm13Tri_5 x0_0 x0_1 x0_2 x0_3 x0_4 x0_5 x0_24) (IntKind.wrap .i64 x0_6) (IntKind.wrap .i64 x0_7) (IntKind.wrap .i64 x0_8) (sm13Tri_6 x0_9) (sm13Tri_7 x0_10) (sm13Tri_8 x0_11) (IntKind.wrap .i64 x0_12) (IntKind.wrap .i64 x0_13) (IntKind.wrap .i64 x0_14) (IntKind.wrap .i64 x0_15) (IntKind.wrap .i64 x0_16) (IntKind.wrap .i64 x0_17) (IntKind.wrap .i64 x0_18) (IntKind.wrap .i64 x0_19) (IntKind.wrap .i64 x0_20) (IntKind.wrap .i64 x0_21) (IntKind.wrap .i64 x0_22) (IntKind.wrap .i64 x0_23)) = bif decide (sd (sm13Tri_0 x0_0 x0_1 x0_2 x0_3 x0_4 x0_5 x0_24) (sm13Tri_1 x0_0 x0_1 x0_2 x0_3 x0_4 x0_5 x0_24) (sm13Tri_2 x0_0 x0_1 x0_2 x0_3 x0_4 x0_5 x0_24) (sm13Tri_3 x0_0 x0_1 x0_2 x0_3 x0_4 x0_5 x0_24) (sm13Tri_4 x0_0 x0_1 x0_2 x0_3 x0_4 x0_5 x0_24) (sm13Tri_5 x0_0 x0_1 x0_2 x0_3 x0_4 x0_5 x0_24) ≤ 0) then 4 else 0 := check_eq T
    rw [h, decide_eq_true (by omega)]
    rfl
  have e : ∀ p q r s, lc (sm13Tri_0 x0_0 x0_1 x0_2 x0_3 x0_4 x0_5 x0_24) (sm13Tri_1 x0_0 x0_1 x0_2 x0_3 x0_4 x0_5 x0_24) (sm13Tri_2 x0_0 x0_1 x0_2 x0_3 x0_4 x0_5 x0_24) (sm13Tri_3 x0_0 x0_1 x0_2 x0_3 x0_4 x0_5 x0_24) (sm13Tri_4 x0_0 x0_1 x0_2 x0_3 x0_4 x0_5 x0_24) (sm13Tri_5 x0_0 x0_1 x0_2 x0_3 x0_4 x0_5 x0_24) (IntKind.wrap .i64 x0_6) (IntKind.wrap .i64 x0_7) (IntKind.wrap .i64 x0_8) (sm13Tri_6 x0_9) (sm13Tri_7 x0_10) (sm13Tri_8 x0_11) (IntKind.wrap .i64 x0_12) (IntKind.wrap .i64 x0_13) (IntKind.wrap .i64 x0_14) (IntKind.wrap .i64 x0_15) (IntKind.wrap .i64 x0_16) (IntKind.wrap .i64 x0_17) (IntKind.wrap .i64 x0_18) (IntKind.wrap .i64 x0_19) (IntKind.wrap .i64 x0_20) (IntKind.wrap .i64 x0_21) (IntKind.wrap .i64 x0_22) (IntKind.wrap .i64 x0_23) p q r s = [] := fun p q r s => Ra.cells_none hk
  unfold lRasTz_0
  rw [Ra.aw, e]
  rfl

theorem RasterTilesB_obs (x0_0 : Int) (a0_0 : IntKind.min .i8 ≤ x0_0) (b0_0 : x0_0 ≤ IntKind.max .i8) (x0_1 : Int) (a0_1 : IntKind.min .i8 ≤ x0_1) (b0_1 : x0_1 ≤ IntKind.max .i8) (x0_2 : Int) (a0_2 : IntKind.min .i8 ≤ x0_2) (b0_2 : x0_2 ≤ IntKind.max .i8) (x0_3 : Int) (a0_3 : IntKind.min .i8 ≤ x0_3) (b0_3 : x0_3 ≤ IntKind.max .i8) (x0_4 : Int) (a0_4 : IntKind.min .i8 ≤ x0_4) (b0_4 : x0_4 ≤ IntKind.max .i8) (x0_5 : Int) (a0_5 : IntKind.min .i8 ≤ x0_5) (b0_5 : x0_5 ≤ IntKind.max .i8) (x0_6 : Int) (a0_6 : IntKind.min .u16 ≤ x0_6) (b0_6 : x0_6 ≤ IntKind.max .u16) (x0_7 : Int) (a0_7 : IntKind.min .u16 ≤ x0_7) (b0_7 : x0_7 ≤ IntKind.max .u16) (x0_8 : Int) (a0_8 : IntKind.min .u16 ≤ x0_8) (b0_8 : x0_8 ≤ IntKind.max .u16) (x0_9 : Int) (a0_9 : IntKind.min .u16 ≤ x0_9) (b0_9 : x0_9 ≤ IntKind.max .u16) (x0_10 : Int) (a0_10 : IntKind.min .u16 ≤ x0_10) (b0_10 : x0_10 ≤ IntKind.max .u16) (x0_11 : Int) (a0_11 : IntKind.min .u16 ≤ x0_11) (b0_11 : x0_11 ≤ IntKind.max .u16) (x0_12 : Int) (a0_12 : IntKind.min .u16 ≤ x0_12) (b0_12 : x0_12 ≤ IntKind.max .u16) (x0_13 : Int) (a0_13 : IntKind.min .u16 ≤ x0_13) (b0_13 : x0_13 ≤ IntKind.max .u16) (x0_14 : Int) (a0_14 : IntKind.min .u16 ≤ x0_14) (b0_14 : x0_14 ≤ IntKind.max .u16) (x0_15 : Int) (a0_15 : IntKind.min .u16 ≤ x0_15) (b0_15 : x0_15 ≤ IntKind.max .u16) (x0_16 : Int) (a0_16 : IntKind.min .u16 ≤ x0_16) (b0_16 : x0_16 ≤ IntKind.max .u16) (x0_17 : Int) (a0_17 : IntKind.min .u16 ≤ x0_17) (b0_17 : x0_17 ≤ IntKind.max .u16) (x0_18 : Int) (a0_18 : IntKind.min .u16 ≤ x0_18) (b0_18 : x0_18 ≤ IntKind.max .u16) (x0_19 : Int) (a0_19 : IntKind.min .u16 ≤ x0_19) (b0_19 : x0_19 ≤ IntKind.max .u16) (x0_20 : Int) (a0_20 : IntKind.min .u16 ≤ x0_20) (b0_20 : x0_20 ≤ IntKind.max .u16) (x0_21 : Int) (a0_21 : IntKind.min .u16 ≤ x0_21) (b0_21 : x0_21 ≤ IntKind.max .u16) (x0_22 : Int) (a0_22 : IntKind.min .u16 ≤ x0_22) (b0_22 : x0_22 ≤ IntKind.max .u16) (x0_23 : Int) (a0_23 : IntKind.min .u16 ≤ x0_23) (b0_23 : x0_23 ≤ IntKind.max .u16) (x0_24 : Int) (a0_24 : IntKind.min .u8 ≤ x0_24) (b0_24 : x0_24 ≤ IntKind.max .u8) (x1 : Int) (a1 : IntKind.min .u8 ≤ x1) (b1 : x1 ≤ IntKind.max .u8) (x2 : Int) (a2 : IntKind.min .u8 ≤ x2) (b2 : x2 ≤ IntKind.max .u8) (x3_0 : Int) (a3_0 : IntKind.min .u8 ≤ x3_0) (b3_0 : x3_0 ≤ IntKind.max .u8) (x3_1 : Int) (a3_1 : IntKind.min .u8 ≤ x3_1) (b3_1 : x3_1 ≤ IntKind.max .u8) (x3_2 : Int) (a3_2 : IntKind.min .u8 ≤ x3_2) (b3_2 : x3_2 ≤ IntKind.max .u8) (x3_3 : Int) (a3_3 : IntKind.min .u8 ≤ x3_3) (b3_3 : x3_3 ≤ IntKind.max .u8) (hq : sm13Tri_9 x0_0 x0_1 x0_2 x0_3 x0_4 x0_5 x0_24 = false) : Alls (lRasTz_o x0_0 x0_1 x0_2 x0_3 x0_4 x0_5 x0_6 x0_7 x0_8 x0_9 x0_10 x0_11 x0_12 x0_13 x0_14 x0_15 x0_16 x0_17 x0_18 x0_19 x0_20 x0_21 x0_22 x0_23 x0_24 x1 x2 x3_0 x3_1 x3_2 x3_3) := by
  obtain ⟨l0_0, g0_0⟩ := bd_i8 a0_0 b0_0
  have w0_0 : IntKind.wrap .i64 x0_0 = x0_0 := w64_in (by omega) (by omega)
  obtain ⟨l0_1, g0_1⟩ := bd_i8 a0_1 b0_1
  have w0_1 : IntKind.wrap .i64 x0_1 = x0_1 := w64_in (by omega) (by omega)
  obtain ⟨l0_2, g0_2⟩ := bd_i8 a0_2 b0_2
  have w0_2 : IntKind.wrap .i64 x0_2 = x0_2 := w64_in (by omega) (by omega)
  obtain ⟨l0_3, g0_3⟩ := bd_i8 a0_3 b0_3
  have w0_3 : IntKind.wrap .i64 x0_3 = x0_3 := w64_in (by omega) (by omega)
  obtain ⟨l0_4, g0_4⟩ := bd_i8 a0_4 b0_4
  have w0_4 : IntKind.wrap .i64 x0_4 = x0_4 := w64_in (by omega) (by omega)
  obtain ⟨l0_5, g0_5⟩ := bd_i8 a0_5 b0_5
  have w0_5 : IntKind.wrap .i64 x0_5 = x0_5 := w64_in (by omega) (by omega)
  obtain ⟨l0_6, g0_6⟩ := bd_u16 a0_6 b0_6
  have w0_6 : IntKind.wrap .i64 x0_6 = x0_6 := w64_in (by omega) (by omega)
  obtain ⟨l0_7, g0_7⟩ := bd_u16 a0_7 b0_7
  have w0_7 : IntKind.wrap .i64 x0_7 = x0_7 := w64_in (by omega) (by omega)
  obtain ⟨l0_8, g0_8⟩ := bd_u16 a0_8 b0_8
  have w0_8 : IntKind.wrap .i64 x0_8 = x0_8 := w64_in (by omega) (by omega)
  obtain ⟨l0_9, g0_9⟩ := bd_u16 a0_9 b0_9
  have w0_9 : IntKind.wrap .i64 x0_9 = x0_9 := w64_in (by omega) (by omega)
  obtain ⟨l0_10, g0_10⟩ := bd_u16 a0_10 b0_10
  have w0_10 : IntKind.wrap .i64 x0_10 = x0_10 := w64_in (by omega) (by omega)
  obtain ⟨l0_11, g0_11⟩ := bd_u16 a0_11 b0_11
  have w0_11 : IntKind.wrap .i64 x0_11 = x0_11 := w64_in (by omega) (by omega)
  obtain ⟨l0_12, g0_12⟩ := bd_u16 a0_12 b0_12
  have w0_12 : IntKind.wrap .i64 x0_12 = x0_12 := w64_in (by omega) (by omega)
  obtain ⟨l0_13, g0_13⟩ := bd_u16 a0_13 b0_13
  have w0_13 : IntKind.wrap .i64 x0_13 = x0_13 := w64_in (by omega) (by omega)
  obtain ⟨l0_14, g0_14⟩ := bd_u16 a0_14 b0_14
  have w0_14 : IntKind.wrap .i64 x0_14 = x0_14 := w64_in (by omega) (by omega)
  obtain ⟨l0_15, g0_15⟩ := bd_u16 a0_15 b0_15
  have w0_15 : IntKind.wrap .i64 x0_15 = x0_15 := w64_in (by omega) (by omega)
  obtain ⟨l0_16, g0_16⟩ := bd_u16 a0_16 b0_16
  have w0_16 : IntKind.wrap .i64 x0_16 = x0_16 := w64_in (by omega) (by omega)
  obtain ⟨l0_17, g0_17⟩ := bd_u16 a0_17 b0_17
  have w0_17 : IntKind.wrap .i64 x0_17 = x0_17 := w64_in (by omega) (by omega)
  obtain ⟨l0_18, g0_18⟩ := bd_u16 a0_18 b0_18
  have w0_18 : IntKind.wrap .i64 x0_18 = x0_18 := w64_in (by omega) (by omega)
  obtain ⟨l0_19, g0_19⟩ := bd_u16 a0_19 b0_19
  have w0_19 : IntKind.wrap .i64 x0_19 = x0_19 := w64_in (by omega) (by omega)
  obtain ⟨l0_20, g0_20⟩ := bd_u16 a0_20 b0_20
  have w0_20 : IntKind.wrap .i64 x0_20 = x0_20 := w64_in (by omega) (by omega)
  obtain ⟨l0_21, g0_21⟩ := bd_u16 a0_21 b0_21
  have w0_21 : IntKind.wrap .i64 x0_21 = x0_21 := w64_in (by omega) (by omega)
  obtain ⟨l0_22, g0_22⟩ := bd_u16 a0_22 b0_22
  have w0_22 : IntKind.wrap .i64 x0_22 = x0_22 := w64_in (by omega) (by omega)
  obtain ⟨l0_23, g0_23⟩ := bd_u16 a0_23 b0_23
  have w0_23 : IntKind.wrap .i64 x0_23 = x0_23 := w64_in (by omega) (by omega)
  obtain ⟨l0_24, g0_24⟩ := bd_u8 a0_24 b0_24
  have w0_24 : IntKind.wrap .i64 x0_24 = x0_24 := w64_in (by omega) (by omega)
  have T := sm_TB ⟨l0_0, g0_0⟩ ⟨l0_1, g0_1⟩ ⟨l0_2, g0_2⟩ ⟨l0_3, g0_3⟩ ⟨l0_4, g0_4⟩ ⟨l0_5, g0_5⟩ l0_24 g0_24 ⟨l0_9, g0_9⟩ ⟨l0_10, g0_10⟩ ⟨l0_11, g0_11⟩ (c16 l0_6 g0_6 w0_6) (c16 l0_7 g0_7 w0_7) (c16 l0_8 g0_8 w0_8) (b16 l0_12 g0_12 w0_12) (b16 l0_13 g0_13 w0_13) (b16 l0_14 g0_14 w0_14) (b16 l0_15 g0_15 w0_15) (b16 l0_16 g0_16 w0_16) (b16 l0_17 g0_17 w0_17) (b16 l0_18 g0_18 w0_18) (b16 l0_19 g0_19 w0_19) (b16 l0_20 g0_20 w0_20) (b16 l0_21 g0_21 w0_21) (b16 l0_22 g0_22 w0_22) (b16 l0_23 g0_23 w0_23)
  have t9 := tri9 T
  rw [t9] at hq
  have hA := of_decide_eq_false hq
  exact ⟨fun _ => decide_eq_true (by rw [area_eq T]; omega), trivial⟩

end Go.Proofs.Ytcdejlgophpdjaa
end

