/-
  A whole function, run on the local memory: a contract of what it is handed and of the blocks behind.
-/
import Derived.Test.YtcdejlgophpdjaaVm
namespace Go.Proofs.Ytcdejlgophpdjaa.V
open Go Go.RowKit

/-! Names in what is handed back. -/
def keepC (foot : List Nat) : List (Nat × Nat) → Option (List (Nat × Nat))
  | [] => some []
  | (b, o) :: r => match idxOf b foot 0, keepC foot r with
    | some i, some l => some ((i, o) :: l)
    | _, _ => none

def keepA (foot : List Nat) : At → At
  | .ptr b o => match idxOf b foot 0 with
    | some i => .ptr i o
    | none => .unk
  | .prw s b v st e i j => match idxOf b foot 0 with
    | some c => .prw s c v st e i j
    | none => .unk
  | .slc s b v st e off len => match idxOf b foot 0 with
    | some c => .slc s c v st e off len
    | none => .unk
  | .vec b v e => match idxOf b foot 0 with
    | some c => .vec c v e
    | none => .unk
  | .fn f caps => match keepC foot caps with
    | some l => .fn f l
    | none => .unk
  | x => x

def keepL (foot : List Nat) : List At → List At
  | [] => []
  | x :: r => keepA foot x :: keepL foot r

def keepV1 (foot : List Nat) : LV → LV
  | .a x => .a (keepA foot x)
  | .g l => .g (keepL foot l)
  | _ => .u

def keepVs (foot : List Nat) : List LV → List LV
  | [] => []
  | x :: r => keepV1 foot x :: keepVs foot r

def keepV (foot : List Nat) : LV → LV
  | .t l => .t (keepVs foot l)
  | x => keepV1 foot x

def keepO (foot : List Nat) : Option At → Option At
  | some x => some (keepA foot x)
  | none => none

def outCells (μ : Mem) (foot : List Nat) (b : Nat) : Nat → Nat → List (Option At)
  | _, 0 => []
  | k, n + 1 => keepO foot (μ (b * 65536 + k)) :: outCells μ foot b (k + 1) n

def outOne (μ : Mem) (ρ : Hds) (foot : List Nat) (b : Nat) : Option BC :=
  match ρ b with
  | some h => match Nat.ble h.z 65536 with
    | true => some ⟨h, outCells μ foot b 0 h.z⟩
    | false => none
  | none => none

/-- The blocks as they are left: those that were given and are not written, are not told. -/
def outs (μ : Mem) (ρ : Hds) (foot : List Nat) (m : Nat) (W : List Nat) : List Nat → Option (List (Option BC))
  | [] => some []
  | b :: r => match outs μ ρ foot m W r with
    | none => none
    | some l => match Nat.blt b m && !memN b W with
      | true => some (none :: l)
      | false => match outOne μ ρ foot b with
        | some c => some (some c :: l)
        | none => none

def hdsW (bs : List BC) (W : List Nat) : Hds := fun b => match bs[b]? with
  | some c => match memN b W with
    | true => some c.h
    | false => some (roH c.h)
  | none => none

def cleanM (W : List Nat) (m : Nat) : List (Nat × At) → Bool
  | [] => true
  | (k, _) :: r => match memN (k / 65536) W || Nat.ble m (k / 65536) with
    | true => cleanM W m r
    | false => false

def cleanH (W : List Nat) (m : Nat) : List (Nat × Hd) → Bool
  | [] => true
  | (k, _) :: r => match memN k W || Nat.ble m k with
    | true => cleanH W m r
    | false => false

def lres1 (P : Program) (σ : Sig) (μ : Mem) (ρ : Hds) : ResultVar → Option LV
  | .tmp t => σ t
  | .cell c t => match σ c with
    | some (.a (.ptr b off)) => loadP P μ ρ t b off
    | _ => none

def lresAll (P : Program) (σ : Sig) (μ : Mem) (ρ : Hds) : List ResultVar → Option (List LV)
  | [] => some []
  | x :: r => match lres1 P σ μ ρ x, lresAll P σ μ ρ r with
    | some v, some l => some (v :: l)
    | _, _ => none

def LV.flat : LV → Bool
  | .t _ => false
  | _ => true

def allFlat : List LV → Bool
  | [] => true
  | x :: r => match x.flat with
    | true => allFlat r
    | false => false

def lres (P : Program) (σ : Sig) (μ : Mem) (ρ : Hds) (l : List ResultVar) : Option LV :=
  match lresAll P σ μ ρ l with
  | some [v] => some v
  | some vs => match allFlat vs with
    | true => some (.t vs)
    | false => none
  | none => none

def args0 : List LV → Nat → List (Nat × LV)
  | [], _ => []
  | v :: r, i => (i, v) :: args0 r (i + 1)

def refT (ρ : Hds) : LV → List Nat
  | .t l => l.flatMap (refV ρ)
  | x => refV ρ x

def refW (μ : Mem) (ρ : Hds) : List Nat → List Nat
  | [] => []
  | b :: r => (match ρ b with
    | some h => refsIn μ ρ b 0 h.z
    | none => []) ++ refW μ ρ r

/-- The ways that end. -/
def ends : List Alt → Option (List Alt)
  | [] => some []
  | a :: r => match a.x, ends r with
    | .e _, _ => none
    | _, some l => some (⟨.r, a.s, a.g, a.d, a.nx⟩ :: l)
    | _, none => none

def fin2 (m : Nat) (W : List Nat) (μ : Mem) (ρ : Hds) (v : LV) (foot : List Nat) : Option (LV × List (Option BC)) :=
  match nodupB foot, outs μ ρ foot m W foot with
  | true, some out => some (keepV foot v, out)
  | _, _ => none

def fin (P : Program) (fn : Func) (m : Nat) (W : List Nat) (σ : Sig) (μ : Mem) (ρ : Hds) : Option (LV × List (Option BC)) :=
  match lres P σ μ ρ fn.results.toList with
  | some v => fin2 m W μ ρ v (List.range m ++ (footGo μ ρ 100 (refT ρ v ++ refW μ ρ W) (List.range m).reverse).drop m)
  | none => none

/-- A whole call. W: the blocks among those given that it writes. -/
def evF (P : Program) (T : Tab) (k : Nat) (lv : List Nat) (LT : List (Nat × Sum)) (W : List Nat) (fn : Func) (c : Code) (args : List LV) (bs : List BC) : Option (List Prop × LV × List (Option BC)) :=
  match Nat.ble args.length fn.ntmps with
  | false => none
  | true => match ev P T fn.ntmps lv LT k false c 1 (look (args0 args 0)) (memOf bs) (hdsW bs W) bs.length with
    | none => none
    | some (obs, alts) => match ends alts with
      | none => none
      | some l => match insAll lv bs.length (look (args0 args 0)) (memOf bs) (hdsW bs W) [] l with
        | some [⟨_, _, _, d, _⟩] => match cleanM W bs.length d.mem && cleanH W bs.length d.hs with
          | true => match fin P fn bs.length W (filt lv (over d.tm (look (args0 args 0)))) (over d.mem (memOf bs)) (over d.hs (hdsW bs W)) with
            | some (v, out) => some (obs, v, out)
            | none => none
          | false => none
        | _ => none

def phiK (φ : Phi) (foot : List Nat) : Phi := fun i => match foot[i]? with
  | some b => φ b
  | none => none

section
variable {P : Program} {T : Tab} {w0 : World} {may : Nat → Prop} {φ : Phi} {σ : Sig} {μ : Mem} {ρ : Hds} {fr : Nat → Prop} {w : World} {foot : List Nat}

theorem keep_moves {b i : Nat} (h : idxOf b foot 0 = some i) (v : Nat) : Moves φ (phiK φ foot) b v i v := by
  intro j hj hv
  obtain ⟨_, h2⟩ := idxOf_spec h
  rw [Nat.sub_zero] at h2
  exact ⟨j, by simp [phiK, h2, hj], hv, fun e => ⟨e, rfl, rfl, rfl⟩⟩

theorem keepC_rel : ∀ {l l' : List (Nat × Nat)} {vs : List Value}, keepC foot l = some l' → All2 (prel φ) l vs → All2 (prel (phiK φ foot)) l' vs
  | [], l', vs, h, hv => by simp only [keepC, Option.some.injEq] at h; subst h; cases hv; exact .nil
  | (b, o) :: r, l', vs, h, hv => by
    unfold keepC at h
    split at h
    · rename_i i l'' h1 h2
      simp only [Option.some.injEq] at h; subst h
      cases hv with
      | cons x y => exact .cons (prel_move x (keep_moves h1 0)) (keepC_rel h2 y)
    · cases h

theorem keepA_rel {x : At} {v : Value} (h : x.rel φ v) : (keepA foot x).rel (phiK φ foot) v := by
  have hu := At.rel_one h
  cases x with
  | bool s b => exact h
  | int s k n => exact h
  | str s y => exact h
  | nil => exact h
  | nils => exact h
  | nilfn => exact h
  | unk => exact h
  | ptr b o =>
    simp only [keepA]
    split
    · rename_i i hi; exact prel_move h (keep_moves hi 0)
    · exact hu
  | prw s b ver st e p q =>
    simp only [keepA]
    split
    · rename_i i hi; exact vrel_move prwR_move h (keep_moves hi ver)
    · exact hu
  | slc s b ver st e off len =>
    simp only [keepA]
    split
    · rename_i i hi; exact vrel_move slcR_move h (keep_moves hi ver)
    · exact hu
  | vec b ver e =>
    simp only [keepA]
    split
    · rename_i i hi; exact vrel_move vecR_move h (keep_moves hi ver)
    · exact hu
  | fn f caps =>
    simp only [keepA]
    split
    · rename_i l hl
      obtain ⟨cs, e, g⟩ := h
      exact ⟨cs, e, keepC_rel hl g⟩
    · exact hu

theorem keepL_rel : ∀ {l : List At} {vs : List Value}, All2 (At.rel φ) l vs → All2 (At.rel (phiK φ foot)) (keepL foot l) vs
  | _, _, .nil => .nil
  | _, _, .cons h t => .cons (keepA_rel h) (keepL_rel t)

theorem keepV1_rel {x : LV} {v : Value} (h : x.rel1 φ v) : (keepV1 foot x).rel1 (phiK φ foot) v := by
  cases x with
  | a x => exact keepA_rel h
  | g l => obtain ⟨cs, e, k⟩ := h; exact ⟨cs, e, keepL_rel k⟩
  | t l => trivial
  | u => trivial

theorem keepVs_rel : ∀ {l : List LV} {vs : List Value}, All2 (LV.rel1 φ) l vs → All2 (LV.rel1 (phiK φ foot)) (keepVs foot l) vs
  | _, _, .nil => .nil
  | _, _, .cons h t => .cons (keepV1_rel h) (keepVs_rel t)

theorem keepV_rel {x : LV} {v : Value} (h : x.rel φ v) : (keepV foot x).rel (phiK φ foot) v := by
  cases x with
  | a x => exact keepV1_rel (x := .a x) h
  | g l => exact keepV1_rel (x := .g l) h
  | t l => obtain ⟨vs, e, k⟩ := h; exact ⟨vs, e, keepVs_rel k⟩
  | u => trivial

theorem outCells_get {b : Nat} : ∀ {n k j : Nat}, j < n → (outCells μ foot b k n)[j]? = some (keepO foot (μ (b * 65536 + (k + j))))
  | 0, k, j, h => by omega
  | n + 1, k, 0, h => by simp [outCells]
  | n + 1, k, j + 1, h => by
    simp only [outCells, List.getElem?_cons_succ]
    rw [outCells_get (by omega), show k + 1 + j = k + (j + 1) by omega]

theorem outCells_len {b : Nat} : ∀ {n k : Nat}, (outCells μ foot b k n).length = n
  | 0, k => rfl
  | n + 1, k => by simp [outCells, outCells_len]

theorem outOne_spec {b : Nat} {c : BC} (h : outOne μ ρ foot b = some c) : ρ b = some c.h ∧ c.h.z ≤ 65536 ∧ c.cs = outCells μ foot b 0 c.h.z := by
  unfold outOne at h
  split at h
  · rename_i hd hh
    split at h
    · rename_i hz
      simp only [Option.some.injEq] at h; subst h
      exact ⟨hh, Nat.le_of_ble_eq_true hz, rfl⟩
    · cases h
  · cases h

theorem outs_spec {m : Nat} {W : List Nat} : ∀ {l : List Nat} {out : List (Option BC)}, outs μ ρ foot m W l = some out → out.length = l.length ∧ ∀ (i b : Nat), l[i]? = some b →
    (b < m ∧ memN b W = false ∧ out[i]? = some none) ∨ ((m ≤ b ∨ memN b W = true) ∧ ∃ c, out[i]? = some (some c) ∧ outOne μ ρ foot b = some c)
  | [], out, h => by simp only [outs, Option.some.injEq] at h; subst h; exact ⟨rfl, fun i b hb => by simp at hb⟩
  | b0 :: r, out, h => by
    unfold outs at h
    split at h
    · cases h
    · rename_i l hl
      obtain ⟨g1, g2⟩ := outs_spec hl
      split at h
      · rename_i hc
        simp only [Option.some.injEq] at h; subst h
        refine ⟨by simp [g1], fun i b hb => ?_⟩
        cases i with
        | zero =>
          simp at hb; subst hb
          simp only [Bool.and_eq_true, Bool.not_eq_true'] at hc
          exact .inl ⟨Nat.le_of_ble_eq_true hc.1, hc.2, by simp⟩
        | succ i => simpa using g2 i b (by simpa using hb)
      · rename_i hc
        split at h
        · rename_i c h1
          simp only [Option.some.injEq] at h; subst h
          refine ⟨by simp [g1], fun i b hb => ?_⟩
          cases i with
          | zero =>
            simp at hb; subst hb
            right
            refine ⟨?_, c, by simp, h1⟩
            cases hm : memN b0 W with
            | true => exact .inr rfl
            | false =>
              left
              rw [hm] at hc
              simp only [Bool.not_false, Bool.and_true] at hc
              rcases Nat.lt_or_ge b0 m with hlt | hge
              · have : Nat.blt b0 m = true := Nat.ble_eq_true_of_le hlt
                rw [this] at hc; cases hc
              · exact hge
          | succ i => simpa using g2 i b (by simpa using hb)
        · cases h

theorem cleanM_spec {W : List Nat} {m : Nat} : ∀ {l : List (Nat × At)}, cleanM W m l = true → ∀ k x, (k, x) ∈ l → memN (k / 65536) W = true ∨ m ≤ k / 65536
  | [], _, k, x, h => by cases h
  | (k0, x0) :: r, hc, k, x, h => by
    unfold cleanM at hc
    split at hc
    · rename_i hb
      rcases List.mem_cons.1 h with e | h
      · simp only [Prod.mk.injEq] at e; obtain ⟨rfl, rfl⟩ := e
        simp only [Bool.or_eq_true] at hb
        exact hb.imp id fun e => Nat.le_of_ble_eq_true e
      · exact cleanM_spec hc k x h
    · cases hc

theorem cleanH_spec {W : List Nat} {m : Nat} : ∀ {l : List (Nat × Hd)}, cleanH W m l = true → ∀ k x, (k, x) ∈ l → memN k W = true ∨ m ≤ k
  | [], _, k, x, h => by cases h
  | (k0, x0) :: r, hc, k, x, h => by
    unfold cleanH at hc
    split at hc
    · rename_i hb
      rcases List.mem_cons.1 h with e | h
      · simp only [Prod.mk.injEq] at e; obtain ⟨rfl, rfl⟩ := e
        simp only [Bool.or_eq_true] at hb
        exact hb.imp id fun e => Nat.le_of_ble_eq_true e
      · exact cleanH_spec hc k x h
    · cases hc

def resOf (tmps : Array Value) : ResultVar → Sem Value
  | .tmp t => pure (tmps.getD t undef)
  | .cell a t => do loadVar t (← asAddr (tmps.getD a undef))

theorem lres1_run {tmps : Array Value} (hσ : TRel φ σ tmps) (hM : MR w0 may φ μ ρ fr w) {x : ResultVar} {v : LV} (h : lres1 P σ μ ρ x = some v) :
    ∃ u, (resOf tmps x).run P w = .ok u w ∧ v.rel φ u := by
  cases x with
  | tmp t => exact ⟨_, rfl, hσ _ _ h⟩
  | cell c t =>
    simp only [lres1] at h
    split at h
    · rename_i b off hb
      obtain ⟨r, o', u, hv, h1, h2⟩ := loadP_run (P := P) hM h (hσ _ _ hb)
      exact ⟨u, by simp [resOf, hv, asAddr, h1], h2⟩
    · cases h

theorem lresAll_run {tmps : Array Value} (hσ : TRel φ σ tmps) (hM : MR w0 may φ μ ρ fr w) : ∀ {l : List ResultVar} {vs : List LV}, lresAll P σ μ ρ l = some vs →
    ∃ us, (l.mapM (resOf tmps)).run P w = .ok us w ∧ All2 (LV.rel φ) vs us
  | [], vs, h => by simp only [lresAll, Option.some.injEq] at h; subst h; exact ⟨[], by simp, .nil⟩
  | x :: r, vs, h => by
    simp only [lresAll] at h
    split at h
    · rename_i v l hv hl
      simp only [Option.some.injEq] at h
      subst h
      obtain ⟨u, u1, u2⟩ := lres1_run (P := P) hσ hM hv
      obtain ⟨us, us1, us2⟩ := lresAll_run hσ hM hl
      refine ⟨u :: us, ?_, .cons u2 us2⟩
      rw [List.mapM_cons]
      simp only [Sem.run_bind, u1, us1, Result.andThen_ok]
      rfl
    · cases h

theorem allFlat_rel : ∀ {vs : List LV} {us : List Value}, allFlat vs = true → All2 (LV.rel φ) vs us → All2 (LV.rel1 φ) vs us
  | _, _, _, .nil => .nil
  | x :: r, _, h, .cons a t => by
    unfold allFlat at h
    split at h
    · rename_i hx
      refine .cons ?_ (allFlat_rel h t)
      cases x with
      | a x => exact a
      | g l => exact a
      | t l => simp [LV.flat] at hx
      | u => trivial
    · cases h

theorem lres_run {fn : Func} {tmps : Array Value} (hσ : TRel φ σ tmps) (hM : MR w0 may φ μ ρ fr w) {v : LV} (h : lres P σ μ ρ fn.results.toList = some v) :
    ∃ u, (results fn tmps).run P w = .ok u w ∧ v.rel φ u := by
  unfold lres at h
  have go : ∀ {vs : List LV}, lresAll P σ μ ρ fn.results.toList = some vs → ∃ us : List Value, (results fn tmps).run P w = .ok (if h : us.toArray.size = 1 then us.toArray[0] else .tuple us.toArray) w ∧ All2 (LV.rel φ) vs us := by
    intro vs hvs
    obtain ⟨us, u1, u2⟩ := lresAll_run (P := P) hσ hM hvs
    refine ⟨us, ?_, u2⟩
    have e : results fn tmps = (do
      let vs ← fn.results.mapM (resOf tmps)
      pure (if h : vs.size = 1 then vs[0] else .tuple vs)) := rfl
    rw [e, Array.mapM_eq_mapM_toList]
    simp only [Sem.run_bind]
    have : (List.toArray <$> (fn.results.toList.mapM (resOf tmps))).run P w = .ok us.toArray w := by
      rw [← bind_pure_comp, Sem.run_bind, u1]; rfl
    rw [this]
    rfl
  split at h
  · rename_i v' hv
    simp only [Option.some.injEq] at h
    subst h
    obtain ⟨us, u1, u2⟩ := go hv
    cases u2 with
    | cons a b => cases b; exact ⟨_, u1, by simpa using a⟩
  · rename_i vs hne hv
    split at h
    · rename_i hf
      simp only [Option.some.injEq] at h
      subst h
      obtain ⟨us, u1, u2⟩ := go hv
      have hl := u2.length
      have hn : us.toArray.size ≠ 1 := by
        intro e
        match vs, hl, hne with
        | [], hl, _ => simp at hl e; rw [← hl] at e; simp at e
        | [x], _, hne => exact hne x rfl
        | x :: y :: r, hl, _ => simp at hl e; omega
      rw [dif_neg hn] at u1
      exact ⟨_, u1, us.toArray, rfl, allFlat_rel hf u2⟩
    · cases h
  · cases h

theorem args0_look : ∀ (args : List LV) (i t : Nat) (lv : LV), look (args0 args i) t = some lv → i ≤ t ∧ args[t - i]? = some lv
  | [], i, t, lv, h => by simp [args0, look] at h
  | v :: r, i, t, lv, h => by
    simp only [args0, look] at h
    split at h
    · rename_i hb
      have := Nat.eq_of_beq_eq_true hb
      simp only [Option.some.injEq] at h; subst h; subst this; simp
    · obtain ⟨h1, h2⟩ := args0_look r (i + 1) t lv h
      refine ⟨by omega, ?_⟩
      rw [show t - i = (t - (i + 1)) + 1 by omega]; simpa using h2

/-- Names that were there are there yet. -/
theorem At.rel_back {ψ χ : Phi} {x : At} {v0 v : Value} (h0 : x.rel φ v0) (h : x.rel ψ v) (hφ : ∀ b, φ b ≠ none → χ b = ψ b) : x.rel χ v := by
  have key : ∀ {b ver : Nat} {R R' : Inf → Prop}, vrel φ b ver v0 R' → vrel ψ b ver v R → vrel χ b ver v R := by
    intro b ver R R' ⟨_, i, h1, _⟩ ⟨g0, j, g1, g2, g3⟩
    exact ⟨g0, j, by rw [hφ b (by simp [h1])]; exact g1, g2, g3⟩
  cases x with
  | bool s b => exact h
  | int s k n => exact h
  | str s y => exact h
  | nil => exact h
  | nils => exact h
  | nilfn => exact h
  | unk => exact h
  | ptr b o => exact key h0 h
  | prw s b ver st e p q => exact key h0 h
  | slc s b ver st e off len => exact key h0 h
  | vec b ver e => exact key h0 h
  | fn f caps =>
    obtain ⟨cs0, _, k0⟩ := h0
    obtain ⟨cs, e, k⟩ := h
    refine ⟨cs, e, ?_⟩
    generalize cs.toList = m at k
    generalize cs0.toList = m0 at k0
    clear e
    induction k generalizing m0 with
    | nil => exact .nil
    | cons r _ ih =>
      cases k0 with
      | cons r0 t0 =>
        refine .cons ?_ (ih _ t0)
        obtain ⟨_, i, h1, _⟩ := r0
        obtain ⟨g0, j, g1, g2, g3⟩ := r
        exact ⟨g0, j, by rw [hφ _ (by simp [h1])]; exact g1, g2, g3⟩

theorem hdsW_in {bs : List BC} {W : List Nat} {m : Nat} {out : List (Option BC)} (hm : m = bs.length) {l : List Nat} (hl : ∀ i, i < m → l[i]? = some i) (h : outs μ ρ foot m W l = some out) : hdsIn bs out = hdsW bs W := by
  obtain ⟨_, h2⟩ := outs_spec h
  funext b
  unfold hdsIn hdsW
  cases hc : bs[b]? with
  | none => rfl
  | some c =>
    have hb : b < m := by rw [hm]; exact (List.getElem?_eq_some_iff.1 hc).1
    rcases h2 b b (hl b hb) with ⟨_, g2, g3⟩ | ⟨g1, c', g2, _⟩
    · simp only [g2, g3]
    · have : memN b W = true := by
        rcases g1 with g1 | g1
        · omega
        · exact g1
      simp only [this, g2]

/-- What is left, under the names in which it is handed back. -/
theorem fin_mr {bs : List BC} {W : List Nat} {d : Pre} {nx : Nat} {out : List (Option BC)} {ψ : Phi} {w' : World} (hM0 : MR w0 may φ (memOf bs) (hdsW bs W) (fun b => bs.length ≤ b) w) (hle : φ.le ψ)
    (hM : MR w0 may ψ (over d.mem (memOf bs)) (over d.hs (hdsW bs W)) (fun b => nx ≤ b) w') (hcm : cleanM W bs.length d.mem = true) (hch : cleanH W bs.length d.hs = true)
    (hnd : nodupB foot = true) (hpre : ∀ i, i < bs.length → foot[i]? = some i) (ho : outs (over d.mem (memOf bs)) (over d.hs (hdsW bs W)) foot bs.length W foot = some out) :
    φ.le (phiK ψ foot) ∧ MR w0 may (phiK ψ foot) (memAft bs out) (hdsAft bs out) (fun b => out.length ≤ b) w' := by
  obtain ⟨hlen, hout⟩ := outs_spec ho
  have hsmall : ∀ b, φ b ≠ none → b < bs.length := fun b hb => by
    rcases Nat.lt_or_ge b bs.length with h | h
    · exact h
    · exact absurd (hM0.dom b h) hb
  have hphi : ∀ b, φ b ≠ none → phiK ψ foot b = ψ b := fun b hb => by simp [phiK, hpre b (hsmall b hb)]
  have hφ : φ.le (phiK ψ foot) := by
    intro b i hb
    rw [hphi b (by simp [hb])]; exact hle b i hb
  have get : ∀ i j, phiK ψ foot i = some j → ∃ b, foot[i]? = some b ∧ ψ b = some j := by
    intro i j h
    unfold phiK at h
    split at h
    · rename_i b hb; exact ⟨b, hb, h⟩
    · cases h
  -- what is told of a block
  have told : ∀ i c, aft bs out i = some c → (i < bs.length ∧ memN i W = false ∧ foot[i]? = some i ∧ ∃ c0, bs[i]? = some c0 ∧ c = ⟨roH c0.h, c0.cs⟩) ∨ ∃ b, foot[i]? = some b ∧ outOne (over d.mem (memOf bs)) (over d.hs (hdsW bs W)) foot b = some c := by
    intro i c h
    unfold aft at h
    split at h
    · rename_i c' hc
      simp only [Option.some.injEq] at h; subst h
      have hi : i < foot.length := by rw [← hlen]; exact (List.getElem?_eq_some_iff.1 hc).1
      have hb : foot[i]? = some foot[i] := by simp [hi]
      rcases hout i _ hb with ⟨_, _, g⟩ | ⟨_, c2, g, g'⟩
      · rw [hc] at g; cases g
      · rw [hc] at g; simp only [Option.some.injEq] at g; subst g
        exact .inr ⟨_, hb, g'⟩
    · rename_i hc
      split at h
      · rename_i c0 hc0
        simp only [Option.some.injEq] at h; subst h
        have hi : i < bs.length := (List.getElem?_eq_some_iff.1 hc0).1
        have hb := hpre i hi
        rcases hout i _ hb with ⟨_, g, _⟩ | ⟨_, c2, g, g'⟩
        · exact .inl ⟨hi, g, hb, c0, hc0, rfl⟩
        · rw [hc] at g; cases g
      · cases h
    · cases h
  -- a block that is not written
  have keepμ : ∀ i, i < bs.length → memN i W = false → ∀ k, k / 65536 = i → over d.mem (memOf bs) k = memOf bs k := by
    intro i hi hW k hk
    refine over_none fun y hy => ?_
    rcases cleanM_spec hcm k y hy with h | h
    · rw [hk, hW] at h; cases h
    · omega
  have keepρ : ∀ i, i < bs.length → memN i W = false → over d.hs (hdsW bs W) i = hdsW bs W i := by
    intro i hi hW
    refine over_none fun y hy => ?_
    rcases cleanH_spec hch i y hy with h | h
    · rw [hW] at h; cases h
    · omega
  have hdr : ∀ i h, hdsAft bs out i = some h → ∃ b, foot[i]? = some b ∧ over d.hs (hdsW bs W) b = some h := by
    intro i h hh
    unfold hdsAft at hh
    split at hh
    · rename_i c hc
      simp only [Option.some.injEq] at hh; subst hh
      rcases told i c hc with ⟨h1, h2, h3, c0, h4, rfl⟩ | ⟨b, h1, h2⟩
      · refine ⟨i, h3, ?_⟩
        rw [keepρ i h1 h2]; simp [hdsW, h4, h2]
      · exact ⟨b, h1, (outOne_spec h2).1⟩
    · cases hh
  have cell : ∀ k x, memAft bs out k = some x → x = .unk ∨ ∃ b x0, foot[k / 65536]? = some b ∧ over d.mem (memOf bs) (b * 65536 + k % 65536) = some x0 ∧ (x0 = .unk → x = .unk) ∧ ∀ v, x0.rel ψ v → x.rel (phiK ψ foot) v := by
    intro k x hx
    unfold memAft at hx
    split at hx
    · rename_i c hc
      have hz : k % 65536 < 65536 := Nat.mod_lt _ (by decide)
      rcases told _ c hc with ⟨h1, h2, h3, c0, h4, rfl⟩ | ⟨b, h1, h2⟩
      · have hk : memOf bs k = some x := by simp only [memOf, h4]; exact hx
        rcases hM0.cell k x hk with e | ⟨i, _, _, _, r, o, arr, ty, fz, v0, _, _, _, hr⟩
        · exact .inl e
        · refine .inr ⟨_, x, h3, ?_, id, fun v hv => At.rel_back hr hv hphi⟩
          rw [show k / 65536 * 65536 + k % 65536 = k by omega, keepμ _ h1 h2 k rfl]; exact hk
      · obtain ⟨_, g2, g3⟩ := outOne_spec h2
        unfold cellOf at hx
        split at hx
        · rename_i y hy
          simp only [Option.some.injEq] at hx; subst hx
          have hk : k % 65536 < c.h.z := by
            have := (List.getElem?_eq_some_iff.1 hy).1
            rw [g3, outCells_len] at this; exact this
          rw [g3, outCells_get hk, Nat.zero_add] at hy
          simp only [Option.some.injEq] at hy
          cases hm : over d.mem (memOf bs) (b * 65536 + k % 65536) with
          | none => rw [hm] at hy; simp [keepO] at hy
          | some x0 =>
            rw [hm] at hy; simp only [keepO, Option.some.injEq] at hy
            subst hy
            exact .inr ⟨b, x0, h1, hm, fun e => by subst e; rfl, fun v hv => keepA_rel hv⟩
        · cases hx
    · cases hx
  refine ⟨hφ, ?_⟩
  constructor
  · intro k x hx
    rcases cell k x hx with e | ⟨b, x0, h1, h2, h3, h4⟩
    · exact .inl e
    · have hz : k % 65536 < 65536 := Nat.mod_lt _ (by decide)
      rcases hM.cell _ x0 h2 with e | ⟨j, g1, g2, g3, r, o', arr, ty, fz, v, g4, g5, g6, g7⟩
      · exact .inl (h3 e)
      · rw [key_div _ _ hz] at g1
        rw [key_mod _ _ hz] at g3 g6
        exact .inr ⟨j, by simp [phiK, h1, g1], g2, g3, r, o', arr, ty, fz, v, g4, g5, g6, h4 v g7⟩
  · intro i h hh
    obtain ⟨b, h1, h2⟩ := hdr i h hh
    obtain ⟨j, g1, g2⟩ := hM.hdr b h h2
    exact ⟨j, by simp [phiK, h1, g1], g2⟩
  · intro k x h hx hne hh
    rcases cell k x hx with e | ⟨b, x0, h1, h2, h3, h4⟩
    · exact absurd e hne
    · obtain ⟨b', g1, g2⟩ := hdr _ h hh
      rw [h1] at g1; simp only [Option.some.injEq] at g1; subst g1
      have hz : k % 65536 < 65536 := Nat.mod_lt _ (by decide)
      have := hM.apart _ x0 h h2 (fun e => hne (h3 e)) (by rw [key_div _ _ hz]; exact g2)
      rw [key_mod _ _ hz] at this
      exact this
  · intro i i' j j' r o' o'' hi hi' ha ha'
    obtain ⟨b, h1, h2⟩ := get i j hi
    obtain ⟨b', h3, h4⟩ := get i' j' hi'
    rcases hM.inj b b' j j' r o' o'' h2 h4 ha ha' with e | e
    · subst e; exact .inl (nodupB_spec hnd h1 h3)
    · exact .inr e
  · intro i j r o' hi ha hro
    obtain ⟨b, h1, h2⟩ := get i j hi
    exact hM.own b j r o' h2 ha hro
  · intro i j r o' hi ha hro
    obtain ⟨b, h1, h2⟩ := get i j hi
    exact hM.keep b j r o' h2 ha hro
  · intro i hi
    have hi : out.length ≤ i := hi
    have : foot[i]? = none := by simp; omega
    simp [phiK, this]
  · intro i j r o' hi ha
    obtain ⟨b, h1, h2⟩ := get i j hi
    exact hM.big b j r o' h2 ha
  · exact hM.os
  · exact hM.tape
  · exact hM.output
  · exact hM.size
  · exact hM.block
  · exact hM.frz

theorem ends_spec : ∀ {l r : List Alt}, ends l = some r → (∀ α ∈ l, ∀ id, α.x ≠ .e id) ∧ ∀ β, β ∈ r ↔ ∃ α ∈ l, β = ⟨.r, α.s, α.g, α.d, α.nx⟩
  | [], r, h => by simp only [ends, Option.some.injEq] at h; subst h; simp
  | a :: l, r, h => by
    unfold ends at h
    split at h
    · cases h
    · rename_i r' hr hne
      simp only [Option.some.injEq] at h; subst h
      obtain ⟨g1, g2⟩ := ends_spec hr
      refine ⟨fun α hα id => ?_, fun β => ?_⟩
      · rcases List.mem_cons.1 hα with rfl | hα
        · exact fun e => hne id e
        · exact g1 α hα id
      · simp only [List.mem_cons, g2, exists_eq_or_imp]
    · cases h

theorem evF_wp (hT : TOK P T) (hF : P.follows .mixedOrders = true) {k f : Nat} {lvs : List Nat} {LT : List (Nat × Sum)} {W : List Nat} {fn : Func} {c : Code} {args : List LV} {bs : List BC} {obs : List Prop} {lv : LV} {out : List (Option BC)} (hf : P.funcs[f]? = some fn) (hb : fn.body = some c)
    (hL : LOK P fn.ntmps lvs LT c 1) (h : evF P T k lvs LT W fn c args bs = some (obs, lv, out)) (ho : Alls obs) (φ : Phi) (vs : Array Value) (w : World) (may : Nat → Prop) (ha : All2 (LV.rel φ) args vs.toList)
    (hM : MR w may φ (memOf bs) (hdsIn bs out) (fun b => bs.length ≤ b) w) :
    Calls P f vs w fun e w' => ∃ v' φ', e = .returned v' ∧ φ.le φ' ∧ lv.rel φ' v' ∧ MR w may φ' (memAft bs out) (hdsAft bs out) (fun b => out.length ≤ b) w' := by
  unfold evF at h
  split at h
  · cases h
  rename_i hn
  have hlen := ha.length
  have hle : args.length ≤ fn.ntmps := Nat.le_of_ble_eq_true hn
  have hsz : vs.size = args.length := by simpa using hlen.symm
  split at h
  · cases h
  rename_i obs' alts he
  split at h
  · cases h
  rename_i l hl
  split at h
  case h_2 => cases h
  rename_i x s g d nx hi
  split at h
  case h_2 => cases h
  rename_i hcl
  simp only [Bool.and_eq_true] at hcl
  split at h
  case h_2 => cases h
  rename_i v' out' hfin
  simp only [Option.some.injEq, Prod.mk.injEq] at h
  obtain ⟨rfl, rfl, rfl⟩ := h
  unfold fin at hfin
  split at hfin
  case h_2 => cases hfin
  rename_i v hv
  unfold fin2 at hfin
  split at hfin
  case h_2 => cases hfin
  rename_i out2 hnd hout
  simp only [Option.some.injEq, Prod.mk.injEq] at hfin
  obtain ⟨rfl, rfl⟩ := hfin
  have hpre : ∀ i, i < bs.length → (List.range bs.length ++ (footGo (over d.mem (memOf bs)) (over d.hs (hdsW bs W)) 100 (refT (over d.hs (hdsW bs W)) v ++ refW (over d.mem (memOf bs)) (over d.hs (hdsW bs W)) W) (List.range bs.length).reverse).drop bs.length)[i]? = some i := by
    intro i hi
    rw [List.getElem?_append_left (by simpa using hi)]
    simp [hi]
  have hin := hdsW_in (bs := bs) rfl hpre hout
  rw [hin] at hM
  refine calls_of_wp hf hb ?_
  have s0 : SR fn.ntmps lvs w may φ (look (args0 args 0)) (memOf bs) (hdsW bs W) bs.length { tmps := vs ++ Array.replicate (fn.ntmps - vs.size) undef, defers := [] } w := by
    refine ⟨?_, by simp; omega, rfl, hM⟩
    intro t lv' hl
    unfold filt at hl
    split at hl
    · obtain ⟨_, h2⟩ := args0_look args 0 t lv' hl
      simp only [Nat.sub_zero] at h2
      obtain ⟨u, hu, hr⟩ := ha.get h2
      have hu' : vs[t]? = some u := by simpa using hu
      have ht : t < vs.size := (Array.getElem?_eq_some_iff.1 hu').1
      rw [Array.getD_eq_getD_getElem?, Array.getElem?_append_left ht, hu']
      exact hr
    · cases hl
  obtain ⟨hf1, hf2⟩ := s0.fresh
  obtain ⟨e1, e2⟩ := ends_spec hl
  have key := ev_wp hT hF k false c 1 _ _ _ _ he hL ho w may φ _ w s0 (bodyPost P fn fun e w' => ∃ v' φ', e = .returned v' ∧ φ.le φ' ∧ (keepV _ v).rel φ' v' ∧ MR w may φ' (memAft bs out2) (hdsAft bs out2) (fun b => out2.length ≤ b) w') fun x a' w' hg => by
    have hx : ∀ id, x ≠ .e id := by
      intro id hx
      obtain ⟨α, hα, hon⟩ := hg.1
      exact e1 α hα id (hon.1.trans hx)
    have key : ∀ α, On fn.ntmps lvs w may φ (look (args0 args 0)) (memOf bs) (hdsW bs W) x a' w' α → On fn.ntmps lvs w may φ (look (args0 args 0)) (memOf bs) (hdsW bs W) .r a' w' ⟨.r, α.s, α.g, α.d, α.nx⟩ := fun α hon => ⟨rfl, hon.2⟩
    obtain ⟨g1, g2⟩ := insAll_on hf1 hf2 (φ := φ) (x := .r) (a' := a') (w' := w') (w0 := w) (may := may) (n := fn.ntmps) hi (fun α hα => by cases hα) (fun β hβ => by
      obtain ⟨α, hα, rfl⟩ := (e2 β).1 hβ
      exact (hg.2 α hα).imp (key α) id)
    obtain ⟨β, hβ, hon⟩ := g2 (.inr (by
      obtain ⟨α, hα, hon⟩ := hg.1
      exact ⟨_, (e2 _).2 ⟨α, hα, rfl⟩, key α hon⟩))
    rw [List.mem_singleton] at hβ
    subst hβ
    obtain ⟨_, _, ψ, hψ, hs⟩ := hon
    obtain ⟨u, u1, u2⟩ := lres_run (P := P) (fn := fn) hs.tr hs.mr hv
    obtain ⟨f1, f2⟩ := fin_mr hM hψ hs.mr hcl.1 hcl.2 hnd hpre hout
    have hp : a'.defers = [] ∧ ∃ v', (results fn a'.tmps).run P w' = .ok v' w' ∧ ∃ v'' φ', Ending.returned v' = .returned v'' ∧ φ.le φ' ∧ (keepV _ v).rel φ' v'' ∧ MR w may φ' (memAft bs out2) (hdsAft bs out2) (fun b => out2.length ≤ b) w' :=
      ⟨hs.df, u, u1, u, _, rfl, f1, keepV_rel u2, f2⟩
    cases x with
    | n => exact hp
    | r => exact hp
    | e id => exact absurd rfl (hx id)
  simpa using key

end

/-- A call by the function's number. -/
def evG (P : Program) (T : Tab) (k f : Nat) (lv : List Nat) (LT : List (Nat × Sum)) (W : List Nat) (args : List LV) (bs : List BC) : Option (List Prop × LV × List (Option BC)) :=
  match P.funcs[f]? with
  | some fn => match fn.body with
    | some c => evF P T k lv LT W fn c args bs
    | none => none
  | none => none

theorem evG_ok {P : Program} {T : Tab} (hT : TOK P T) (hF : P.follows .mixedOrders = true) {k f : Nat} {lv : List Nat} {W : List Nat} : ConOK P f (evG P T k f lv [] W) := by
  intro args bs obs v out h ho φ vs w may ha hM
  unfold evG at h
  split at h
  · rename_i fn hf
    split at h
    · rename_i c hb
      exact evF_wp hT hF hf hb (LOK_nil c 1) h ho φ vs w may ha hM
    · cases h
  · cases h

theorem evG_okL {P : Program} {T : Tab} (hT : TOK P T) (hF : P.follows .mixedOrders = true) {k f : Nat} {lv : List Nat} {W : List Nat} {LT : List (Nat × Sum)} (hL : ∀ fn c, P.funcs[f]? = some fn → fn.body = some c → LOK P fn.ntmps lv LT c 1) : ConOK P f (evG P T k f lv LT W) := by
  intro args bs obs v out h ho φ vs w may ha hM
  unfold evG at h
  split at h
  · rename_i fn hf
    split at h
    · rename_i c hb
      exact evF_wp hT hF hf hb (hL fn c hf hb) h ho φ vs w may ha hM
    · cases h
  · cases h

end Go.Proofs.Ytcdejlgophpdjaa.V
