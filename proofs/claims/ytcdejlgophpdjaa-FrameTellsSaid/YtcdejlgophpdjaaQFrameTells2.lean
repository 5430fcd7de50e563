/-
  A whole function, run on the local memory: a contract of what it is handed and of the blocks behind.
-/
import Derived.ProofKit
import Derived.OpenShut
import Derived.Carry
import Derived.Deep.Slices
import Derived.Test.YtcdejlgophpdjaaRows
import Derived.Test.YtcdejlgophpdjaaQFrameTells1
section
namespace Go.Proofs.Ytcdejlgophpdjaa.V
open Go Go.RowKit

/-! Names in what is handed back. -/
def keepC (foot : List Nat) : List (Nat × Nat) → Option (List (Nat × Nat))
  | [] => some []
  | (b, o) :: r => match idxOf b foot 0, keepC foot r with
    | some i, some l => some ((i, o) :: l)
    | _, _ => none

def keepA (foot : List Nat) : At → At
  | .ptr b o => match idxOf b foot 0 with
    | some i => .ptr i o
    | none => .unk
  | .prw s b v st e i j => match idxOf b foot 0 with
    | some c => .prw s c v st e i j
    | none => .unk
  | .slc s b v st e off len => match idxOf b foot 0 with
    | some c => .slc s c v st e off len
    | none => .unk
  | .vec b v e => match idxOf b foot 0 with
    | some c => .vec c v e
    | none => .unk
  | .fn f caps => match keepC foot caps with
    | some l => .fn f l
    | none => .unk
  | x => x

def keepL (foot : List Nat) : List At → List At
  | [] => []
  | x :: r => keepA foot x :: keepL foot r

def keepV1 (foot : List Nat) : LV → LV
  | .a x => .a (keepA foot x)
  | .g l => .g (keepL foot l)
  | _ => .u

def keepVs (foot : List Nat) : List LV → List LV
  | [] => []
  | x :: r => keepV1 foot x :: keepVs foot r

def keepV (foot : List Nat) : LV → LV
  | .t l => .t (keepVs foot l)
  | x => keepV1 foot x

def keepO (foot : List Nat) : Option At → Option At
  | some x => some (keepA foot x)
  | none => none

def outCells (μ : Mem) (foot : List Nat) (b : Nat) : Nat → Nat → List (Option At)
  | _, 0 => []
  | k, n + 1 => keepO foot (μ (b * 65536 + k)) :: outCells μ foot b (k + 1) n

def outOne (μ : Mem) (ρ : Hds) (foot : List Nat) (b : Nat) : Option BC :=
  match ρ b with
  | some h => match Nat.ble h.z 65536 with
    | true => some ⟨h, outCells μ foot b 0 h.z⟩
    | false => none
  | none => none

/-- The blocks as they are left: those that were given and are not written, are not told. -/
def outs (μ : Mem) (ρ : Hds) (foot : List Nat) (m : Nat) (W : List Nat) : List Nat → Option (List (Option BC))
  | [] => some []
  | b :: r => match outs μ ρ foot m W r with
    | none => none
    | some l => match Nat.blt b m && !memN b W with
      | true => some (none :: l)
      | false => match outOne μ ρ foot b with
        | some c => some (some c :: l)
        | none => none

def hdsW (bs : List BC) (W : List Nat) : Hds := fun b => match bs[b]? with
  | some c => match memN b W with
    | true => some c.h
    | false => some (roH c.h)
  | none => none

def cleanM (W : List Nat) (m : Nat) : List (Nat × At) → Bool
  | [] => true
  | (k, _) :: r => match memN (k / 65536) W || Nat.ble m (k / 65536) with
    | true => cleanM W m r
    | false => false

def cleanH (W : List Nat) (m : Nat) : List (Nat × Hd) → Bool
  | [] => true
  | (k, _) :: r => match memN k W || Nat.ble m k with
    | true => cleanH W m r
    | false => false

def lres1 (P : Program) (σ : Sig) (μ : Mem) (ρ : Hds) : ResultVar → Option LV
  | .tmp t => σ t
  | .cell c t => match σ c with
    | some (.a (.ptr b off)) => loadP P μ ρ t b off
    | _ => none

def lresAll (P : Program) (σ : Sig) (μ : Mem) (ρ : Hds) : List ResultVar → Option (List LV)
  | [] => some []
  | x :: r => match lres1 P σ μ ρ x, lresAll P σ μ ρ r with
    | some v, some l => some (v :: l)
    | _, _ => none

def LV.flat : LV → Bool
  | .t _ => false
  | _ => true

def allFlat : List LV → Bool
  | [] => true
  | x :: r => match x.flat with
    | true => allFlat r
    | false => false

def lres (P : Program) (σ : Sig) (μ : Mem) (ρ : Hds) (l : List ResultVar) : Option LV :=
  match lresAll P σ μ ρ l with
  | some [v] => some v
  | some vs => match allFlat vs with
    | true => some (.t vs)
    | false => none
  | none => none

def args0 : List LV → Nat → List (Nat × LV)
  | [], _ => []
  | v :: r, i => (i, v) :: args0 r (i + 1)

def refT (ρ : Hds) : LV → List Nat
  | .t l => l.flatMap (refV ρ)
  | x => refV ρ x

def refW (μ : Mem) (ρ : Hds) : List Nat → List Nat
  | [] => []
  | b :: r => (match ρ b with
    | some h => refsIn μ ρ b 0 h.z
    | none => []) ++ refW μ ρ r

/-- The ways that end. -/
def ends : List Alt → Option (List Alt)
  | [] => some []
  | a :: r => match a.x, ends r with
    | .e _, _ => none
    | _, some l => some (⟨.r, a.s, a.g, a.d, a.nx⟩ :: l)
    | _, none => none

def fin2 (m : Nat) (W : List Nat) (μ : Mem) (ρ : Hds) (v : LV) (foot : List Nat) : Option (LV × List (Option BC)) :=
  match nodupB foot, outs μ ρ foot m W foot with
  | true, some out => some (keepV foot v, out)
  | _, _ => none

def fin (P : Program) (fn : Func) (m : Nat) (W : List Nat) (σ : Sig) (μ : Mem) (ρ : Hds) : Option (LV × List (Option BC)) :=
  match lres P σ μ ρ fn.results.toList with
  | some v => fin2 m W μ ρ v (List.range m ++ (footGo μ ρ 100 (refT ρ v ++ refW μ ρ W) (List.range m).reverse).drop m)
  | none => none

/-- A whole call. W: the blocks among those given that it writes. -/
def evF (P : Program) (T : Tab) (k : Nat) (lv : List Nat) (LT : List (Nat × Sum)) (W : List Nat) (fn : Func) (c : Code) (args : List LV) (bs : List BC) : Option (List Prop × LV × List (Option BC)) :=
  match Nat.ble args.length fn.ntmps with
  | false => none
  | true => match ev P T fn.ntmps lv LT k false c 1 (look (args0 args 0)) (memOf bs) (hdsW bs W) bs.length with
    | none => none
    | some (obs, alts) => match ends alts with
      | none => none
      | some l => match insAll lv bs.length (look (args0 args 0)) (memOf bs) (hdsW bs W) [] l with
        | some [⟨_, _, _, d, _⟩] => match cleanM W bs.length d.mem && cleanH W bs.length d.hs with
          | true => match fin P fn bs.length W (filt lv (over d.tm (look (args0 args 0)))) (over d.mem (memOf bs)) (over d.hs (hdsW bs W)) with
            | some (v, out) => some (obs, v, out)
            | none => none
          | false => none
        | _ => none

def phiK (φ : Phi) (foot : List Nat) : Phi := fun i => match foot[i]? with
  | some b => φ b
  | none => none

section
variable {P : Program} {T : Tab} {w0 : World} {may : Nat → Prop} {φ : Phi} {σ : Sig} {μ : Mem} {ρ : Hds} {fr : Nat → Prop} {w : World} {foot : List Nat}

theorem keep_moves {b i : Nat} (h : idxOf b foot 0 = some i) (v : Nat) : Moves φ (phiK φ foot) b v i v := by
  intro j hj hv
  obtain ⟨_, h2⟩ := idxOf_spec h
  rw [Nat.sub_zero] at h2
  exact ⟨j, by simp [phiK, h2, hj], hv, fun e => ⟨e, rfl, rfl, rfl⟩⟩

theorem keepC_rel : ∀ {l l' : List (Nat × Nat)} {vs : List Value}, keepC foot l = some l' → All2 (prel φ) l vs → All2 (prel (phiK φ foot)) l' vs
  | [], l', vs, h, hv => by simp only [keepC, Option.some.injEq] at h; subst h; cases hv; exact .nil
  | (b, o) :: r, l', vs, h, hv => by
    unfold keepC at h
    split at h
    · rename_i i l'' h1 h2
      simp only [Option.some.injEq] at h; subst h
      cases hv with
      | cons x y => exact .cons (prel_move x (keep_moves h1 0)) (keepC_rel h2 y)
    · cases h

theorem keepA_rel {x : At} {v : Value} (h : x.rel φ v) : (keepA foot x).rel (phiK φ foot) v := by
  have hu := At.rel_one h
  cases x with
  | bool s b => exact h
  | int s k n => exact h
  | str s y => exact h
  | nil => exact h
  | nils => exact h
  | nilfn => exact h
  | unk => exact h
  | ptr b o =>
    simp only [keepA]
    split
    · rename_i i hi; exact prel_move h (keep_moves hi 0)
    · exact hu
  | prw s b ver st e p q =>
    simp only [keepA]
    split
    · rename_i i hi; exact vrel_move prwR_move h (keep_moves hi ver)
    · exact hu
  | slc s b ver st e off len =>
    simp only [keepA]
    split
    · rename_i i hi; exact vrel_move slcR_move h (keep_moves hi ver)
    · exact hu
  | vec b ver e =>
    simp only [keepA]
    split
    · rename_i i hi; exact vrel_move vecR_move h (keep_moves hi ver)
    · exact hu
  | fn f caps =>
    simp only [keepA]
    split
    · rename_i l hl
      obtain ⟨cs, e, g⟩ := h
      exact ⟨cs, e, keepC_rel hl g⟩
    · exact hu

theorem keepL_rel : ∀ {l : List At} {vs : List Value}, All2 (At.rel φ) l vs → All2 (At.rel (phiK φ foot)) (keepL foot l) vs
  | _, _, .nil => .nil
  | _, _, .cons h t => .cons (keepA_rel h) (keepL_rel t)

theorem keepV1_rel {x : LV} {v : Value} (h : x.rel1 φ v) : (keepV1 foot x).rel1 (phiK φ foot) v := by
  cases x with
  | a x => exact keepA_rel h
  | g l => obtain ⟨cs, e, k⟩ := h; exact ⟨cs, e, keepL_rel k⟩
  | t l => trivial
  | u => trivial

theorem keepVs_rel : ∀ {l : List LV} {vs : List Value}, All2 (LV.rel1 φ) l vs → All2 (LV.rel1 (phiK φ foot)) (keepVs foot l) vs
  | _, _, .nil => .nil
  | _, _, .cons h t => .cons (keepV1_rel h) (keepVs_rel t)

theorem keepV_rel {x : LV} {v : Value} (h : x.rel φ v) : (keepV foot x).rel (phiK φ foot) v := by
  cases x with
  | a x => exact keepV1_rel (x := .a x) h
  | g l => exact keepV1_rel (x := .g l) h
  | t l => obtain ⟨vs, e, k⟩ := h; exact ⟨vs, e, keepVs_rel k⟩
  | u => trivial

theorem outCells_get {b : Nat} : ∀ {n k j : Nat}, j < n → (outCells μ foot b k n)[j]? = some (keepO foot (μ (b * 65536 + (k + j))))
  | 0, k, j, h => by omega
  | n + 1, k, 0, h => by simp [outCells]
  | n + 1, k, j + 1, h => by
    simp only [outCells, List.getElem?_cons_succ]
    rw [outCells_get (by omega), show k + 1 + j = k + (j + 1) by omega]

theorem outCells_len {b : Nat} : ∀ {n k : Nat}, (outCells μ foot b k n).length = n
  | 0, k => rfl
  | n + 1, k => by simp [outCells, outCells_len]

theorem outOne_spec {b : Nat} {c : BC} (h : outOne μ ρ foot b = some c) : ρ b = some c.h ∧ c.h.z ≤ 65536 ∧ c.cs = outCells μ foot b 0 c.h.z := by
  unfold outOne at h
  split at h
  · rename_i hd hh
    split at h
    · rename_i hz
      simp only [Option.some.injEq] at h; subst h
      exact ⟨hh, Nat.le_of_ble_eq_true hz, rfl⟩
    · cases h
  · cases h

theorem outs_spec {m : Nat} {W : List Nat} : ∀ {l : List Nat} {out : List (Option BC)}, outs μ ρ foot m W l = some out → out.length = l.length ∧ ∀ (i b : Nat), l[i]? = some b →
    (b < m ∧ memN b W = false ∧ out[i]? = some none) ∨ ((m ≤ b ∨ memN b W = true) ∧ ∃ c, out[i]? = some (some c) ∧ outOne μ ρ foot b = some c)
  | [], out, h => by simp only [outs, Option.some.injEq] at h; subst h; exact ⟨rfl, fun i b hb => by simp at hb⟩
  | b0 :: r, out, h => by
    unfold outs at h
    split at h
    · cases h
    · rename_i l hl
      obtain ⟨g1, g2⟩ := outs_spec hl
      split at h
      · rename_i hc
        simp only [Option.some.injEq] at h; subst h
        refine ⟨by simp [g1], fun i b hb => ?_⟩
        cases i with
        | zero =>
          simp at hb; subst hb
          simp only [Bool.and_eq_true, Bool.not_eq_true'] at hc
          exact .inl ⟨Nat.le_of_ble_eq_true hc.1, hc.2, by simp⟩
        | succ i => simpa using g2 i b (by simpa using hb)
      · rename_i hc
        split at h
        · rename_i c h1
          simp only [Option.some.injEq] at h; subst h
          refine ⟨by simp [g1], fun i b hb => ?_⟩
          cases i with
          | zero =>
            simp at hb; subst hb
            right
            refine ⟨?_, c, by simp, h1⟩
            cases hm : memN b0 W with
            | true => exact .inr rfl
            | false =>
              left
              rw [hm] at hc
              simp only [Bool.not_false, Bool.and_true] at hc
              rcases Nat.lt_or_ge b0 m with hlt | hge
              · have : Nat.blt b0 m = true := Nat.ble_eq_true_of_le hlt
                rw [this] at hc; cases hc
              · exact hge
          | succ i => simpa using g2 i b (by simpa using hb)
        · cases h

theorem cleanM_spec {W : List Nat} {m : Nat} : ∀ {l : List (Nat × At)}, cleanM W m l = true → ∀ k x, (k, x) ∈ l → memN (k / 65536) W = true ∨ m ≤ k / 65536
  | [], _, k, x, h => by cases h
  | (k0, x0) :: r, hc, k, x, h => by
    unfold cleanM at hc
    split at hc
    · rename_i hb
      rcases List.mem_cons.1 h with e | h
      · simp only [Prod.mk.injEq] at e; obtain ⟨rfl, rfl⟩ := e
        simp only [Bool.or_eq_true] at hb
        exact hb.imp id fun e => Nat.le_of_ble_eq_true e
      · exact cleanM_spec hc k x h
    · cases hc

theorem cleanH_spec {W : List Nat} {m : Nat} : ∀ {l : List (Nat × Hd)}, cleanH W m l = true → ∀ k x, (k, x) ∈ l → memN k W = true ∨ m ≤ k
  | [], _, k, x, h => by cases h
  | (k0, x0) :: r, hc, k, x, h => by
    unfold cleanH at hc
    split at hc
    · rename_i hb
      rcases List.mem_cons.1 h with e | h
      · simp only [Prod.mk.injEq] at e; obtain ⟨rfl, rfl⟩ := e
        simp only [Bool.or_eq_true] at hb
        exact hb.imp id fun e => Nat.le_of_ble_eq_true e
      · exact cleanH_spec hc k x h
    · cases hc

def resOf (tmps : Array Value) : ResultVar → Sem Value
  | .tmp t => pure (tmps.getD t undef)
  | .cell a t => do loadVar t (← asAddr (tmps.getD a undef))

theorem lres1_run {tmps : Array Value} (hσ : TRel φ σ tmps) (hM : MR w0 may φ μ ρ fr w) {x : ResultVar} {v : LV} (h : lres1 P σ μ ρ x = some v) :
    ∃ u, (resOf tmps x).run P w = .ok u w ∧ v.rel φ u := by
  cases x with
  | tmp t => exact ⟨_, rfl, hσ _ _ h⟩
  | cell c t =>
    simp only [lres1] at h
    split at h
    · rename_i b off hb
      obtain ⟨r, o', u, hv, h1, h2⟩ := loadP_run (P := P) hM h (hσ _ _ hb)
      exact ⟨u, by simp [resOf, hv, asAddr, h1], h2⟩
    · cases h

theorem lresAll_run {tmps : Array Value} (hσ : TRel φ σ tmps) (hM : MR w0 may φ μ ρ fr w) : ∀ {l : List ResultVar} {vs : List LV}, lresAll P σ μ ρ l = some vs →
    ∃ us, (l.mapM (resOf tmps)).run P w = .ok us w ∧ All2 (LV.rel φ) vs us
  | [], vs, h => by simp only [lresAll, Option.some.injEq] at h; subst h; exact ⟨[], by simp, .nil⟩
  | x :: r, vs, h => by
    simp only [lresAll] at h
    split at h
    · rename_i v l hv hl
      simp only [Option.some.injEq] at h
      subst h
      obtain ⟨u, u1, u2⟩ := lres1_run (P := P) hσ hM hv
      obtain ⟨us, us1, us2⟩ := lresAll_run hσ hM hl
      refine ⟨u :: us, ?_, .cons u2 us2⟩
      rw [List.mapM_cons]
      simp only [Sem.run_bind, u1, us1, Result.andThen_ok]
      rfl
    · cases h

theorem allFlat_rel : ∀ {vs : List LV} {us : List Value}, allFlat vs = true → All2 (LV.rel φ) vs us → All2 (LV.rel1 φ) vs us
  | _, _, _, .nil => .nil
  | x :: r, _, h, .cons a t => by
    unfold allFlat at h
    split at h
    · rename_i hx
      refine .cons ?_ (allFlat_rel h t)
      cases x with
      | a x => exact a
      | g l => exact a
      | t l => simp [LV.flat] at hx
      | u => trivial
    · cases h

theorem lres_run {fn : Func} {tmps : Array Value} (hσ : TRel φ σ tmps) (hM : MR w0 may φ μ ρ fr w) {v : LV} (h : lres P σ μ ρ fn.results.toList = some v) :
    ∃ u, (results fn tmps).run P w = .ok u w ∧ v.rel φ u := by
  unfold lres at h
  have go : ∀ {vs : List LV}, lresAll P σ μ ρ fn.results.toList = some vs → ∃ us : List Value, (results fn tmps).run P w = .ok (if h : us.toArray.size = 1 then us.toArray[0] else .tuple us.toArray) w ∧ All2 (LV.rel φ) vs us := by
    intro vs hvs
    obtain ⟨us, u1, u2⟩ := lresAll_run (P := P) hσ hM hvs
    refine ⟨us, ?_, u2⟩
    have e : results fn tmps = (do
      let vs ← fn.results.mapM (resOf tmps)
      pure (if h : vs.size = 1 then vs[0] else .tuple vs)) := rfl
    rw [e, Array.mapM_eq_mapM_toList]
    simp only [Sem.run_bind]
    have : (List.toArray <$> (fn.results.toList.mapM (resOf tmps))).run P w = .ok us.toArray w := by
      rw [← bind_pure_comp, Sem.run_bind, u1]; rfl
    rw [this]
    rfl
  split at h
  · rename_i v' hv
    simp only [Option.some.injEq] at h
    subst h
    obtain ⟨us, u1, u2⟩ := go hv
    cases u2 with
    | cons a b => cases b; exact ⟨_, u1, by simpa using a⟩
  · rename_i vs hne hv
    split at h
    · rename_i hf
      simp only [Option.some.injEq] at h
      subst h
      obtain ⟨us, u1, u2⟩ := go hv
      have hl := u2.length
      have hn : us.toArray.size ≠ 1 := by
        intro e
        match vs, hl, hne with
        | [], hl, _ => simp at hl e; rw [← hl] at e; simp at e
        | [x], _, hne => exact hne x rfl
        | x :: y :: r, hl, _ => simp at hl e; omega
      rw [dif_neg hn] at u1
      exact ⟨_, u1, us.toArray, rfl, allFlat_rel hf u2⟩
    · cases h
  · cases h

theorem args0_look : ∀ (args : List LV) (i t : Nat) (lv : LV), look (args0 args i) t = some lv → i ≤ t ∧ args[t - i]? = some lv
  | [], i, t, lv, h => by simp [args0, look] at h
  | v :: r, i, t, lv, h => by
    simp only [args0, look] at h
    split at h
    · rename_i hb
      have := Nat.eq_of_beq_eq_true hb
      simp only [Option.some.injEq] at h; subst h; subst this; simp
    · obtain ⟨h1, h2⟩ := args0_look r (i + 1) t lv h
      refine ⟨by omega, ?_⟩
      rw [show t - i = (t - (i + 1)) + 1 by omega]; simpa using h2

/-- Names that were there are there yet. -/
theorem At.rel_back {ψ χ : Phi} {x : At} {v0 v : Value} (h0 : x.rel φ v0) (h : x.rel ψ v) (hφ : ∀ b, φ b ≠ none → χ b = ψ b) : x.rel χ v := by
  have key : ∀ {b ver : Nat} {R R' : Inf → Prop}, vrel φ b ver v0 R' → vrel ψ b ver v R → vrel χ b ver v R := by
    intro b ver R R' ⟨_, i, h1, _⟩ ⟨g0, j, g1, g2, g3⟩
    exact ⟨g0, j, by rw [hφ b (by simp [h1])]; exact g1, g2, g3⟩
  cases x with
  | bool s b => exact h
  | int s k n => exact h
  | str s y => exact h
  | nil => exact h
  | nils => exact h
  | nilfn => exact h
  | unk => exact h
  | ptr b o => exact key h0 h
  | prw s b ver st e p q => exact key h0 h
  | slc s b ver st e off len => exact key h0 h
  | vec b ver e => exact key h0 h
  | fn f caps =>
    obtain ⟨cs0, _, k0⟩ := h0
    obtain ⟨cs, e, k⟩ := h
    refine ⟨cs, e, ?_⟩
    generalize cs.toList = m at k
    generalize cs0.toList = m0 at k0
    clear e
    induction k generalizing m0 with
    | nil => exact .nil
    | cons r _ ih =>
      cases k0 with
      | cons r0 t0 =>
        refine .cons ?_ (ih _ t0)
        obtain ⟨_, i, h1, _⟩ := r0
        obtain ⟨g0, j, g1, g2, g3⟩ := r
        exact ⟨g0, j, by rw [hφ _ (by simp [h1])]; exact g1, g2, g3⟩

theorem hdsW_in {bs : List BC} {W : List Nat} {m : Nat} {out : List (Option BC)} (hm : m = bs.length) {l : List Nat} (hl : ∀ i, i < m → l[i]? = some i) (h : outs μ ρ foot m W l = some out) : hdsIn bs out = hdsW bs W := by
  obtain ⟨_, h2⟩ := outs_spec h
  funext b
  unfold hdsIn hdsW
  cases hc : bs[b]? with
  | none => rfl
  | some c =>
    have hb : b < m := by rw [hm]; exact (List.getElem?_eq_some_iff.1 hc).1
    rcases h2 b b (hl b hb) with ⟨_, g2, g3⟩ | ⟨g1, c', g2, _⟩
    · simp only [g2, g3]
    · have : memN b W = true := by
        rcases g1 with g1 | g1
        · omega
        · exact g1
      simp only [this, g2]

/-- What is left, under the names in which it is handed back. -/
theorem fin_mr {bs : List BC} {W : List Nat} {d : Pre} {nx : Nat} {out : List (Option BC)} {ψ : Phi} {w' : World} (hM0 : MR w0 may φ (memOf bs) (hdsW bs W) (fun b => bs.length ≤ b) w) (hle : φ.le ψ)
    (hM : MR w0 may ψ (over d.mem (memOf bs)) (over d.hs (hdsW bs W)) (fun b => nx ≤ b) w') (hcm : cleanM W bs.length d.mem = true) (hch : cleanH W bs.length d.hs = true)
    (hnd : nodupB foot = true) (hpre : ∀ i, i < bs.length → foot[i]? = some i) (ho : outs (over d.mem (memOf bs)) (over d.hs (hdsW bs W)) foot bs.length W foot = some out) :
    φ.le (phiK ψ foot) ∧ MR w0 may (phiK ψ foot) (memAft bs out) (hdsAft bs out) (fun b => out.length ≤ b) w' := by
  obtain ⟨hlen, hout⟩ := outs_spec ho
  have hsmall : ∀ b, φ b ≠ none → b < bs.length := fun b hb => by
    rcases Nat.lt_or_ge b bs.length with h | h
    · exact h
    · exact absurd (hM0.dom b h) hb
  have hphi : ∀ b, φ b ≠ none → phiK ψ foot b = ψ b := fun b hb => by simp [phiK, hpre b (hsmall b hb)]
  have hφ : φ.le (phiK ψ foot) := by
    intro b i hb
    rw [hphi b (by simp [hb])]; exact hle b i hb
  have get : ∀ i j, phiK ψ foot i = some j → ∃ b, foot[i]? = some b ∧ ψ b = some j := by
    intro i j h
    unfold phiK at h
    split at h
    · rename_i b hb; exact ⟨b, hb, h⟩
    · cases h
  -- what is told of a block
  have told : ∀ i c, aft bs out i = some c → (i < bs.length ∧ memN i W = false ∧ foot[i]? = some i ∧ ∃ c0, bs[i]? = some c0 ∧ c = ⟨roH c0.h, c0.cs⟩) ∨ ∃ b, foot[i]? = some b ∧ outOne (over d.mem (memOf bs)) (over d.hs (hdsW bs W)) foot b = some c := by
    intro i c h
    unfold aft at h
    split at h
    · rename_i c' hc
      simp only [Option.some.injEq] at h; subst h
      have hi : i < foot.length := by rw [← hlen]; exact (List.getElem?_eq_some_iff.1 hc).1
      have hb : foot[i]? = some foot[i] := by simp [hi]
      rcases hout i _ hb with ⟨_, _, g⟩ | ⟨_, c2, g, g'⟩
      · rw [hc] at g; cases g
      · rw [hc] at g; simp only [Option.some.injEq] at g; subst g
        exact .inr ⟨_, hb, g'⟩
    · rename_i hc
      split at h
      · rename_i c0 hc0
        simp only [Option.some.injEq] at h; subst h
        have hi : i < bs.length := (List.getElem?_eq_some_iff.1 hc0).1
        have hb := hpre i hi
        rcases hout i _ hb with ⟨_, g, _⟩ | ⟨_, c2, g, g'⟩
        · exact .inl ⟨hi, g, hb, c0, hc0, rfl⟩
        · rw [hc] at g; cases g
      · cases h
    · cases h
  -- a block that is not written
  have keepμ : ∀ i, i < bs.length → memN i W = false → ∀ k, k / 65536 = i → over d.mem (memOf bs) k = memOf bs k := by
    intro i hi hW k hk
    refine over_none fun y hy => ?_
    rcases cleanM_spec hcm k y hy with h | h
    · rw [hk, hW] at h; cases h
    · omega
  have keepρ : ∀ i, i < bs.length → memN i W = false → over d.hs (hdsW bs W) i = hdsW bs W i := by
    intro i hi hW
    refine over_none fun y hy => ?_
    rcases cleanH_spec hch i y hy with h | h
    · rw [hW] at h; cases h
    · omega
  have hdr : ∀ i h, hdsAft bs out i = some h → ∃ b, foot[i]? = some b ∧ over d.hs (hdsW bs W) b = some h := by
    intro i h hh
    unfold hdsAft at hh
    split at hh
    · rename_i c hc
      simp only [Option.some.injEq] at hh; subst hh
      rcases told i c hc with ⟨h1, h2, h3, c0, h4, rfl⟩ | ⟨b, h1, h2⟩
      · refine ⟨i, h3, ?_⟩
        rw [keepρ i h1 h2]; simp [hdsW, h4, h2]
      · exact ⟨b, h1, (outOne_spec h2).1⟩
    · cases hh
  have cell : ∀ k x, memAft bs out k = some x → x = .unk ∨ ∃ b x0, foot[k / 65536]? = some b ∧ over d.mem (memOf bs) (b * 65536 + k % 65536) = some x0 ∧ (x0 = .unk → x = .unk) ∧ ∀ v, x0.rel ψ v → x.rel (phiK ψ foot) v := by
    intro k x hx
    unfold memAft at hx
    split at hx
    · rename_i c hc
      have hz : k % 65536 < 65536 := Nat.mod_lt _ (by decide)
      rcases told _ c hc with ⟨h1, h2, h3, c0, h4, rfl⟩ | ⟨b, h1, h2⟩
      · have hk : memOf bs k = some x := by simp only [memOf, h4]; exact hx
        rcases hM0.cell k x hk with e | ⟨i, _, _, _, r, o, arr, ty, fz, v0, _, _, _, hr⟩
        · exact .inl e
        · refine .inr ⟨_, x, h3, ?_, id, fun v hv => At.rel_back hr hv hphi⟩
          rw [show k / 65536 * 65536 + k % 65536 = k by omega, keepμ _ h1 h2 k rfl]; exact hk
      · obtain ⟨_, g2, g3⟩ := outOne_spec h2
        unfold cellOf at hx
        split at hx
        · rename_i y hy
          simp only [Option.some.injEq] at hx; subst hx
          have hk : k % 65536 < c.h.z := by
            have := (List.getElem?_eq_some_iff.1 hy).1
            rw [g3, outCells_len] at this; exact this
          rw [g3, outCells_get hk, Nat.zero_add] at hy
          simp only [Option.some.injEq] at hy
          cases hm : over d.mem (memOf bs) (b * 65536 + k % 65536) with
          | none => rw [hm] at hy; simp [keepO] at hy
          | some x0 =>
            rw [hm] at hy; simp only [keepO, Option.some.injEq] at hy
            subst hy
            exact .inr ⟨b, x0, h1, hm, fun e => by subst e; rfl, fun v hv => keepA_rel hv⟩
        · cases hx
    · cases hx
  refine ⟨hφ, ?_⟩
  constructor
  · intro k x hx
    rcases cell k x hx with e | ⟨b, x0, h1, h2, h3, h4⟩
    · exact .inl e
    · have hz : k % 65536 < 65536 := Nat.mod_lt _ (by decide)
      rcases hM.cell _ x0 h2 with e | ⟨j, g1, g2, g3, r, o', arr, ty, fz, v, g4, g5, g6, g7⟩
      · exact .inl (h3 e)
      · rw [key_div _ _ hz] at g1
        rw [key_mod _ _ hz] at g3 g6
        exact .inr ⟨j, by simp [phiK, h1, g1], g2, g3, r, o', arr, ty, fz, v, g4, g5, g6, h4 v g7⟩
  · intro i h hh
    obtain ⟨b, h1, h2⟩ := hdr i h hh
    obtain ⟨j, g1, g2⟩ := hM.hdr b h h2
    exact ⟨j, by simp [phiK, h1, g1], g2⟩
  · intro k x h hx hne hh
    rcases cell k x hx with e | ⟨b, x0, h1, h2, h3, h4⟩
    · exact absurd e hne
    · obtain ⟨b', g1, g2⟩ := hdr _ h hh
      rw [h1] at g1; simp only [Option.some.injEq] at g1; subst g1
      have hz : k % 65536 < 65536 := Nat.mod_lt _ (by decide)
      have := hM.apart _ x0 h h2 (fun e => hne (h3 e)) (by rw [key_div _ _ hz]; exact g2)
      rw [key_mod _ _ hz] at this
      exact this
  · intro i i' j j' r o' o'' hi hi' ha ha'
    obtain ⟨b, h1, h2⟩ := get i j hi
    obtain ⟨b', h3, h4⟩ := get i' j' hi'
    rcases hM.inj b b' j j' r o' o'' h2 h4 ha ha' with e | e
    · subst e; exact .inl (nodupB_spec hnd h1 h3)
    · exact .inr e
  · intro i j r o' hi ha hro
    obtain ⟨b, h1, h2⟩ := get i j hi
    exact hM.own b j r o' h2 ha hro
  · intro i j r o' hi ha hro
    obtain ⟨b, h1, h2⟩ := get i j hi
    exact hM.keep b j r o' h2 ha hro
  · intro i hi
    have hi : out.length ≤ i := hi
    have : foot[i]? = none := by simp; omega
    simp [phiK, this]
  · intro i j r o' hi ha
    obtain ⟨b, h1, h2⟩ := get i j hi
    exact hM.big b j r o' h2 ha
  · exact hM.os
  · exact hM.tape
  · exact hM.output
  · exact hM.size
  · exact hM.block
  · exact hM.frz

theorem ends_spec : ∀ {l r : List Alt}, ends l = some r → (∀ α ∈ l, ∀ id, α.x ≠ .e id) ∧ ∀ β, β ∈ r ↔ ∃ α ∈ l, β = ⟨.r, α.s, α.g, α.d, α.nx⟩
  | [], r, h => by simp only [ends, Option.some.injEq] at h; subst h; simp
  | a :: l, r, h => by
    unfold ends at h
    split at h
    · cases h
    · rename_i r' hr hne
      simp only [Option.some.injEq] at h; subst h
      obtain ⟨g1, g2⟩ := ends_spec hr
      refine ⟨fun α hα id => ?_, fun β => ?_⟩
      · rcases List.mem_cons.1 hα with rfl | hα
        · exact fun e => hne id e
        · exact g1 α hα id
      · simp only [List.mem_cons, g2, exists_eq_or_imp]
    · cases h

theorem evF_wp (hT : TOK P T) (hF : P.follows .mixedOrders = true) {k f : Nat} {lvs : List Nat} {LT : List (Nat × Sum)} {W : List Nat} {fn : Func} {c : Code} {args : List LV} {bs : List BC} {obs : List Prop} {lv : LV} {out : List (Option BC)} (hf : P.funcs[f]? = some fn) (hb : fn.body = some c)
    (hL : LOK P fn.ntmps lvs LT c 1) (h : evF P T k lvs LT W fn c args bs = some (obs, lv, out)) (ho : Alls obs) (φ : Phi) (vs : Array Value) (w : World) (may : Nat → Prop) (ha : All2 (LV.rel φ) args vs.toList)
    (hM : MR w may φ (memOf bs) (hdsIn bs out) (fun b => bs.length ≤ b) w) :
    Calls P f vs w fun e w' => ∃ v' φ', e = .returned v' ∧ φ.le φ' ∧ lv.rel φ' v' ∧ MR w may φ' (memAft bs out) (hdsAft bs out) (fun b => out.length ≤ b) w' := by
  unfold evF at h
  split at h
  · cases h
  rename_i hn
  have hlen := ha.length
  have hle : args.length ≤ fn.ntmps := Nat.le_of_ble_eq_true hn
  have hsz : vs.size = args.length := by simpa using hlen.symm
  split at h
  · cases h
  rename_i obs' alts he
  split at h
  · cases h
  rename_i l hl
  split at h
  case h_2 => cases h
  rename_i x s g d nx hi
  split at h
  case h_2 => cases h
  rename_i hcl
  simp only [Bool.and_eq_true] at hcl
  split at h
  case h_2 => cases h
  rename_i v' out' hfin
  simp only [Option.some.injEq, Prod.mk.injEq] at h
  obtain ⟨rfl, rfl, rfl⟩ := h
  unfold fin at hfin
  split at hfin
  case h_2 => cases hfin
  rename_i v hv
  unfold fin2 at hfin
  split at hfin
  case h_2 => cases hfin
  rename_i out2 hnd hout
  simp only [Option.some.injEq, Prod.mk.injEq] at hfin
  obtain ⟨rfl, rfl⟩ := hfin
  have hpre : ∀ i, i < bs.length → (List.range bs.length ++ (footGo (over d.mem (memOf bs)) (over d.hs (hdsW bs W)) 100 (refT (over d.hs (hdsW bs W)) v ++ refW (over d.mem (memOf bs)) (over d.hs (hdsW bs W)) W) (List.range bs.length).reverse).drop bs.length)[i]? = some i := by
    intro i hi
    rw [List.getElem?_append_left (by simpa using hi)]
    simp [hi]
  have hin := hdsW_in (bs := bs) rfl hpre hout
  rw [hin] at hM
  refine calls_of_wp hf hb ?_
  have s0 : SR fn.ntmps lvs w may φ (look (args0 args 0)) (memOf bs) (hdsW bs W) bs.length { tmps := vs ++ Array.replicate (fn.ntmps - vs.size) undef, defers := [] } w := by
    refine ⟨?_, by simp; omega, rfl, hM⟩
    intro t lv' hl
    unfold filt at hl
    split at hl
    · obtain ⟨_, h2⟩ := args0_look args 0 t lv' hl
      simp only [Nat.sub_zero] at h2
      obtain ⟨u, hu, hr⟩ := ha.get h2
      have hu' : vs[t]? = some u := by simpa using hu
      have ht : t < vs.size := (Array.getElem?_eq_some_iff.1 hu').1
      rw [Array.getD_eq_getD_getElem?, Array.getElem?_append_left ht, hu']
      exact hr
    · cases hl
  obtain ⟨hf1, hf2⟩ := s0.fresh
  obtain ⟨e1, e2⟩ := ends_spec hl
  have key := ev_wp hT hF k false c 1 _ _ _ _ he hL ho w may φ _ w s0 (bodyPost P fn fun e w' => ∃ v' φ', e = .returned v' ∧ φ.le φ' ∧ (keepV _ v).rel φ' v' ∧ MR w may φ' (memAft bs out2) (hdsAft bs out2) (fun b => out2.length ≤ b) w') fun x a' w' hg => by
    have hx : ∀ id, x ≠ .e id := by
      intro id hx
      obtain ⟨α, hα, hon⟩ := hg.1
      exact e1 α hα id (hon.1.trans hx)
    have key : ∀ α, On fn.ntmps lvs w may φ (look (args0 args 0)) (memOf bs) (hdsW bs W) x a' w' α → On fn.ntmps lvs w may φ (look (args0 args 0)) (memOf bs) (hdsW bs W) .r a' w' ⟨.r, α.s, α.g, α.d, α.nx⟩ := fun α hon => ⟨rfl, hon.2⟩
    obtain ⟨g1, g2⟩ := insAll_on hf1 hf2 (φ := φ) (x := .r) (a' := a') (w' := w') (w0 := w) (may := may) (n := fn.ntmps) hi (fun α hα => by cases hα) (fun β hβ => by
      obtain ⟨α, hα, rfl⟩ := (e2 β).1 hβ
      exact (hg.2 α hα).imp (key α) id)
    obtain ⟨β, hβ, hon⟩ := g2 (.inr (by
      obtain ⟨α, hα, hon⟩ := hg.1
      exact ⟨_, (e2 _).2 ⟨α, hα, rfl⟩, key α hon⟩))
    rw [List.mem_singleton] at hβ
    subst hβ
    obtain ⟨_, _, ψ, hψ, hs⟩ := hon
    obtain ⟨u, u1, u2⟩ := lres_run (P := P) (fn := fn) hs.tr hs.mr hv
    obtain ⟨f1, f2⟩ := fin_mr hM hψ hs.mr hcl.1 hcl.2 hnd hpre hout
    have hp : a'.defers = [] ∧ ∃ v', (results fn a'.tmps).run P w' = .ok v' w' ∧ ∃ v'' φ', Ending.returned v' = .returned v'' ∧ φ.le φ' ∧ (keepV _ v).rel φ' v'' ∧ MR w may φ' (memAft bs out2) (hdsAft bs out2) (fun b => out2.length ≤ b) w' :=
      ⟨hs.df, u, u1, u, _, rfl, f1, keepV_rel u2, f2⟩
    cases x with
    | n => exact hp
    | r => exact hp
    | e id => exact absurd rfl (hx id)
  simpa using key

end

/-- A call by the function's number. -/
def evG (P : Program) (T : Tab) (k f : Nat) (lv : List Nat) (LT : List (Nat × Sum)) (W : List Nat) (args : List LV) (bs : List BC) : Option (List Prop × LV × List (Option BC)) :=
  match P.funcs[f]? with
  | some fn => match fn.body with
    | some c => evF P T k lv LT W fn c args bs
    | none => none
  | none => none

theorem evG_ok {P : Program} {T : Tab} (hT : TOK P T) (hF : P.follows .mixedOrders = true) {k f : Nat} {lv : List Nat} {W : List Nat} : ConOK P f (evG P T k f lv [] W) := by
  intro args bs obs v out h ho φ vs w may ha hM
  unfold evG at h
  split at h
  · rename_i fn hf
    split at h
    · rename_i c hb
      exact evF_wp hT hF hf hb (LOK_nil c 1) h ho φ vs w may ha hM
    · cases h
  · cases h

theorem evG_okL {P : Program} {T : Tab} (hT : TOK P T) (hF : P.follows .mixedOrders = true) {k f : Nat} {lv : List Nat} {W : List Nat} {LT : List (Nat × Sum)} (hL : ∀ fn c, P.funcs[f]? = some fn → fn.body = some c → LOK P fn.ntmps lv LT c 1) : ConOK P f (evG P T k f lv LT W) := by
  intro args bs obs v out h ho φ vs w may ha hM
  unfold evG at h
  split at h
  · rename_i fn hf
    split at h
    · rename_i c hb
      exact evF_wp hT hF hf hb (hL fn c hf hb) h ho φ vs w may ha hM
    · cases h
  · cases h

end Go.Proofs.Ytcdejlgophpdjaa.V
end

section
namespace Go.Proofs.Ytcdejlgophpdjaa.V
open Go Go.RowKit

def symA : At → At
  | .bool _ b => .bool true b
  | .int _ k n => .int true k n
  | .str _ x => .str true x
  | x => x

def symL : List At → List At
  | [] => []
  | x :: r => symA x :: symL r

def symV : LV → LV
  | .a x => .a (symA x)
  | .g l => .g (symL l)
  | x => x

def symVs : List LV → List LV
  | [] => []
  | x :: r => symV x :: symVs r

def symO : Option At → Option At
  | some x => some (symA x)
  | none => none

def symOs : List (Option At) → List (Option At)
  | [] => []
  | x :: r => symO x :: symOs r

def symB (c : BC) : BC := ⟨c.h, symOs c.cs⟩

def symBs : List BC → List BC
  | [] => []
  | x :: r => symB x :: symBs r

def normC (c : Con) : Con := fun args bs => c (symVs args) (symBs bs)

theorem symA_rel {φ : Phi} {x : At} {v : Value} : (symA x).rel φ v ↔ x.rel φ v := by cases x <;> exact Iff.rfl

theorem symA_unk {x : At} : symA x = .unk ↔ x = .unk := by cases x <;> simp [symA]

theorem symL_rel {φ : Phi} : ∀ {l : List At} {vs : List Value}, All2 (At.rel φ) l vs → All2 (At.rel φ) (symL l) vs
  | _, _, .nil => .nil
  | _, _, .cons h t => .cons (symA_rel.2 h) (symL_rel t)

theorem symV_rel {φ : Phi} {x : LV} {v : Value} (h : x.rel φ v) : (symV x).rel φ v := by
  cases x with
  | a x => exact symA_rel.2 h
  | g l => obtain ⟨cs, e, k⟩ := h; exact ⟨cs, e, symL_rel k⟩
  | t l => exact h
  | u => exact h

theorem symVs_rel {φ : Phi} : ∀ {l : List LV} {vs : List Value}, All2 (LV.rel φ) l vs → All2 (LV.rel φ) (symVs l) vs
  | _, _, .nil => .nil
  | _, _, .cons h t => .cons (symV_rel h) (symVs_rel t)

theorem symOs_get : ∀ {l : List (Option At)} {i : Nat}, (symOs l)[i]? = (l[i]?).map symO
  | [], i => by simp [symOs]
  | x :: r, 0 => by simp [symOs]
  | x :: r, i + 1 => by simp [symOs, symOs_get (l := r)]

theorem symBs_get : ∀ {l : List BC} {i : Nat}, (symBs l)[i]? = (l[i]?).map symB
  | [], i => by simp [symBs]
  | x :: r, 0 => by simp [symBs]
  | x :: r, i + 1 => by simp [symBs, symBs_get (l := r)]

theorem symBs_len : ∀ {l : List BC}, (symBs l).length = l.length
  | [] => rfl
  | x :: r => by simp [symBs, symBs_len (l := r)]

theorem symB_cell (c : BC) (off : Nat) : cellOf (symB c) off = (cellOf c off).map symA := by
  unfold cellOf symB
  simp only [symOs_get]
  cases h : c.cs[off]? with
  | none => rfl
  | some x => cases x <;> rfl

/-- Cells by other marks. -/
theorem MR.marks {w0 : World} {may : Nat → Prop} {φ : Phi} {μ μ' : Mem} {ρ : Hds} {fr : Nat → Prop} {w : World} (h : MR w0 may φ μ ρ fr w) (hμ : ∀ k x, μ' k = some x → ∃ y, μ k = some y ∧ (y = .unk → x = .unk) ∧ ∀ v, y.rel φ v → x.rel φ v) : MR w0 may φ μ' ρ fr w := by
  refine ⟨fun k x hx => ?_, h.hdr, fun k x g hx hne hg => ?_, h.inj, h.own, h.keep, h.dom, h.big, h.os, h.tape, h.output, h.size, h.block, h.frz⟩
  · obtain ⟨y, h1, h2, h3⟩ := hμ k x hx
    rcases h.cell k y h1 with e | ⟨i, g1, g2, g3, r, o, arr, ty, fz, v, g4, g5, g6, g7⟩
    · exact .inl (h2 e)
    · exact .inr ⟨i, g1, g2, g3, r, o, arr, ty, fz, v, g4, g5, g6, h3 v g7⟩
  · obtain ⟨y, h1, h2, h3⟩ := hμ k x hx
    exact h.apart k y g h1 (fun e => hne (h2 e)) hg

theorem hdsIn_sym (bs : List BC) (out : List (Option BC)) : hdsIn (symBs bs) out = hdsIn bs out := by
  funext b
  unfold hdsIn
  rw [symBs_get]
  cases bs[b]? with
  | none => rfl
  | some c => rfl

theorem hdsAft_sym (bs : List BC) (out : List (Option BC)) : hdsAft (symBs bs) out = hdsAft bs out := by
  funext b
  unfold hdsAft aft
  cases h : out[b]? with
  | none => rfl
  | some x => cases x with
    | some c => rfl
    | none =>
      rw [symBs_get]
      cases bs[b]? with
      | none => rfl
      | some c => rfl

theorem normC_ok {P : Program} {f : Nat} {c : Con} (hc : ConOK P f c) : ConOK P f (normC c) := by
  intro args bs obs lv out h ho φ vs w may ha hM
  have h1 := hc (symVs args) (symBs bs) obs lv out h ho φ vs w may (symVs_rel ha) (by
    rw [hdsIn_sym, symBs_len]
    refine hM.marks fun k x hx => ?_
    unfold memOf at hx ⊢
    rw [symBs_get] at hx
    cases hb : bs[k / 65536]? with
    | none => rw [hb] at hx; simp at hx
    | some c =>
      rw [hb] at hx
      simp only [Option.map_some, symB_cell, Option.map_eq_some_iff] at hx
      obtain ⟨y, hy, rfl⟩ := hx
      exact ⟨y, hy, fun e => symA_unk.2 e, fun v hv => symA_rel.2 hv⟩)
  refine h1.mono fun e w' ⟨v', φ', e1, e2, e3, e4⟩ => ⟨v', φ', e1, e2, e3, ?_⟩
  rw [hdsAft_sym] at e4
  refine e4.marks fun k x hx => ?_
  unfold memAft aft at hx ⊢
  cases hb : out[k / 65536]? with
  | none => rw [hb] at hx; simp at hx
  | some o =>
    rw [hb] at hx
    cases o with
    | some c => exact ⟨x, hx, id, fun v hv => hv⟩
    | none =>
      simp only [symBs_get]
      cases hb2 : bs[k / 65536]? with
      | none => rw [hb2] at hx; simp at hx
      | some c =>
        rw [hb2] at hx
        refine ⟨symA x, ?_, fun e => symA_unk.1 e, fun v hv => symA_rel.1 hv⟩
        have hx : cellOf c (k % 65536) = some x := by
          simpa [cellOf] using hx
        have := symB_cell c (k % 65536)
        rw [hx] at this
        simpa [symB, roH, cellOf] using this

end Go.Proofs.Ytcdejlgophpdjaa.V
end

section
namespace Go.Proofs.Ytcdejlgophpdjaa.V
open Go Go.RowKit

/-- A loop's head: what is known of the temporaries, the blocks behind them (all of version 0). -/
structure HS where
  tm : List (Nat × LV)
  bs : List BC

def hdsB (bs : List BC) : Hds := fun b => match bs[b]? with
  | some c => some c.h
  | none => none

def entT (ρ : Hds) (foot : List Nat) (σ : Sig) : List Nat → List (Nat × LV)
  | [] => []
  | t :: r => match σ t with
    | some v => (t, renV ρ foot v) :: entT ρ foot σ r
    | none => entT ρ foot σ r

def symT : List (Nat × LV) → List (Nat × LV)
  | [] => []
  | (t, v) :: r => (t, symV v) :: symT r

def symH (h : HS) : HS := ⟨symT h.tm, symBs h.bs⟩

def rsH (lv ts : List Nat) (m : Nat) (σ : Sig) (μ : Mem) (ρ : Hds) : Option HS :=
  match blksOf μ ρ (List.range m) (List.range m) with
  | some bs => some ⟨entT ρ (List.range m) (filt lv σ) ts, bs⟩
  | none => none

def verOK (G : List Nat) (ρ : Hds) : Nat → Bool
  | 0 => true
  | i + 1 => match memN i G with
    | true => verOK G ρ i
    | false => match ρ i with
      | some h => match Nat.beq h.v 0 with
        | true => verOK G ρ i
        | false => false
      | none => false

def altsH (lv ts : List Nat) (W G : List Nat) (h : HS) : List Alt → Option (List (X × Bool × HS))
  | [] => some []
  | a :: r => match cleanM W h.bs.length a.d.mem && cleanH W h.bs.length a.d.hs && verOK G (over a.d.hs (hdsB h.bs)) h.bs.length with
    | true => match rsH lv ts h.bs.length (over a.d.tm (look h.tm)) (over a.d.mem (memOf h.bs)) (over a.d.hs (hdsB h.bs)), altsH lv ts W G h r with
      | some h', some l => some ((a.x, a.g, symH h') :: l)
      | _, _ => none
    | false => none

/-- One round. W: the blocks that it writes; G: those among them that may become more. -/
def bodyF (P : Program) (T : Tab) (n : Nat) (lv ts : List Nat) (LT : List (Nat × Sum)) (k : Nat) (W G : List Nat) (c : Code) (p : Nat) (h : HS) : Option (List Prop × List (X × Bool × HS)) :=
  match ev P T n lv LT k false c p (look h.tm) (memOf h.bs) (hdsB h.bs) h.bs.length with
  | some (obs, alts) => match altsH lv ts W G h alts with
    | some l => some (obs, l)
    | none => none
  | none => none

section
variable {P : Program} {T : Tab} {w0 : World} {may : Nat → Prop} {φ : Phi} {σ : Sig} {μ : Mem} {ρ : Hds} {fr : Nat → Prop} {w : World} {a : Act} {n : Nat} {lv ts : List Nat}

theorem hdsB_eq (bs : List BC) : hdsIn bs [] = hdsB bs := by
  funext b
  unfold hdsIn hdsB
  cases bs[b]? <;> simp

theorem entT_look {foot : List Nat} {t : Nat} {x : LV} : ∀ {l : List Nat}, look (entT ρ foot σ l) t = some x → ∃ v, σ t = some v ∧ x = renV ρ foot v
  | [], h => by simp [entT, look] at h
  | s :: r, h => by
    unfold entT at h
    split at h
    · rename_i v hv
      unfold look at h
      split at h
      · rename_i hb
        have := Nat.eq_of_beq_eq_true hb
        subst this
        simp only [Option.some.injEq] at h
        exact ⟨v, hv, h.symm⟩
      · exact entT_look h
    · exact entT_look h

theorem phiC_nil_get {foot : List Nat} {i : Nat} {j' : Inf} (h : phiC φ foot [] i = some j') : ∃ b j, foot[i]? = some b ∧ φ b = some j ∧ j' = ⟨j.ty, j.a, j.z, j.n, 0, j.ro⟩ := by
  obtain ⟨b, j, h1, h2, h3⟩ := phiC_get h
  exact ⟨b, j, h1, h2, by rw [h3]; simp [isKeep]⟩

theorem phiC_nil_mk {foot : List Nat} {i b : Nat} {j : Inf} (h : foot[i]? = some b) (hj : φ b = some j) : phiC φ foot [] i = some ⟨j.ty, j.a, j.z, j.n, 0, j.ro⟩ := by
  rw [phiC_mk h hj]; simp [isKeep]

/-- Blocks under other names, all of version 0; the world of the beginning stays. -/
theorem ren_mr (hM : MR w0 may φ μ ρ fr w) {foot : List Nat} {bs : List BC} (hbs : blksOf μ ρ foot foot = some bs) (hnd : nodupB foot = true) :
    MR w0 may (phiC φ foot []) (memOf bs) (hdsB bs) (fun b => bs.length ≤ b) w := by
  have hc := callee_mr (out := []) hM hbs hnd
  rw [hdsB_eq] at hc
  obtain ⟨hlen, _⟩ := blksOf_get hbs
  refine ⟨hc.cell, hc.hdr, hc.apart, hc.inj, ?_, ?_, hc.dom, hc.big, hM.os, hM.tape, hM.output, hM.size, hM.block, hM.frz⟩
  · intro i j r o hi ha hro
    obtain ⟨b, j1, h1, h2, rfl⟩ := phiC_nil_get hi
    exact hM.own b j1 r o h2 ha hro
  · intro i j r o hi ha hro
    obtain ⟨b, j1, h1, h2, rfl⟩ := phiC_nil_get hi
    exact hM.keep b j1 r o h2 ha hro

theorem nodup_range (m : Nat) : nodupB (List.range m) = true := by
  have key : ∀ (l : List Nat), l.Nodup → nodupB l = true := by
    intro l
    induction l with
    | nil => intro _; rfl
    | cons b r ih =>
      intro h
      rw [List.nodup_cons] at h
      unfold nodupB
      split
      · rename_i i hi
        have := (idxOf_spec hi).2
        rw [Nat.sub_zero] at this
        exact absurd (List.mem_of_getElem? this) h.1
      · exact ih h.2
  exact key _ List.nodup_range

theorem reset_sr {nx m : Nat} {h : HS} (hs : SR n lv w0 may φ σ μ ρ nx a w) (e : rsH lv ts m σ μ ρ = some h) :
    h.bs.length = m ∧ SR n lv w0 may (phiC φ (List.range m) []) (look h.tm) (memOf h.bs) (hdsB h.bs) m a w := by
  unfold rsH at e
  split at e
  · rename_i bs hbs
    simp only [Option.some.injEq] at e; subst e
    obtain ⟨hlen, _⟩ := blksOf_get hbs
    have hl : bs.length = m := by simpa using hlen
    refine ⟨hl, ?_, hs.sz, hs.df, by have := ren_mr hs.mr hbs (nodup_range m); rw [hl] at this; exact this⟩
    intro t x hx
    unfold filt at hx
    split at hx
    · obtain ⟨v, h1, rfl⟩ := entT_look hx
      exact renV_rel (ren_moves hs.mr) (hs.tr t v h1)
    · cases hx
  · cases e

/-- What is kept from head to head: blocks that don't become more stand where they stood. -/
def Kp (G : List Nat) (φ φ' : Phi) : Prop := ∀ i j, φ i = some j → ∃ j', φ' i = some j' ∧ j'.v = 0 ∧ (memN i G = false → j' = j)

theorem Kp.refl {G : List Nat} (h : ∀ i j, φ i = some j → j.v = 0) : Kp G φ φ := fun i j hj => ⟨j, hj, h i j hj, fun _ => rfl⟩
theorem Kp.trans {G : List Nat} {φ ψ χ : Phi} (h : Kp G φ ψ) (k : Kp G ψ χ) : Kp G φ χ := by
  intro i j hj
  obtain ⟨j1, h1, _, h3⟩ := h i j hj
  obtain ⟨j2, k1, k2, k3⟩ := k i j1 h1
  exact ⟨j2, k1, k2, fun hG => (k3 hG).trans (h3 hG)⟩

theorem verOK_spec {G : List Nat} : ∀ {m : Nat}, verOK G ρ m = true → ∀ i, i < m → memN i G = false → ∃ h, ρ i = some h ∧ h.v = 0
  | 0, _, i, hi, _ => by omega
  | m + 1, h, i, hi, hG => by
    unfold verOK at h
    by_cases e : i = m
    · subst e
      rw [hG] at h
      simp only at h
      split at h
      · rename_i hd hh
        split at h
        · rename_i hb; exact ⟨hd, hh, Nat.eq_of_beq_eq_true hb⟩
        · cases h
      · cases h
    · have hi' : i < m := by omega
      split at h
      · exact verOK_spec h i hi' hG
      · split at h
        · split at h
          · exact verOK_spec h i hi' hG
          · cases h
        · cases h

theorem reset_kp {m : Nat} {G : List Nat} {ψ : Phi} (hφ : ∀ i j, φ i = some j → i < m ∧ j.v = 0) (hle : φ.le ψ) (hM : MR w0 may ψ μ ρ fr w) (hv : verOK G ρ m = true) : Kp G φ (phiC ψ (List.range m) []) := by
  intro i j hj
  obtain ⟨hi, hjv⟩ := hφ i j hj
  obtain ⟨j', h1, h2⟩ := hle i j hj
  have hr : (List.range m)[i]? = some i := by simp [hi]
  refine ⟨_, phiC_nil_mk hr h1, rfl, fun hG => ?_⟩
  obtain ⟨hd, k1, k2⟩ := verOK_spec hv i hi hG
  obtain ⟨j2, k3, k4, _⟩ := hM.hdr i hd k1
  rw [h1] at k3; simp only [Option.some.injEq] at k3; subst k3
  rcases h2 with rfl | h2
  · cases j; simp at hjv; subst hjv; rfl
  · omega

theorem altsH_spec {W G : List Nat} {h : HS} : ∀ {alts : List Alt} {l : List (X × Bool × HS)}, altsH lv ts W G h alts = some l → ∀ q ∈ l, ∃ al ∈ alts, q.1 = al.x ∧ q.2.1 = al.g ∧ cleanM W h.bs.length al.d.mem = true ∧ cleanH W h.bs.length al.d.hs = true ∧ verOK G (over al.d.hs (hdsB h.bs)) h.bs.length = true ∧
      ∃ h', rsH lv ts h.bs.length (over al.d.tm (look h.tm)) (over al.d.mem (memOf h.bs)) (over al.d.hs (hdsB h.bs)) = some h' ∧ q.2.2 = symH h'
  | [], l, e => by simp only [altsH, Option.some.injEq] at e; subst e; intro q hq; cases hq
  | al :: r, l, e => by
    unfold altsH at e
    split at e
    · rename_i hc
      simp only [Bool.and_eq_true] at hc
      split at e
      · rename_i h' l' h1 h2
        simp only [Option.some.injEq] at e; subst e
        intro q hq
        rcases List.mem_cons.1 hq with rfl | hq
        · exact ⟨al, by simp, rfl, rfl, hc.1.1, hc.1.2, hc.2, h', h1, rfl⟩
        · obtain ⟨al', g1, g2⟩ := altsH_spec h2 q hq
          exact ⟨al', by simp [g1], g2⟩
      · cases e
    · cases e

theorem altsH_mem {W G : List Nat} {h : HS} : ∀ {alts : List Alt} {l : List (X × Bool × HS)}, altsH lv ts W G h alts = some l → ∀ al ∈ alts, ∃ q ∈ l, q.1 = al.x ∧ q.2.1 = al.g
  | [], l, e => by intro al hal; cases hal
  | al :: r, l, e => by
    unfold altsH at e
    split at e
    · split at e
      · rename_i h' l' h1 h2
        simp only [Option.some.injEq] at e; subst e
        intro al' hal
        rcases List.mem_cons.1 hal with rfl | hal
        · exact ⟨_, List.mem_cons_self, rfl, rfl⟩
        · obtain ⟨q, g1, g2⟩ := altsH_mem h2 al' hal
          exact ⟨q, by simp [g1], g2⟩
      · cases e
    · cases e

/-- The state of a head stands for the real one. -/
structure HR (n : Nat) (lv : List Nat) (w0 : World) (may : Nat → Prop) (φ : Phi) (h : HS) (a : Act) (w : World) : Prop where
  sr : SR n lv w0 may φ (look h.tm) (memOf h.bs) (hdsB h.bs) h.bs.length a w
  v0 : ∀ i j, φ i = some j → i < h.bs.length ∧ j.v = 0

theorem symT_look {t : Nat} {x : LV} : ∀ {l : List (Nat × LV)}, look (symT l) t = some x → ∃ y, look l t = some y ∧ x = symV y
  | [], h => by simp [symT, look] at h
  | (s, v) :: r, h => by
    unfold symT look at h
    unfold look
    split at h
    · rename_i hb
      simp only [Option.some.injEq] at h
      exact ⟨v, rfl, h.symm⟩
    · exact symT_look h

theorem hdsB_sym (bs : List BC) : hdsB (symBs bs) = hdsB bs := by
  funext b
  unfold hdsB
  rw [symBs_get]
  cases bs[b]? <;> rfl

theorem symH_hr {h : HS} (hr : HR n lv w0 may φ h a w) : HR n lv w0 may φ (symH h) a w := by
  refine ⟨⟨?_, hr.sr.sz, hr.sr.df, ?_⟩, fun i j hj => by rw [show (symH h).bs.length = h.bs.length from symBs_len]; exact hr.v0 i j hj⟩
  · intro s x hx
    unfold filt at hx
    split at hx
    · rename_i hs
      obtain ⟨y, h1, rfl⟩ := symT_look hx
      exact symV_rel (hr.sr.tr s y (by unfold filt; rw [hs]; exact h1))
    · cases hx
  · show MR w0 may φ (memOf (symBs h.bs)) (hdsB (symBs h.bs)) (fun b => (symBs h.bs).length ≤ b) w
    rw [hdsB_sym, symBs_len]
    refine hr.sr.mr.marks fun k x hx => ?_
    unfold memOf at hx ⊢
    rw [symBs_get] at hx
    cases hb : h.bs[k / 65536]? with
    | none => rw [hb] at hx; simp at hx
    | some c =>
      rw [hb] at hx
      simp only [Option.map_some, symB_cell, Option.map_eq_some_iff] at hx
      obtain ⟨y, hy, rfl⟩ := hx
      exact ⟨y, hy, fun e => symA_unk.2 e, fun v hv => symA_rel.2 hv⟩

theorem phiC_v0 {m : Nat} : ∀ i j, phiC φ (List.range m) [] i = some j → i < m ∧ j.v = 0 := by
  intro i j h
  obtain ⟨b, j1, h1, _, rfl⟩ := phiC_nil_get h
  have := (List.getElem?_eq_some_iff.1 h1).1
  exact ⟨by simpa using this, rfl⟩

/-- One round: from head to what it may end in. -/
theorem body_wp (hT : TOK P T) (hF : P.follows .mixedOrders = true) {LT : List (Nat × Sum)} {k : Nat} {W G : List Nat} {c : Code} {p : Nat} {h : HS} {obs : List Prop} {l : List (X × Bool × HS)}
    (e : bodyF P T n lv ts LT k W G c p h = some (obs, l)) (hL : LOK P n lv LT c p) (ho : Alls obs) (hr : HR n lv w0 may φ h a w) {Q : Exit → Act → World → Prop}
    (hQ : ∀ x a' w' q, q ∈ l → q.2.1 = true → q.1 = x → (∀ q' ∈ l, q'.2.1 = true → q'.1 = x ∧ ∃ χ, Kp G φ χ ∧ HR n lv w0 may χ q'.2.2 a' w' ∧ q'.2.2.bs.length = h.bs.length) → Q x.real a' w') : c.wp P Q a w := by
  unfold bodyF at e
  split at e
  · rename_i obs' alts hev
    split at e
    · rename_i l' hl
      simp only [Option.some.injEq, Prod.mk.injEq] at e
      obtain ⟨rfl, rfl⟩ := e
      have := ev_wp hT hF k false c p _ _ _ _ hev hL ho w0 may φ a w hr.sr Q fun x a' w' hg => by
        obtain ⟨⟨al, hal, hon⟩, hall⟩ := hg
        obtain ⟨q, hq, q1, q2⟩ := altsH_mem hl al hal
        refine hQ x a' w' q hq (q2.trans hon.2.1) (q1.trans hon.1) fun q' hq' hg' => ?_
        obtain ⟨al', m1, m2, m3, _, _, m4, h', m5, m6⟩ := altsH_spec hl q' hq'
        rcases hall al' m1 with hon' | hoff
        · obtain ⟨o1, _, ψ, o3, o4⟩ := hon'
          obtain ⟨r1, r2⟩ := reset_sr o4 m5
          refine ⟨m2.trans o1, _, reset_kp hr.v0 o3 o4.mr m4, ?_, ?_⟩
          · rw [m6]
            exact symH_hr ⟨by rw [r1]; exact r2, fun i j hj => by rw [r1]; exact phiC_v0 i j hj⟩
          · rw [m6]
            exact (show (symH h').bs.length = h'.bs.length from symBs_len).trans r1
        · rw [m3, hoff] at hg'; cases hg'
      simpa using this
    · cases e
  · cases e

end
end Go.Proofs.Ytcdejlgophpdjaa.V
end

section
namespace Go.Proofs.Ytcdejlgophpdjaa.V
open Go Go.RowKit

section
variable {α : Type}

def pick1 : List (X × Bool × α) → Option (X × α)
  | [] => none
  | (x, g, v) :: r => match g with
    | true => some (x, v)
    | false => pick1 r

/-- The rounds. -/
def lrun (st : α → List Prop × List (X × Bool × α)) : Nat → α → Option (X × α)
  | 0, _ => none
  | k + 1, v => match pick1 (st v).2 with
    | some (.n, v') => lrun st k v'
    | r => r

/-- What each of them asks for; and that they end. -/
def lok (st : α → List Prop × List (X × Bool × α)) : Nat → α → Prop
  | 0, _ => False
  | k + 1, v => Alls (st v).1 ∧ match pick1 (st v).2 with
    | some (.n, v') => lok st k v'
    | _ => True

theorem pick1_some : ∀ {l : List (X × Bool × α)} {q : X × Bool × α}, q ∈ l → q.2.1 = true → ∃ q0 ∈ l, q0.2.1 = true ∧ pick1 l = some (q0.1, q0.2.2)
  | [], q, h, _ => by cases h
  | (x, g, v) :: r, q, h, hg => by
    cases g with
    | true => exact ⟨_, List.mem_cons_self, rfl, rfl⟩
    | false =>
      rcases List.mem_cons.1 h with rfl | h
      · cases hg
      · obtain ⟨q0, h1, h2, h3⟩ := pick1_some h hg
        exact ⟨q0, List.mem_cons_of_mem _ h1, h2, h3⟩
end

section
variable {P : Program} {T : Tab} {w0 : World} {may : Nat → Prop} {n : Nat} {lv ts : List Nat} {α : Type}

theorem rounds_ok (hT : TOK P T) (hF : P.follows .mixedOrders = true) {LT : List (Nat × Sum)} {kf : Nat} {W G : List Nat} {c : Code} {p : Nat} {hd : α → HS} {st : α → List Prop × List (X × Bool × α)}
    (hE : ∀ v, bodyF P T n lv ts LT kf W G c p (hd v) = some ((st v).1, (st v).2.map fun q => (q.1, q.2.1, hd q.2.2))) (hL : LOK P n lv LT c p) {Q : Exit → Act → World → Prop} :
    ∀ (k : Nat) (v : α) (φ : Phi) (a : Act) (w : World), HR n lv w0 may φ (hd v) a w → lok st k v → (∀ x v' ψ a' w', lrun st k v = some (x, v') → x ≠ .n → Kp G φ ψ → HR n lv w0 may ψ (hd v') a' w' → (hd v').bs.length = (hd v).bs.length → Q x.real a' w') → Code.rounds P c Q k a w
  | 0, v, φ, a, w, _, hk, _ => hk.elim
  | k + 1, v, φ, a, w, hr, hk, hQ => by
    obtain ⟨ho, hk⟩ := hk
    rw [rounds_succ]
    have := body_wp hT hF (hE v) hL ho hr (Q := Exit.then (Code.rounds P c Q k) Q) fun x a' w' q hq hg _ hall => by
      obtain ⟨q1, hq1, rfl⟩ := List.mem_map.1 hq
      obtain ⟨q0, h1, h2, h3⟩ := pick1_some hq1 hg
      obtain ⟨e, χ, c1, c2, c3⟩ := hall _ (List.mem_map.2 ⟨q0, h1, rfl⟩) h2
      simp only at e c2 c3
      rw [h3] at hk
      cases x with
      | n =>
        rw [e] at hk h3
        have := rounds_ok hT hF hE hL (Q := Q) k q0.2.2 χ a' w' c2 hk fun x' v' ψ a'' w'' hrun hx hkp hhr hlen => hQ x' v' ψ a'' w'' (by simp only [lrun, h3]; exact hrun) hx (c1.trans hkp) hhr (hlen.trans c3)
        show Code.rounds P c Q k a' w'
        simpa using this
      | e i =>
        rw [e] at h3
        exact hQ (.e i) q0.2.2 χ a' w' (by simp only [lrun, h3]) (by simp) c1 c2 c3
      | r =>
        rw [e] at h3
        exact hQ .r q0.2.2 χ a' w' (by simp only [lrun, h3]) (by simp) c1 c2 c3
    simpa using this
end

/-! Into the loop. -/
def roW (W : List Nat) : Nat → List BC → List BC
  | _, [] => []
  | i, c :: r => (match memN i W with
    | true => c
    | false => ⟨roH c.h, c.cs⟩) :: roW W (i + 1) r

/-- Slices that are nil and are to grow: a block of none behind each. -/
def conv : List (Nat × List Kd) → HS → HS
  | [], h => h
  | (t, sh) :: r, h => match look h.tm t with
    | some (.a .nils) => conv r ⟨(t, .a (.vec h.bs.length 0 sh.length)) :: h.tm, h.bs ++ [⟨⟨0, 0, false, some ⟨0, sh, [], none⟩⟩, []⟩]⟩
    | _ => conv r h

/-- Only what is asked for, in this order. -/
def ordT (tm : List (Nat × LV)) : List Nat → List (Nat × LV)
  | [] => []
  | t :: r => match look tm t with
    | some v => (t, v) :: ordT tm r
    | none => ordT tm r

def ordH (lv : List Nat) (h : HS) : HS := ⟨ordT h.tm lv, h.bs⟩

/-! Out of the loop. -/
def bumpC (G : List Nat) : List (Nat × Nat) → Bool
  | [] => true
  | (b, _) :: r => match memN b G with
    | true => false
    | false => bumpC G r

def bumpA (G : List Nat) : At → At
  | .ptr b o => match memN b G with
    | true => .unk
    | false => .ptr b o
  | .prw s b v st e i j => match memN b G with
    | true => .prw s b (v + 1) st e i j
    | false => .prw s b v st e i j
  | .slc s b v st e off len => match memN b G with
    | true => .slc s b (v + 1) st e off len
    | false => .slc s b v st e off len
  | .vec b v e => match memN b G with
    | true => .vec b (v + 1) e
    | false => .vec b v e
  | .fn f caps => match bumpC G caps with
    | true => .fn f caps
    | false => .unk
  | x => x

def bumpL (G : List Nat) : List At → List At
  | [] => []
  | x :: r => bumpA G x :: bumpL G r

def bumpV (G : List Nat) : LV → LV
  | .a x => .a (bumpA G x)
  | .g l => .g (bumpL G l)
  | _ => .u

def bumpOs (G : List Nat) : List (Option At) → List (Option At)
  | [] => []
  | some x :: r => some (bumpA G x) :: bumpOs G r
  | none :: r => none :: bumpOs G r

def outL (W G : List Nat) : Nat → List BC → List (Option BC)
  | _, [] => []
  | i, c :: r => (match memN i W with
    | true => some ⟨⟨(match memN i G with
      | true => 1
      | false => 0), c.h.z, c.h.ro, c.h.R⟩, bumpOs G c.cs⟩
    | false => none) :: outL W G (i + 1) r

/-- Is it fit to be left: what becomes more is written; what is new is written. -/
def outOK (W G : List Nat) (m : Nat) : Nat → List BC → Bool
  | _, [] => true
  | i, c :: r => match (memN i W || Nat.blt i m) && (!memN i G || (memN i W && c.h.grows)) with
    | true => outOK W G m (i + 1) r
    | false => false

def tmL (G : List Nat) (ρ : Hds) (foot : List Nat) (id : Nat) (tm : List (Nat × LV)) : List Nat → List (Nat × LV)
  | [] => []
  | t :: r => (t, match look tm t with
    | some v => match backV ρ foot id (bumpV G v) with
      | some u' => u'
      | none => .u
    | none => .u) :: tmL G ρ foot id tm r

def refTs (σ : Sig) (ρ : Hds) : List Nat → List Nat
  | [] => []
  | t :: r => (match σ t with
    | some v => refV ρ v
    | none => []) ++ refTs σ ρ r

def isX {α : Type} (x : X) : Option (X × α) → Bool
  | some (y, _) => xeq x y
  | none => false

def valOf {α : Type} [Inhabited α] : Option (X × α) → α
  | some (_, v) => v
  | none => default

def altsL (id : Nat) (bs : List X) (d : Pre) (nx : Nat) (g : X → Bool) : List Alt :=
  match bs with
  | [] => []
  | x :: r => out1 id ⟨x, true, g x, d, nx⟩ :: altsL id r d nx g

def loopO (XS : List X) (lv W G : List Nat) (id : Nat) (ρ : Hds) (nx : Nat) (foot : List Nat) (bs0 : List BC) (ok : Prop) (g : X → Bool) (h : HS) : Outs :=
  match outOK W G bs0.length 0 h.bs && Nat.ble bs0.length h.bs.length && (cellBound (outL W G 0 h.bs) && zOK bs0 (outL W G 0 h.bs) && vOK ρ foot nx 0 (outL W G 0 h.bs) && Nat.ble (outL W G 0 h.bs).length (foot.length + 16) && allSet ((outL W G 0 h.bs).drop foot.length)) with
  | true => match backBlks ρ foot nx 0 (outL W G 0 h.bs) with
    | (cs, hs) => some ([ok], altsL id XS ⟨tmL G ρ foot nx h.tm lv, pushL cs [], pushL hs []⟩ (nx + 16) g)
  | false => none

def loopI {α : Type} [Inhabited α] (hd : α → HS) (rd : HS → Option α) (st : α → List Prop × List (X × Bool × α)) (F : Nat) (XS : List X) (lv ts W G : List Nat) (CV : List (Nat × List Kd)) (id : Nat) (σ : Sig) (μ : Mem) (ρ : Hds) (nx : Nat) (foot : List Nat) : Outs :=
  match blksOf μ ρ foot foot, nodupB foot with
  | some bs0, true => match rd (symH (ordH ts (conv CV ⟨entT ρ foot (filt lv σ) lv, roW W 0 bs0⟩))) with
    | some v0 => loopO XS lv W G id ρ nx foot bs0 (lok st F v0) (fun x => isX x (lrun st F v0)) (hd (valOf (lrun st F v0)))
    | none => none
  | _, _ => none

/-- A loop in its block, to the code around it. -/
def loopS {α : Type} [Inhabited α] (hd : α → HS) (rd : HS → Option α) (st : α → List Prop × List (X × Bool × α)) (F : Nat) (XS : List X) (lv ts W G : List Nat) (CV : List (Nat × List Kd)) (id : Nat) : Sum := fun σ μ ρ nx =>
  loopI hd rd st F XS lv ts W G CV id σ μ ρ nx (footGo μ ρ 100 (refTs (filt lv σ) ρ ts) [])

/-! It is so. -/
section
variable {P : Program} {T : Tab} {w0 : World} {may : Nat → Prop} {φ : Phi} {σ : Sig} {μ : Mem} {ρ : Hds} {fr : Nat → Prop} {w : World} {a : Act} {n : Nat} {lv : List Nat}

theorem roW_get {W : List Nat} : ∀ {bs : List BC} {k i : Nat}, (roW W k bs)[i]? = (bs[i]?).map fun c => match memN (k + i) W with
    | true => c
    | false => ⟨roH c.h, c.cs⟩
  | [], k, i => by simp [roW]
  | c :: r, k, 0 => by simp [roW]
  | c :: r, k, i + 1 => by
    simp only [roW, List.getElem?_cons_succ]
    rw [roW_get (bs := r), show k + 1 + i = k + (i + 1) by omega]

theorem roW_mem {W : List Nat} {bs : List BC} : memOf (roW W 0 bs) = memOf bs := by
  funext k
  unfold memOf
  rw [roW_get]
  cases bs[k / 65536]? with
  | none => rfl
  | some c => simp only [Option.map_some]; split <;> rfl

theorem outL_get {W G : List Nat} : ∀ {bs : List BC} {k i : Nat}, (outL W G k bs)[i]? = (bs[i]?).map fun c => match memN (k + i) W with
    | true => some ⟨⟨(match memN (k + i) G with
      | true => 1
      | false => 0), c.h.z, c.h.ro, c.h.R⟩, bumpOs G c.cs⟩
    | false => none
  | [], k, i => by simp [outL]
  | c :: r, k, 0 => by simp [outL]
  | c :: r, k, i + 1 => by
    simp only [outL, List.getElem?_cons_succ]
    rw [outL_get (bs := r), show k + 1 + i = k + (i + 1) by omega]

theorem outL_len {W G : List Nat} : ∀ {bs : List BC} {k : Nat}, (outL W G k bs).length = bs.length
  | [], k => rfl
  | c :: r, k => by simp [outL, outL_len (bs := r)]

theorem outOK_get {W G : List Nat} {m : Nat} : ∀ {bs : List BC} {k i : Nat} {c : BC}, outOK W G m k bs = true → bs[i]? = some c → (memN (k + i) W = true ∨ k + i < m) ∧ (memN (k + i) G = true → memN (k + i) W = true ∧ c.h.grows = true)
  | [], k, i, c, _, h => by simp at h
  | c0 :: r, k, i, c, hok, h => by
    unfold outOK at hok
    split at hok
    · rename_i hb
      cases i with
      | zero =>
        simp at h; subst h
        simp only [Nat.add_zero, Bool.and_eq_true, Bool.or_eq_true, Bool.not_eq_true'] at hb ⊢
        refine ⟨hb.1.imp id fun e => Nat.le_of_ble_eq_true e, fun hG => ?_⟩
        rcases hb.2 with e | e
        · rw [hG] at e; cases e
        · exact e
      | succ i =>
        have := outOK_get (k := k + 1) (i := i) hok (by simpa using h)
        rw [show k + 1 + i = k + (i + 1) by omega] at this
        exact this
    · cases hok

theorem hdsIn_ro {W G : List Nat} {bs0 bsK : List BC} (hl : bs0.length ≤ bsK.length) : hdsIn bs0 (outL W G 0 bsK) = hdsB (roW W 0 bs0) := by
  funext b
  unfold hdsIn hdsB
  rw [roW_get, outL_get]
  cases h0 : bs0[b]? with
  | none => rfl
  | some c =>
    have hb : b < bsK.length := by have := (List.getElem?_eq_some_iff.1 h0).1; omega
    simp only [hb, getElem?_pos, Option.map_some, Nat.zero_add]
    cases memN b W <;> rfl

theorem MR.fr_eq {fr' : Nat → Prop} (h : MR w0 may φ μ ρ fr w) (e : ∀ b, fr' b ↔ fr b) : MR w0 may φ μ ρ fr' w := h.drop fun b hb => (e b).1 hb

/-- Blocks that become more, by another version. -/
def phiG (φ : Phi) (G : List Nat) : Phi := fun i => match φ i with
  | some j => match memN i G with
    | true => some ⟨j.ty, j.a, j.z, j.n, 1, j.ro⟩
    | false => some j
  | none => none

theorem phiG_get {G : List Nat} {i : Nat} {j' : Inf} (h : phiG φ G i = some j') : ∃ j, φ i = some j ∧ j'.ty = j.ty ∧ j'.a = j.a ∧ j'.z = j.z ∧ j'.n = j.n ∧ j'.ro = j.ro ∧ (memN i G = false → j' = j) ∧ (memN i G = true → j'.v = 1) := by
  unfold phiG at h
  split at h
  · rename_i j hj
    split at h
    · rename_i hG
      simp only [Option.some.injEq] at h; subst h
      exact ⟨j, hj, rfl, rfl, rfl, rfl, rfl, (fun e => by rw [hG] at e; cases e), fun _ => rfl⟩
    · rename_i hG
      simp only [Option.some.injEq] at h; subst h
      exact ⟨j, hj, rfl, rfl, rfl, rfl, rfl, (fun _ => rfl), (fun e => by rw [hG] at e; cases e)⟩
  · cases h

theorem phiG_mk {G : List Nat} {i : Nat} {j : Inf} (h : φ i = some j) : phiG φ G i = some (match memN i G with
    | true => ⟨j.ty, j.a, j.z, j.n, 1, j.ro⟩
    | false => j) := by
  unfold phiG; rw [h]; simp only; split <;> rfl

theorem bump_moves {G : List Nat} (hv : ∀ i j, φ i = some j → j.v = 0) {b v : Nat} : Moves φ (phiG φ G) b v b (match memN b G with
    | true => v + 1
    | false => v) := by
  intro j hj hle
  have h0 := hv b j hj
  refine ⟨_, phiG_mk hj, ?_, ?_⟩
  · cases memN b G
    · exact hle
    · show v + 1 ≤ 1; omega
  · cases memN b G
    · intro e; exact ⟨e, rfl, rfl, rfl⟩
    · intro e
      have e : v + 1 = 1 := e
      exact ⟨by omega, rfl, rfl, rfl⟩

theorem bumpC_rel {G : List Nat} (hv : ∀ i j, φ i = some j → j.v = 0) : ∀ {l : List (Nat × Nat)} {vs : List Value}, bumpC G l = true → All2 (prel φ) l vs → All2 (prel (phiG φ G)) l vs
  | [], vs, _, h => by cases h; exact .nil
  | (b, o) :: r, vs, hb, h => by
    unfold bumpC at hb
    split at hb
    · cases hb
    · rename_i hG
      cases h with
      | cons x y =>
        refine .cons (prel_move x ?_) (bumpC_rel hv hb y)
        have := bump_moves hv (G := G) (b := b) (v := 0)
        rw [hG] at this
        exact this

theorem bumpA_rel {G : List Nat} (hv : ∀ i j, φ i = some j → j.v = 0) {x : At} {v : Value} (h : x.rel φ v) : (bumpA G x).rel (phiG φ G) v := by
  have hu := At.rel_one h
  cases x with
  | bool s b => exact h
  | int s k n => exact h
  | str s y => exact h
  | nil => exact h
  | nils => exact h
  | nilfn => exact h
  | unk => exact h
  | ptr b o =>
    simp only [bumpA]
    have := bump_moves hv (G := G) (b := b) (v := 0)
    cases hG : memN b G with
    | true => exact hu
    | false => rw [hG] at this; exact prel_move h this
  | prw s b ver st e p q =>
    simp only [bumpA]
    have := bump_moves hv (G := G) (b := b) (v := ver)
    cases hG : memN b G <;> rw [hG] at this <;> exact vrel_move prwR_move h this
  | slc s b ver st e off len =>
    simp only [bumpA]
    have := bump_moves hv (G := G) (b := b) (v := ver)
    cases hG : memN b G <;> rw [hG] at this <;> exact vrel_move slcR_move h this
  | vec b ver e =>
    simp only [bumpA]
    have := bump_moves hv (G := G) (b := b) (v := ver)
    cases hG : memN b G <;> rw [hG] at this <;> exact vrel_move vecR_move h this
  | fn f caps =>
    simp only [bumpA]
    split
    · rename_i hb
      obtain ⟨cs, e, g⟩ := h
      exact ⟨cs, e, bumpC_rel hv hb g⟩
    · exact hu

theorem bumpL_rel {G : List Nat} (hv : ∀ i j, φ i = some j → j.v = 0) : ∀ {l : List At} {vs : List Value}, All2 (At.rel φ) l vs → All2 (At.rel (phiG φ G)) (bumpL G l) vs
  | _, _, .nil => .nil
  | _, _, .cons h t => .cons (bumpA_rel hv h) (bumpL_rel hv t)

theorem bumpV_rel {G : List Nat} (hv : ∀ i j, φ i = some j → j.v = 0) {x : LV} {v : Value} (h : x.rel φ v) : (bumpV G x).rel (phiG φ G) v := by
  cases x with
  | a x => exact bumpA_rel hv h
  | g l => obtain ⟨cs, e, k⟩ := h; exact ⟨cs, e, bumpL_rel hv k⟩
  | t l => trivial
  | u => trivial

theorem bumpOs_get {G : List Nat} : ∀ {l : List (Option At)} {i : Nat} {x : At}, (bumpOs G l)[i]? = some (some x) → ∃ y, l[i]? = some (some y) ∧ x = bumpA G y
  | [], i, x, h => by simp [bumpOs] at h
  | some y :: r, 0, x, h => by simp [bumpOs] at h; exact ⟨y, by simp, h.symm⟩
  | none :: r, 0, x, h => by simp [bumpOs] at h
  | some y :: r, i + 1, x, h => by obtain ⟨z, h1, h2⟩ := bumpOs_get (l := r) (by simpa [bumpOs] using h); exact ⟨z, by simpa using h1, h2⟩
  | none :: r, i + 1, x, h => by obtain ⟨z, h1, h2⟩ := bumpOs_get (l := r) (by simpa [bumpOs] using h); exact ⟨z, by simpa using h1, h2⟩

/-- Out of the loop: what the code around is handed. -/
theorem leave_mr {W G : List Nat} {bs0 : List BC} {hK : HS} {φK : Phi} {w' : World} {a' : Act} (hM0 : MR w0 may φ (memOf bs0) (hdsIn bs0 (outL W G 0 hK.bs)) (fun b => bs0.length ≤ b) w) (h0 : w0 = w)
    (hv0 : ∀ i j, φ i = some j → j.v = 0) (hkp : Kp G φ φK) (hr : HR n lv w0 may φK hK a' w') (hok : outOK W G bs0.length 0 hK.bs = true) (hl : bs0.length ≤ hK.bs.length) :
    φ.le (phiG φK G) ∧ MR w0 may (phiG φK G) (memAft bs0 (outL W G 0 hK.bs)) (hdsAft bs0 (outL W G 0 hK.bs)) (fun b => (outL W G 0 hK.bs).length ≤ b) w' := by
  have hvK : ∀ i j, φK i = some j → j.v = 0 := fun i j hj => (hr.v0 i j hj).2
  have hM := hr.sr.mr
  have hle : φ.le (phiG φK G) := by
    intro i j hj
    obtain ⟨j', h1, h2, h3⟩ := hkp i j hj
    refine ⟨_, phiG_mk h1, ?_⟩
    cases hG : memN i G with
    | true => right; show j.v < 1; rw [hv0 i j hj]; omega
    | false => left; exact (h3 hG).symm
  refine ⟨hle, ?_⟩
  -- what is told of a block
  have told : ∀ i c, aft bs0 (outL W G 0 hK.bs) i = some c → (∃ c1, hK.bs[i]? = some c1 ∧ memN i W = true ∧ (memN i G = true → c1.h.grows = true) ∧ c = ⟨⟨(match memN i G with
      | true => 1
      | false => 0), c1.h.z, c1.h.ro, c1.h.R⟩, bumpOs G c1.cs⟩) ∨ (memN i W = false ∧ memN i G = false ∧ ∃ c0, bs0[i]? = some c0 ∧ c = ⟨roH c0.h, c0.cs⟩) := by
    intro i c h
    unfold aft at h
    rw [outL_get] at h
    cases hb : hK.bs[i]? with
    | none => rw [hb] at h; simp at h
    | some c1 =>
      rw [hb] at h
      obtain ⟨k1, k2⟩ := outOK_get hok hb
      rw [Nat.zero_add] at k1 k2
      simp only [Option.map_some, Nat.zero_add] at h
      cases hW : memN i W with
      | true =>
        rw [hW] at h
        simp only [Option.some.injEq] at h
        exact .inl ⟨c1, rfl, rfl, fun hG => (k2 hG).2, h.symm⟩
      | false =>
        rw [hW] at h
        simp only at h
        have hG : memN i G = false := by
          cases hG : memN i G with
          | false => rfl
          | true => have := (k2 hG).1; rw [hW] at this; cases this
        split at h
        · rename_i c0 hc0
          simp only [Option.some.injEq] at h
          exact .inr ⟨rfl, hG, c0, hc0, h.symm⟩
        · cases h
  -- a block that is not written
  have keep : ∀ i c0, memN i W = false → memN i G = false → bs0[i]? = some c0 → hdsIn bs0 (outL W G 0 hK.bs) i = some (roH c0.h) ∧ ∃ j, φ i = some j ∧ phiG φK G i = some j ∧ ∀ r o, j.a = some (r, o) → w'.heap[r]? = w.heap[r]? := by
    intro i c0 hW hG hc0
    have hi : i < hK.bs.length := by have := (List.getElem?_eq_some_iff.1 hc0).1; omega
    have e1 : hdsIn bs0 (outL W G 0 hK.bs) i = some (roH c0.h) := by
      unfold hdsIn
      rw [hc0, outL_get]
      simp [hi, hW]
    obtain ⟨j, g1, g2⟩ := hM0.hdr i _ e1
    refine ⟨e1, j, g1, ?_, fun r o ha => ?_⟩
    · obtain ⟨j', h1, _, h3⟩ := hkp i j g1
      rw [phiG_mk h1, hG, h3 hG]
    · have hro : j.ro = true := g2.2.1
      obtain ⟨k1, k2⟩ := hM0.keep i j r o g1 ha hro
      rw [hM.block r k1 k2, h0]
  have hdr : ∀ i h, hdsAft bs0 (outL W G 0 hK.bs) i = some h → (∃ h1, hdsB hK.bs i = some h1 ∧ memN i W = true ∧ (memN i G = true → h1.grows = true) ∧ h = ⟨(match memN i G with
      | true => 1
      | false => 0), h1.z, h1.ro, h1.R⟩) ∨ (memN i W = false ∧ memN i G = false ∧ ∃ c0, bs0[i]? = some c0 ∧ h = roH c0.h) := by
    intro i h hh
    unfold hdsAft at hh
    split at hh
    · rename_i c hc
      simp only [Option.some.injEq] at hh; subst hh
      rcases told i c hc with ⟨c1, g1, g2, g3, rfl⟩ | ⟨g1, g2, c0, g3, rfl⟩
      · exact .inl ⟨c1.h, by simp [hdsB, g1], g2, g3, rfl⟩
      · exact .inr ⟨g1, g2, c0, g3, rfl⟩
    · cases hh
  have cell : ∀ k x, memAft bs0 (outL W G 0 hK.bs) k = some x → (∃ y, memOf hK.bs k = some y ∧ memN (k / 65536) W = true ∧ x = bumpA G y) ∨ (memN (k / 65536) W = false ∧ memN (k / 65536) G = false ∧ (∃ c0, bs0[k / 65536]? = some c0) ∧ memOf bs0 k = some x) := by
    intro k x hx
    unfold memAft at hx
    split at hx
    · rename_i c hc
      rcases told _ c hc with ⟨c1, g1, g2, g3, rfl⟩ | ⟨g1, g2, c0, g3, rfl⟩
      · unfold cellOf at hx
        split at hx
        · rename_i y hy
          simp only [Option.some.injEq] at hx; subst hx
          obtain ⟨z, k1, k2⟩ := bumpOs_get hy
          exact .inl ⟨z, by simp [memOf, g1, cellOf, k1], g2, k2⟩
        · cases hx
      · exact .inr ⟨g1, g2, ⟨c0, g3⟩, by simp only [memOf, g3]; exact hx⟩
    · cases hx
  constructor
  · intro k x hx
    rcases cell k x hx with ⟨y, h1, h2, rfl⟩ | ⟨h1, h2, ⟨c0, h3⟩, h4⟩
    · by_cases hy : y = .unk
      · subst hy; exact .inl rfl
      · rcases hM.cell k y h1 with e | ⟨j, g1, g2, g3, r, o, arr, ty, fz, v, g4, g5, g6, g7⟩
        · exact absurd e hy
        · have hG : memN (k / 65536) G = false := by
            cases hG : memN (k / 65536) G with
            | false => rfl
            | true =>
              exfalso
              obtain ⟨c1, q1⟩ : ∃ c1, hK.bs[k / 65536]? = some c1 := by
                unfold memOf at h1
                split at h1
                · rename_i c1 hc1; exact ⟨c1, hc1⟩
                · cases h1
              have := (outOK_get hok q1).2 (by rw [Nat.zero_add]; exact hG)
              have hap := hM.apart k y c1.h h1 hy (by simp [hdsB, q1])
              have hg := hap.1
              rw [this.2] at hg
              cases hg
          refine .inr ⟨j, ?_, g2, g3, r, o, arr, ty, fz, v, g4, g5, g6, bumpA_rel hvK g7⟩
          rw [phiG_mk g1, hG]
    · rcases hM0.cell k x h4 with e | hc
      · exact .inl e
      · obtain ⟨j, g1, g2⟩ := hc
        obtain ⟨_, j', k1, k2, k3⟩ := keep _ c0 h1 h2 h3
        rw [k1] at g1; simp only [Option.some.injEq] at g1; subst g1
        exact .inr ⟨j', k2, g2.other hle k3⟩
  · intro i h hh
    rcases hdr i h hh with ⟨h1, g1, g2, g3, rfl⟩ | ⟨g1, g2, c0, g3, rfl⟩
    · obtain ⟨j, k1, k2, k3, k4, k5⟩ := hM.hdr i h1 g1
      refine ⟨_, phiG_mk k1, ?_⟩
      cases hG : memN i G with
      | true =>
        refine ⟨rfl, k3, fun hg => ?_, k5⟩
        have := g3 hG
        rw [show Hd.grows ⟨1, h1.z, h1.ro, h1.R⟩ = h1.grows from rfl, this] at hg
        cases hg
      | false =>
        exact ⟨hvK i j k1, k3, fun hg => k4 hg, k5⟩
    · obtain ⟨e1, j, k1, k2, k3⟩ := keep i c0 g1 g2 g3
      obtain ⟨j', q1, q2⟩ := hM0.hdr i _ e1
      rw [k1] at q1; simp only [Option.some.injEq] at q1; subst q1
      exact ⟨j, k2, q2.other k3⟩
  · intro k x h hx hne hh
    rcases cell k x hx with ⟨y, h1, h2, rfl⟩ | ⟨h1, h2, ⟨c0, h3⟩, h4⟩
    · rcases hdr _ h hh with ⟨hh1, g1, g2, g3, rfl⟩ | ⟨g1, _⟩
      · have hy : y ≠ .unk := fun e => by subst e; exact hne rfl
        exact hM.apart k y hh1 h1 hy g1
      · rw [h2] at g1; cases g1
    · rcases hdr _ h hh with ⟨_, _, g2, _⟩ | ⟨_, _, c1, g3, rfl⟩
      · rw [h1] at g2; cases g2
      · rw [h3] at g3; simp only [Option.some.injEq] at g3; subst g3
        exact hM0.apart k x _ h4 hne (keep _ c0 h1 h2 h3).1
  · intro i i' j j' r o o' hi hi' ha ha'
    obtain ⟨j1, h1, _, h3, _, _, h6, _⟩ := phiG_get hi
    obtain ⟨j2, g1, _, g3, _, _, g6, _⟩ := phiG_get hi'
    rcases hM.inj i i' j1 j2 r o o' h1 g1 (h3 ▸ ha) (g3 ▸ ha') with e | ⟨e1, e2⟩
    · exact .inl e
    · exact .inr ⟨h6.trans e1, g6.trans e2⟩
  · intro i j r o hi ha hro
    obtain ⟨j1, h1, h2, h3, h4, _, h6, _⟩ := phiG_get hi
    rw [h2, h4]
    exact hM.own i j1 r o h1 (h3 ▸ ha) (h6 ▸ hro)
  · intro i j r o hi ha hro
    obtain ⟨j1, h1, h2, h3, h4, _, h6, _⟩ := phiG_get hi
    exact hM.keep i j1 r o h1 (h3 ▸ ha) (h6 ▸ hro)
  · intro i hi
    have hi : (outL W G 0 hK.bs).length ≤ i := hi
    rw [outL_len] at hi
    have := hM.dom i hi
    simp [phiG, this]
  · intro i j r o hi ha
    obtain ⟨j1, h1, h2, h3, _⟩ := phiG_get hi
    exact hM.big i j1 r o h1 (h3 ▸ ha)
  · exact hM.os
  · exact hM.tape
  · exact hM.output
  · exact hM.size
  · exact hM.block
  · exact hM.frz

end
end Go.Proofs.Ytcdejlgophpdjaa.V
end

section
namespace Go.Proofs.Ytcdejlgophpdjaa.V
open Go Go.RowKit

section
variable {P : Program} {T : Tab} {w0 : World} {may : Nat → Prop} {φ : Phi} {σ : Sig} {μ : Mem} {ρ : Hds} {fr : Nat → Prop} {w : World} {a : Act} {n : Nat} {lv ts : List Nat}

def phiN (φ : Phi) (m : Nat) : Phi := fun i => match Nat.beq i m with
  | true => some ⟨0, none, 0, 0, 0, false⟩
  | false => φ i

theorem phiN_other {m i : Nat} (h : i ≠ m) : phiN φ m i = φ i := by
  unfold phiN
  have : Nat.beq i m = false := by
    cases hb : Nat.beq i m
    · rfl
    · exact absurd (Nat.eq_of_beq_eq_true hb) h
  rw [this]
theorem phiN_at {m : Nat} : phiN φ m m = some ⟨0, none, 0, 0, 0, false⟩ := by simp [phiN]

theorem phiN_get {m i : Nat} {j : Inf} (h : phiN φ m i = some j) : (i = m ∧ j = ⟨0, none, 0, 0, 0, false⟩) ∨ (i ≠ m ∧ φ i = some j) := by
  by_cases e : i = m
  · subst e; rw [phiN_at] at h; simp only [Option.some.injEq] at h; exact .inl ⟨rfl, h.symm⟩
  · rw [phiN_other e] at h; exact .inr ⟨e, h⟩

def nilBC (sh : List Kd) : BC := ⟨⟨0, 0, false, some ⟨0, sh, [], none⟩⟩, []⟩

theorem nil_mr {bs : List BC} {sh : List Kd} (hM : MR w0 may φ (memOf bs) (hdsB bs) (fun b => bs.length ≤ b) w) : φ.le (phiN φ bs.length) ∧ MR w0 may (phiN φ bs.length) (memOf (bs ++ [nilBC sh])) (hdsB (bs ++ [nilBC sh])) (fun b => (bs ++ [nilBC sh]).length ≤ b) w := by
  have hnone : φ bs.length = none := hM.dom _ (Nat.le_refl _)
  have hle : φ.le (phiN φ bs.length) := by
    intro i j hj
    have : i ≠ bs.length := fun e => by subst e; rw [hnone] at hj; cases hj
    exact ⟨j, by rw [phiN_other this]; exact hj, j.le_refl⟩
  have mem : ∀ k x, memOf (bs ++ [nilBC sh]) k = some x → k / 65536 ≠ bs.length ∧ memOf bs k = some x := by
    intro k x hx
    unfold memOf at hx ⊢
    by_cases h : k / 65536 < bs.length
    · rw [List.getElem?_append_left h] at hx
      exact ⟨by omega, hx⟩
    · rw [List.getElem?_append_right (by omega)] at hx
      cases hk : k / 65536 - bs.length with
      | zero => rw [hk] at hx; simp [nilBC, cellOf] at hx
      | succ q => rw [hk] at hx; simp at hx
  have hd : ∀ i h, hdsB (bs ++ [nilBC sh]) i = some h → (i ≠ bs.length ∧ hdsB bs i = some h) ∨ (i = bs.length ∧ h = (nilBC sh).h) := by
    intro i h hh
    unfold hdsB at hh ⊢
    by_cases hi : i < bs.length
    · rw [List.getElem?_append_left hi] at hh
      exact .inl ⟨by omega, hh⟩
    · rw [List.getElem?_append_right (by omega)] at hh
      cases hk : i - bs.length with
      | zero => rw [hk] at hh; simp at hh; exact .inr ⟨by omega, hh.symm⟩
      | succ q => rw [hk] at hh; simp at hh
  refine ⟨hle, ?_⟩
  constructor
  · intro k x hx
    obtain ⟨h1, h2⟩ := mem k x hx
    rcases hM.cell k x h2 with e | ⟨j, g1, g2⟩
    · exact .inl e
    · exact .inr ⟨j, by rw [phiN_other h1]; exact g1, g2.other hle fun _ _ _ => rfl⟩
  · intro i h hh
    rcases hd i h hh with ⟨h1, h2⟩ | ⟨rfl, rfl⟩
    · obtain ⟨j, g1, g2⟩ := hM.hdr i h h2
      exact ⟨j, by rw [phiN_other h1]; exact g1, g2⟩
    · refine ⟨_, phiN_at, rfl, rfl, fun hg => by simp [nilBC, Hd.grows] at hg, fun R hR => ?_⟩
      simp only [nilBC, Option.some.injEq] at hR; subst hR
      exact ⟨rfl, (fun N hN => by cases hN), .inl ⟨rfl, rfl, rfl⟩⟩
  · intro k x h hx hne hh
    obtain ⟨h1, h2⟩ := mem k x hx
    rcases hd _ h hh with ⟨_, g2⟩ | ⟨g1, _⟩
    · exact hM.apart k x h h2 hne g2
    · exact absurd g1 h1
  · intro i i' j j' r o o' hi hi' ha ha'
    rcases phiN_get hi with ⟨_, rfl⟩ | ⟨_, h1⟩
    · cases ha
    · rcases phiN_get hi' with ⟨_, rfl⟩ | ⟨_, h2⟩
      · cases ha'
      · exact hM.inj i i' j j' r o o' h1 h2 ha ha'
  · intro i j r o hi ha hro
    rcases phiN_get hi with ⟨_, rfl⟩ | ⟨_, h1⟩
    · cases ha
    · exact hM.own i j r o h1 ha hro
  · intro i j r o hi ha hro
    rcases phiN_get hi with ⟨_, rfl⟩ | ⟨_, h1⟩
    · cases ha
    · exact hM.keep i j r o h1 ha hro
  · intro i hi
    have hi : (bs ++ [nilBC sh]).length ≤ i := hi
    simp at hi
    rw [phiN_other (by omega)]
    exact hM.dom i (by show bs.length ≤ i; omega)
  · intro i j r o hi ha
    rcases phiN_get hi with ⟨_, rfl⟩ | ⟨_, h1⟩
    · cases ha
    · exact hM.big i j r o h1 ha
  · exact hM.os
  · exact hM.tape
  · exact hM.output
  · exact hM.size
  · exact hM.block
  · exact hM.frz

theorem conv_hr {G : List Nat} : ∀ {CV : List (Nat × List Kd)} {φ : Phi} {h : HS}, HR n lv w0 may φ h a w → ∃ ψ, Kp G φ ψ ∧ HR n lv w0 may ψ (conv CV h) a w
  | [], φ, h, hr => ⟨φ, Kp.refl fun i j hj => (hr.v0 i j hj).2, hr⟩
  | (t, sh) :: r, φ, h, hr => by
    unfold conv
    split
    · rename_i hn
      obtain ⟨hle, hm⟩ := nil_mr (sh := sh) hr.sr.mr
      have hnone : φ h.bs.length = none := hr.sr.mr.dom _ (Nat.le_refl _)
      have hk : Kp G φ (phiN φ h.bs.length) := by
        intro i j hj
        have : i ≠ h.bs.length := fun e => by subst e; rw [hnone] at hj; cases hj
        exact ⟨j, by rw [phiN_other this]; exact hj, (hr.v0 i j hj).2, fun _ => rfl⟩
      have hr' : HR n lv w0 may (phiN φ h.bs.length) ⟨(t, .a (.vec h.bs.length 0 sh.length)) :: h.tm, h.bs ++ [nilBC sh]⟩ a w := by
        refine ⟨⟨?_, hr.sr.sz, hr.sr.df, hm⟩, ?_⟩
        · intro s x hx
          unfold filt at hx
          split at hx
          · rename_i hs
            unfold look at hx
            split at hx
            · rename_i hb
              have := Nat.eq_of_beq_eq_true hb
              subst this
              simp only [Option.some.injEq] at hx; subst hx
              have hv : LV.rel φ (.a .nils) (a.tmps.getD s undef) := hr.sr.tr s _ (by unfold filt; rw [hs]; exact hn)
              have hv : a.tmps.getD s undef = .slice none 0 0 := hv
              rw [hv]
              exact ⟨⟨rfl, rfl⟩, _, phiN_at, Nat.le_refl _, fun _ => .inl ⟨rfl, rfl, rfl⟩⟩
            · exact LV.rel_mono hle (hr.sr.tr s x (by unfold filt; rw [hs]; exact hx))
          · cases hx
        · intro i j hj
          rcases phiN_get hj with ⟨rfl, rfl⟩ | ⟨_, h1⟩
          · exact ⟨by simp, rfl⟩
          · obtain ⟨g1, g2⟩ := hr.v0 i j h1
            exact ⟨by simp; omega, g2⟩
      obtain ⟨ψ, k1, k2⟩ := conv_hr (CV := r) hr'
      exact ⟨ψ, hk.trans k1, k2⟩
    · exact conv_hr hr

theorem ordT_look {tm : List (Nat × LV)} {t : Nat} {x : LV} : ∀ {l : List Nat}, look (ordT tm l) t = some x → look tm t = some x
  | [], h => by simp [ordT, look] at h
  | s :: r, h => by
    unfold ordT at h
    split at h
    · rename_i v hv
      unfold look at h
      split at h
      · rename_i hb
        have := Nat.eq_of_beq_eq_true hb
        subst this
        simp only [Option.some.injEq] at h; subst h
        exact hv
      · exact ordT_look h
    · exact ordT_look h

theorem ordH_hr {h : HS} (hr : HR n lv w0 may φ h a w) : HR n lv w0 may φ (ordH ts h) a w := by
  refine ⟨⟨?_, hr.sr.sz, hr.sr.df, hr.sr.mr⟩, hr.v0⟩
  intro s x hx
  unfold filt at hx
  split at hx
  · rename_i hs
    exact hr.sr.tr s x (by unfold filt; rw [hs]; exact ordT_look hx)
  · cases hx

theorem roW_len {W : List Nat} : ∀ {l : List BC} {k : Nat}, (roW W k l).length = l.length
  | [], k => rfl
  | c :: r, k => by simp [roW, roW_len (l := r)]

theorem tmL_look {G foot : List Nat} {id t : Nat} {x : LV} {tm : List (Nat × LV)} : ∀ {l : List Nat}, look (tmL G ρ foot id tm l) t = some x → x = .u ∨ ∃ v, look tm t = some v ∧ backV ρ foot id (bumpV G v) = some x
  | [], h => by simp [tmL, look] at h
  | s :: r, h => by
    unfold tmL look at h
    split at h
    · rename_i hb
      have := Nat.eq_of_beq_eq_true hb
      subst this
      simp only [Option.some.injEq] at h
      split at h
      · rename_i v hv
        split at h
        · rename_i u' hu
          exact .inr ⟨v, hv, by rw [hu, h]⟩
        · exact .inl h.symm
      · exact .inl h.symm
    · exact tmL_look h

theorem tmL_has {G foot : List Nat} {id t : Nat} {tm : List (Nat × LV)} : ∀ {l : List Nat}, t ∈ l → look (tmL G ρ foot id tm l) t ≠ none
  | s :: r, h => by
    unfold tmL look
    cases hb : Nat.beq t s with
    | true => simp
    | false =>
      rcases List.mem_cons.1 h with e | h
      · subst e; simp at hb
      · exact tmL_has h

theorem look_over {β : Type} {f : Nat → Option β} {t : Nat} : ∀ {l : List (Nat × β)}, look l t ≠ none → over l f t = look l t
  | [], h => by simp [look] at h
  | (k, v) :: r, h => by
    unfold look at h ⊢
    unfold over
    cases hb : Nat.beq t k with
    | true => rfl
    | false => rw [hb] at h; exact look_over h

def exsOK {α : Type} (XS : List X) : List (X × Bool × α) → Bool
  | [] => true
  | (x, _, _) :: r => match xeq x .n || XS.any (xeq x) with
    | true => exsOK XS r
    | false => false

theorem xeq_refl (x : X) : xeq x x = true := by cases x <;> simp [xeq]

theorem lrun_in {α : Type} {XS : List X} {st : α → List Prop × List (X × Bool × α)} (hX : ∀ v, exsOK XS (st v).2 = true) : ∀ (k : Nat) (v : α) {x : X} {v' : α}, lrun st k v = some (x, v') → x = .n ∨ x ∈ XS
  | 0, v, x, v', h => by simp [lrun] at h
  | k + 1, v, x, v', h => by
    have key : ∀ {l : List (X × Bool × α)} {y : X} {v'' : α}, exsOK XS l = true → pick1 l = some (y, v'') → y = .n ∨ y ∈ XS := by
      intro l
      induction l with
      | nil => intro y v'' _ h; simp [pick1] at h
      | cons q r ih =>
        obtain ⟨z, g, u⟩ := q
        intro y v'' he h
        unfold exsOK at he
        split at he
        · rename_i hz
          cases g with
          | true =>
            simp only [pick1, Option.some.injEq, Prod.mk.injEq] at h
            obtain ⟨rfl, _⟩ := h
            simp only [Bool.or_eq_true, List.any_eq_true] at hz
            rcases hz with hz | ⟨x', h1, h2⟩
            · exact .inl (xeq_spec hz)
            · rw [xeq_spec h2]; exact .inr h1
          | false => exact ih he h
        · cases he
    simp only [lrun] at h
    split at h
    · exact lrun_in hX k _ h
    · exact key (hX v) h

theorem altsL_mem {id : Nat} {d : Pre} {nx : Nat} {g : X → Bool} {al : Alt} : ∀ {XS : List X}, al ∈ altsL id XS d nx g ↔ ∃ x ∈ XS, al = out1 id ⟨x, true, g x, d, nx⟩
  | [] => by simp [altsL]
  | x :: r => by simp only [altsL, List.mem_cons, altsL_mem (XS := r), exists_eq_or_imp]

/-! Where the loops stand. -/
def subs : Code → Nat → Nat → List Code
  | .seq a b, p, q => subs a (2 * p) q ++ subs b (2 * p + 1) q
  | .cond _ a b, p, q => subs a (2 * p) q ++ subs b (2 * p + 1) q
  | .block id a, p, q => (match Nat.beq p q with
    | true => [.block id a]
    | false => []) ++ subs a (2 * p) q
  | .loop a, p, q => subs a (2 * p) q
  | _, _, _ => []

theorem LOK_of {LT : List (Nat × Sum)} : ∀ (c : Code) (p : Nat), (∀ q f id b, (q, f) ∈ LT → Code.block id b ∈ subs c p q → SumOK P n lv (.block id b) f) → LOK P n lv LT c p
  | .seq a b, p, h => ⟨LOK_of a _ fun q f id b' hq hm => h q f id b' hq (by simp [subs, hm]), LOK_of b _ fun q f id b' hq hm => h q f id b' hq (by simp [subs, hm])⟩
  | .cond _ a b, p, h => ⟨LOK_of a _ fun q f id b' hq hm => h q f id b' hq (by simp [subs, hm]), LOK_of b _ fun q f id b' hq hm => h q f id b' hq (by simp [subs, hm])⟩
  | .block id a, p, h => ⟨fun f hf => h p f id a hf (by simp [subs]), LOK_of a _ fun q f id' b' hq hm => h q f id' b' hq (by simp [subs, hm])⟩
  | .loop a, p, h => LOK_of a _ fun q f id b' hq hm => h q f id b' hq (by simpa [subs] using hm)
  | .skip, _, _ => trivial
  | .region .., _, _ => trivial
  | .rangeFunc .., _, _ => trivial
  | .exit _, _, _ => trivial
  | .scope _, _, _ => trivial
  | .label _, _, _ => trivial
  | .goto _, _, _ => trivial
  | .ret, _, _ => trivial
  | .refuse _, _, _ => trivial

theorem LOK_cons {LT : List (Nat × Sum)} {c : Code} {p q id : Nat} {b : Code} {f : Sum} (hs : subs c p q = [.block id b]) (hf : SumOK P n lv (.block id b) f) (h : ∀ q' f' id' b', (q', f') ∈ LT → Code.block id' b' ∈ subs c p q' → SumOK P n lv (.block id' b') f') :
    ∀ q' f' id' b', (q', f') ∈ (q, f) :: LT → Code.block id' b' ∈ subs c p q' → SumOK P n lv (.block id' b') f' := by
  intro q' f' id' b' hq hm
  rcases List.mem_cons.1 hq with e | hq
  · simp only [Prod.mk.injEq] at e
    obtain ⟨rfl, rfl⟩ := e
    rw [hs, List.mem_singleton] at hm
    rw [hm]; exact hf
  · exact h q' f' id' b' hq hm

theorem LOK_nil' {c : Code} {p : Nat} : ∀ q' f' id' b', (q', f') ∈ ([] : List (Nat × Sum)) → Code.block id' b' ∈ subs c p q' → SumOK P n lv (.block id' b') f' := by
  intro q' f' id' b' h; cases h

/-- What stands for a loop is so. -/
theorem loopS_ok (hT : TOK P T) (hF : P.follows .mixedOrders = true) {α : Type} [Inhabited α] {LT : List (Nat × Sum)} {kf : Nat} {W G : List Nat} {c : Code} {p : Nat} {hd : α → HS} {rd : HS → Option α} {st : α → List Prop × List (X × Bool × α)} {F : Nat} {XS : List X} {CV : List (Nat × List Kd)} {id : Nat}
    (hE : ∀ v, bodyF P T n lv ts LT kf W G c p (hd v) = some ((st v).1, (st v).2.map fun q => (q.1, q.2.1, hd q.2.2))) (hR : ∀ h v, rd h = some v → h = hd v) (hX : ∀ v, exsOK XS (st v).2 = true) (hL : LOK P n lv LT c p) :
    SumOK P n lv (.block id (.loop c)) (loopS hd rd st F XS lv ts W G CV id) := by
  intro σ μ ρ nx obs alts h ho w0 may φ a w hs Q hQ
  unfold loopS loopI at h
  generalize footGo μ ρ 100 (refTs (filt lv σ) ρ ts) [] = foot at h
  split at h
  case h_2 => cases h
  rename_i bs0 hbs hnd
  split at h
  case h_2 => cases h
  rename_i v0 hv0
  unfold loopO at h
  generalize hK : hd (valOf (lrun st F v0)) = hKs at h
  split at h
  case h_2 => cases h
  rename_i hc
  simp only [Bool.and_eq_true] at hc
  obtain ⟨⟨hc1, hc2⟩, ⟨⟨⟨hc3, hc4⟩, hc5⟩, hc6⟩, hc7⟩ := hc
  have hl : bs0.length ≤ hKs.bs.length := Nat.le_of_ble_eq_true hc2
  cases hbk : backBlks ρ foot nx 0 (outL W G 0 hKs.bs) with
  | mk cs hss =>
  rw [hbk] at h
  simp only [Option.some.injEq, Prod.mk.injEq] at h
  obtain ⟨rfl, rfl⟩ := h
  have hok : lok st F v0 := ho.1
  refine wp_block (wp_loop_rounds F ?_)
  obtain ⟨hlen, _⟩ := blksOf_get hbs
  have hM0 := callee_mr (out := outL W G 0 hKs.bs) hs.mr hbs hnd
  have hvC : ∀ i j, phiC φ foot (outL W G 0 hKs.bs) i = some j → i < bs0.length ∧ j.v = 0 := by
    intro i j hj
    obtain ⟨b, j1, h1, _, rfl⟩ := phiC_get hj
    exact ⟨by rw [hlen]; exact (List.getElem?_eq_some_iff.1 h1).1, rfl⟩
  have hr0 : HR n lv w (mayC φ foot (outL W G 0 hKs.bs)) (phiC φ foot (outL W G 0 hKs.bs)) ⟨entT ρ foot (filt lv σ) lv, roW W 0 bs0⟩ a w := by
    refine ⟨⟨?_, hs.sz, hs.df, ?_⟩, fun i j hj => by show i < (roW W 0 bs0).length ∧ j.v = 0; rw [roW_len]; exact hvC i j hj⟩
    · intro t x hx
      unfold filt at hx
      split at hx
      · obtain ⟨v, h1, rfl⟩ := entT_look hx
        exact renV_rel (ren_moves hs.mr) (hs.tr t v h1)
      · cases hx
    · show MR w _ _ (memOf (roW W 0 bs0)) (hdsB (roW W 0 bs0)) (fun b => (roW W 0 bs0).length ≤ b) w
      rw [roW_mem, ← hdsIn_ro hl, roW_len]
      exact hM0
  obtain ⟨φ1, hk1, hr1⟩ := conv_hr (G := G) (CV := CV) hr0
  have hr2 := symH_hr (ordH_hr (ts := ts) hr1)
  rw [hR _ _ hv0] at hr2
  refine rounds_ok hT hF hE hL F v0 φ1 a w hr2 hok fun x v' ψ a' w' hrun hx hkp hhr hlen' => ?_
  have hv' : hd v' = hKs := by rw [← hK, hrun]; rfl
  rw [hv'] at hhr
  obtain ⟨g1, g2⟩ := leave_mr hM0 rfl (fun i j hj => (hvC i j hj).2) (hk1.trans hkp) hhr hc1 hl
  obtain ⟨q1, q2, q3⟩ := caller_mr hs.mr hbs hnd hc3 hc4 hc5 (Nat.le_of_ble_eq_true hc6) hc7 (fun j _ => by show nx ≤ nx + j; omega) g1 g2 hbk
  have hvK : ∀ i j, ψ i = some j → j.v = 0 := fun i j hj => (hhr.v0 i j hj).2
  have sr : SR n lv w0 may (phiB φ (phiG ψ G) ρ foot (outL W G 0 hKs.bs) nx) (over (tmL G ρ foot nx hKs.tm lv) σ) (over (pushL cs []) μ) (over (pushL hss []) ρ) (nx + 16) a' w' := by
    refine ⟨?_, hhr.sr.sz, hhr.sr.df, ?_⟩
    · intro t x hx
      unfold filt at hx
      split at hx
      · rename_i ht
        rw [look_over (tmL_has (memN_iff.1 ht))] at hx
        rcases tmL_look hx with rfl | ⟨v, h1, h2⟩
        · trivial
        · have hv := hhr.sr.tr t v (by unfold filt; rw [ht]; exact h1)
          exact (backV_rel q2 h2 (bumpV_rel hvK hv)).1
      · cases hx
    · have e1 : over (pushL cs []) μ = updL μ cs := over_of_updL cs [] μ
      have e2 : over (pushL hss []) ρ = updL ρ hss := over_of_updL hss [] ρ
      rw [e1, e2]
      refine q3.drop fun b hb => ?_
      have hb : nx + 16 ≤ b := hb
      exact ⟨by show nx ≤ b; omega, fun j _ => by omega⟩
  have hin : x ∈ XS := by
    rcases lrun_in hX F v0 hrun with e | e
    · exact absurd e hx
    · exact e
  have good : ∀ y : X, (out1 id ⟨x, true, true, ⟨tmL G ρ foot nx hKs.tm lv, pushL cs [], pushL hss []⟩, nx + 16⟩).x = y → Good n lv w0 may φ σ μ ρ y a' w' (altsL id XS ⟨tmL G ρ foot nx hKs.tm lv, pushL cs [], pushL hss []⟩ (nx + 16) fun x => isX x (lrun st F v0)) := by
    intro y hy
    have og : ∀ (z : X) (g : Bool), (out1 id ⟨z, true, g, ⟨tmL G ρ foot nx hKs.tm lv, pushL cs [], pushL hss []⟩, nx + 16⟩).g = g ∧ (out1 id ⟨z, true, g, ⟨tmL G ρ foot nx hKs.tm lv, pushL cs [], pushL hss []⟩, nx + 16⟩).d = ⟨tmL G ρ foot nx hKs.tm lv, pushL cs [], pushL hss []⟩ ∧ (out1 id ⟨z, true, g, ⟨tmL G ρ foot nx hKs.tm lv, pushL cs [], pushL hss []⟩, nx + 16⟩).nx = nx + 16 := by
      intro z g
      unfold out1
      split
      · split <;> exact ⟨rfl, rfl, rfl⟩
      · exact ⟨rfl, rfl, rfl⟩
    have hon : ∀ z, isX z (lrun st F v0) = true → On n lv w0 may φ σ μ ρ y a' w' (out1 id ⟨z, true, isX z (lrun st F v0), ⟨tmL G ρ foot nx hKs.tm lv, pushL cs [], pushL hss []⟩, nx + 16⟩) := by
      intro z hz
      rw [hz]
      have hz' : z = x := by rw [hrun] at hz; exact xeq_spec hz
      subst hz'
      obtain ⟨o1, o2, o3⟩ := og z true
      exact ⟨hy, o1, _, q1, by rw [o2, o3]; exact sr⟩
    refine ⟨⟨_, altsL_mem.2 ⟨x, hin, rfl⟩, hon x (by rw [hrun]; exact xeq_refl x)⟩, fun al hal => ?_⟩
    obtain ⟨z, _, rfl⟩ := altsL_mem.1 hal
    cases hz : isX z (lrun st F v0) with
    | true => left; have := hon z hz; rw [hz] at this; exact this
    | false => right; exact (og z false).1
  cases x with
  | n => exact absurd rfl hx
  | r => exact hQ .r a' w' (good .r rfl)
  | e i =>
    by_cases hi : i = id
    · subst hi
      have := hQ .n a' w' (good .n (by simp [out1]))
      simpa [X.real, Exit.inBlock] using this
    · have hb : Nat.beq i id = false := by
        cases hb : Nat.beq i id
        · rfl
        · exact absurd (Nat.eq_of_beq_eq_true hb) hi
      have := hQ (.e i) a' w' (good (.e i) (by simp [out1, hb]))
      simpa [X.real, Exit.inBlock, hi] using this

end

def bodyOf (P : Program) (f : Nat) : Code := match P.funcs[f]? with
  | some fn => match fn.body with
    | some c => c
    | none => .skip
  | none => .skip

def ntOf (P : Program) (f : Nat) : Nat := match P.funcs[f]? with
  | some fn => fn.ntmps
  | none => 0

/-- The loop in the block at a place. -/
def loopOf : List Code → Code
  | [.block _ (.loop c)] => c
  | _ => .skip

def blockOf : List Code → Nat
  | [.block id _] => id
  | _ => 0

theorem evG_okL' {P : Program} {T : Tab} (hT : TOK P T) (hF : P.follows .mixedOrders = true) {k f : Nat} {lv : List Nat} {W : List Nat} {LT : List (Nat × Sum)}
    (hL : ∀ q' f' id' b', (q', f') ∈ LT → Code.block id' b' ∈ subs (bodyOf P f) 1 q' → SumOK P (ntOf P f) lv (.block id' b') f') : ConOK P f (evG P T k f lv LT W) := by
  refine evG_okL hT hF fun fn c hf hb => ?_
  have e1 : bodyOf P f = c := by simp [bodyOf, hf, hb]
  have e2 : ntOf P f = fn.ntmps := by simp [ntOf, hf]
  rw [e1, e2] at hL
  exact LOK_of c 1 hL

/-! Numbers that a loop leaves as they were. -/
def keepAlt (σ : Sig) : List Nat → Alt → List Prop × Alt
  | [], α => ([], α)
  | t :: r, α => match keepAlt σ r α with
    | (ps, β) => match look β.d.tm t, σ t with
      | some (.a (.int true k x)), some (.a (.int false k' n)) => match decide (k = k') with
        | true => ((β.g = true → x = n) :: ps, ⟨β.x, β.s, β.g, ⟨(t, .a (.int false k' n)) :: β.d.tm, β.d.mem, β.d.hs⟩, β.nx⟩)
        | false => (ps, β)
      | _, _ => (ps, β)

def keepAlts (σ : Sig) (K : List Nat) : List Alt → List Prop × List Alt
  | [] => ([], [])
  | α :: r => match keepAlt σ K α, keepAlts σ K r with
    | (ps, β), (qs, l) => (ps ++ qs, β :: l)

def keepS (K : List Nat) (f : Sum) : Sum := fun σ μ ρ nx => match f σ μ ρ nx with
  | some (obs, alts) => match keepAlts σ K alts with
    | (ps, l) => some (obs ++ ps, l)
  | none => none

section
variable {P : Program} {w0 : World} {may : Nat → Prop} {n : Nat} {lv : List Nat} {φ : Phi} {σ : Sig} {μ : Mem} {ρ : Hds} {x : X} {a' : Act} {w' : World}

theorem keepAlt_on : ∀ (K : List Nat) (α : Alt), (keepAlt σ K α).2.g = α.g ∧ (Alls (keepAlt σ K α).1 → On n lv w0 may φ σ μ ρ x a' w' α → On n lv w0 may φ σ μ ρ x a' w' (keepAlt σ K α).2)
  | [], α => ⟨rfl, fun _ h => h⟩
  | t :: r, α => by
    have ih := keepAlt_on r α
    simp only [keepAlt]
    generalize hk : keepAlt σ r α = q at ih
    obtain ⟨ps, β⟩ := q
    simp only at ih ⊢
    split
    · rename_i k y k' m h1 h2
      split
      · rename_i hkk
        have hkk := of_decide_eq_true hkk
        subst hkk
        refine ⟨ih.1, fun ho hon => ?_⟩
        obtain ⟨e1, e2, ψ, e3, e4⟩ := ih.2 ho.2 hon
        have hy : y = m := ho.1 e2
        subst hy
        refine ⟨e1, e2, ψ, e3, ⟨fun t' v' hv' => ?_, e4.sz, e4.df, e4.mr⟩⟩
        unfold filt at hv'
        split at hv'
        · rename_i hm
          rw [over_cons] at hv'
          by_cases htt : t' = t
          · subst htt
            rw [upd_same] at hv'
            simp only [Option.some.injEq] at hv'; subst hv'
            have := e4.tr t' _ (by unfold filt; rw [hm]; exact (look_over (by rw [h1]; simp)).trans h1)
            exact this
          · rw [upd_other _ _ htt] at hv'
            exact e4.tr t' _ (by unfold filt; rw [hm]; exact hv')
        · cases hv'
      · exact ih
    · exact ih

theorem keepAlts_good : ∀ {K : List Nat} {l : List Alt}, Alls (keepAlts σ K l).1 → (∀ α ∈ l, On n lv w0 may φ σ μ ρ x a' w' α → ∃ β ∈ (keepAlts σ K l).2, On n lv w0 may φ σ μ ρ x a' w' β) ∧
      ((∀ α ∈ l, On n lv w0 may φ σ μ ρ x a' w' α ∨ α.g = false) → ∀ β ∈ (keepAlts σ K l).2, On n lv w0 may φ σ μ ρ x a' w' β ∨ β.g = false)
  | K, [], _ => ⟨fun α h => (List.not_mem_nil h).elim, fun _ β h => (List.not_mem_nil h).elim⟩
  | K, α :: r, h => by
    have k1 := keepAlt_on (n := n) (lv := lv) (w0 := w0) (may := may) (φ := φ) (σ := σ) (μ := μ) (ρ := ρ) (x := x) (a' := a') (w' := w') K α
    simp only [keepAlts] at h ⊢
    obtain ⟨h1, h2⟩ := Alls.append.1 h
    obtain ⟨g1, g2⟩ := keepAlts_good (K := K) (l := r) h2
    refine ⟨fun γ hγ hon => ?_, fun hall β hβ => ?_⟩
    · rcases List.mem_cons.1 hγ with rfl | hγ
      · exact ⟨_, List.mem_cons_self, k1.2 h1 hon⟩
      · obtain ⟨β, b1, b2⟩ := g1 γ hγ hon
        exact ⟨β, List.mem_cons_of_mem _ b1, b2⟩
    · rcases List.mem_cons.1 hβ with rfl | hβ
      · exact (hall α (by simp)).imp (k1.2 h1) fun e => by rw [k1.1]; exact e
      · exact g2 (fun γ hγ => hall γ (List.mem_cons_of_mem _ hγ)) β hβ

theorem keepS_ok {c : Code} {f : Sum} {K : List Nat} (hf : SumOK P n lv c f) : SumOK P n lv c (keepS K f) := by
  intro σ μ ρ nx obs alts h
  unfold keepS at h
  split at h
  case h_2 => cases h
  rename_i obs0 alts0 h0
  simp only [Option.some.injEq, Prod.mk.injEq] at h
  obtain ⟨rfl, rfl⟩ := h
  intro ho w0 may φ a w hs Q hQ
  obtain ⟨o1, o2⟩ := Alls.append.1 ho
  refine hf σ μ ρ nx obs0 alts0 h0 o1 w0 may φ a w hs Q fun x a' w' hg => hQ x a' w' ?_
  obtain ⟨g1, g2⟩ := keepAlts_good (n := n) (lv := lv) (w0 := w0) (may := may) (φ := φ) (μ := μ) (ρ := ρ) (x := x) (a' := a') (w' := w') o2
  obtain ⟨⟨α, a1, a2⟩, a3⟩ := hg
  exact ⟨g1 α a1 a2, g2 a3⟩

end

end Go.Proofs.Ytcdejlgophpdjaa.V
end

section
namespace Go.Proofs.Ytcdejlgophpdjaa.V
open Go Go.RowKit Go.ChangeShapes Go.WideShapes Go.ChangeAt

def plainT (P : Program) : Nat → TypeId → Bool
  | 0, _ => false
  | d + 1, t => match P.underlying t with
    | some .bool | some (.int _) | some .string => true
    | some (.struct fs) => fs.toList.all fun f => plainT P d f.type
    | some (.array _ e) => plainT P d e
    | _ => false

theorem mapM_plain {α β : Type} {f g : α → Option (β × List MemPlace)} : ∀ {l : List α} {xs : List (β × List MemPlace)}, (∀ a ∈ l, ∀ x, f a = some x → g a = some x ∧ x.2 = []) → l.mapM f = some xs → l.mapM g = some xs ∧ xs.flatMap (·.2) = []
  | [], xs, _, h => by simp at h; subst h; exact ⟨by simp, rfl⟩
  | a :: l, xs, hh, h => by
    rw [List.mapM_cons] at h
    simp only [bind, Option.bind_eq_some_iff, pure, Option.some.injEq] at h
    obtain ⟨x, hx, xs', hxs, rfl⟩ := h
    obtain ⟨h1, h2⟩ := hh a (by simp) x hx
    obtain ⟨h3, h4⟩ := mapM_plain (l := l) (fun b hb => hh b (by simp [hb])) hxs
    refine ⟨?_, by simp [h2, h4]⟩
    rw [List.mapM_cons, h1]
    simp [h3]

section
variable {H : Type} {enc : TypeId × Value → H} {P : Program}

theorem trod_plain {w w' : World} {base base' : Nat} {sp sp' : Nat → Bool} {hd hd' : Bool} : ∀ (fuel d : Nat) (t : TypeId) (cs : List Value) (x : DataW H × List MemPlace), plainT P d t = true → DataW.trod enc P w base sp hd fuel t cs = some x →
    DataW.trod enc P w' base' sp' hd' fuel t cs = some x ∧ x.2 = []
  | 0, d, t, cs, x, _, h => by simp [DataW.trod] at h
  | fuel + 1, 0, t, cs, x, hp, h => by simp [plainT] at hp
  | fuel + 1, d + 1, t, cs, x, hp, h => by
    unfold plainT at hp
    unfold DataW.trod at h ⊢
    split at hp
    · rename_i hu
      simp only [hu] at h ⊢
      split at h <;> simp_all
      subst h; rfl
    · rename_i k hu
      simp only [hu] at h ⊢
      split at h <;> simp_all
      obtain ⟨_, rfl⟩ := h; rfl
    · rename_i hu
      simp only [hu] at h ⊢
      split at h <;> simp_all
      obtain ⟨_, rfl⟩ := h; rfl
    · rename_i fs hu
      simp only [hu] at h ⊢
      split at h
      · rename_i hl
        rw [if_pos hl]
        simp only [Option.map_eq_some_iff] at h ⊢
        obtain ⟨xs, hxs, rfl⟩ := h
        have := mapM_plain (fun f hf y hy => trod_plain fuel d f.type _ y (List.all_eq_true.1 hp f hf) hy) hxs (g := fun f => DataW.trod enc P w' base' sp' hd' fuel f.type ((cs.drop f.offset).take (P.cellsOf f.type)))
        exact ⟨⟨xs, this.1, rfl⟩, this.2⟩
      · cases h
    · rename_i n e hu
      simp only [hu] at h ⊢
      split at h
      · rename_i hl
        rw [if_pos hl]
        simp only [Option.map_eq_some_iff] at h ⊢
        obtain ⟨xs, hxs, rfl⟩ := h
        have := mapM_plain (fun i _ y hy => trod_plain fuel d e _ y hp hy) hxs (g := fun i => DataW.trod enc P w' base' sp' hd' fuel e ((cs.drop (i * P.cellsOf e)).take (P.cellsOf e)))
        exact ⟨⟨xs, this.1, rfl⟩, this.2⟩
      · cases h
    · cases hp

theorem trodAll_plain {w w' : World} {base base' : Nat} {sp sp' : Nat → Bool} {hd hd' : Bool} {D : Nat} : ∀ {ts : List TypeId} {vs : List Value} {ds : List (DataW H)} {ps : List MemPlace}, (ts.all fun t => plainT P D t) = true → DataW.TrodAll enc P w base sp hd ts vs ds ps →
    ps = [] ∧ ds.length = ts.length ∧ vs.length = ts.length ∧ DataW.TrodAll enc P w' base' sp' hd' ts vs ds []
  | [], [], [], ps, _, h => ⟨h, rfl, rfl, rfl⟩
  | [], [], _ :: _, ps, _, h => h.elim
  | [], _ :: _, _, ps, _, h => h.elim
  | t :: ts, [], _, ps, _, h => h.elim
  | t :: ts, v :: vs, [], ps, _, h => h.elim
  | t :: ts, v :: vs, d :: ds, ps, hp, h => by
    obtain ⟨p, q, ⟨fuel, h1⟩, h2, rfl⟩ := h
    simp only [List.all_cons, Bool.and_eq_true] at hp
    obtain ⟨k1, k2⟩ := trod_plain fuel D t _ _ hp.1 h1 (w' := w') (base' := base') (sp' := sp') (hd' := hd')
    obtain ⟨k3, k4, k5, k6⟩ := trodAll_plain hp.2 h2 (w' := w') (base' := base') (sp' := sp') (hd' := hd')
    simp only at k2
    subst k2 k3
    exact ⟨rfl, by simp [k4], by simp [k5], [], [], ⟨fuel, k1⟩, k6, rfl⟩

end

/-! What the arguments are: every number within its kind. -/
inductive Kn where
  | int (k : IntKind) | bool | str

def knOf : TypeDesc → Option Kn
  | .int k => some (.int k)
  | .bool => some .bool
  | .string => some .str
  | _ => none

def FitAt : Kn → At → Prop
  | .int k, x => ∃ n, x = .int true k n ∧ k.min ≤ n ∧ n ≤ k.max
  | .bool, x => ∃ b, x = .bool true b
  | .str, x => ∃ s, x = .str true s ∧ (s.size : Int) ≤ IntKind.i64.max

/-- For all cells of these kinds. -/
def AllFit : List Kn → (List At → Prop) → Prop
  | [], Q => Q []
  | .int k :: ks, Q => ∀ n : Int, k.min ≤ n → n ≤ k.max → AllFit ks fun l => Q (.int true k n :: l)
  | .bool :: ks, Q => ∀ b : Bool, AllFit ks fun l => Q (.bool true b :: l)
  | .str :: ks, Q => ∀ s : ByteArray, (s.size : Int) ≤ IntKind.i64.max → AllFit ks fun l => Q (.str true s :: l)

theorem AllFit.use : ∀ {ks : List Kn} {Q : List At → Prop}, AllFit ks Q → ∀ {l : List At}, All2 FitAt ks l → Q l
  | [], Q, h, l, hl => by cases hl; exact h
  | .int k :: ks, Q, h, l, hl => by
    cases hl with
    | cons a b => obtain ⟨n, rfl, h1, h2⟩ := a; exact (h n h1 h2).use b
  | .bool :: ks, Q, h, l, hl => by
    cases hl with
    | cons a b => obtain ⟨n, rfl⟩ := a; exact (h n).use b
  | .str :: ks, Q, h, l, hl => by
    cases hl with
    | cons a b => obtain ⟨n, rfl, h1⟩ := a; exact (h n h1).use b

/-- For all arguments of these shapes. -/
def AllArgs : List (Bool × List Kn) → (List LV → Prop) → Prop
  | [], Q => Q []
  | (true, ks) :: r, Q => AllFit ks fun l => AllArgs r fun as => Q (.g l :: as)
  | (false, ks) :: r, Q => AllFit ks fun l => match l with
    | [x] => AllArgs r fun as => Q (.a x :: as)
    | _ => True

def knAll (P : Program) : List TypeId → Option (List Kn)
  | [] => some []
  | t :: ts => match (P.underlying t).bind knOf, knAll P ts with
    | some k, some ks => some (k :: ks)
    | _, _ => none

/-- The shape of a parameter. -/
def argShape (P : Program) (t : TypeId) : Option (Bool × List Kn) :=
  match P.underlying t with
  | some (.struct _) | some (.array _ _) => match P.cellTypes P.depth t with
    | some ts => match knAll P ts with
      | some ks => match Nat.beq (P.cellsOf t) (P.cellsOf t / ts.length * ts.length) with
        | true => some (true, (List.replicate (P.cellsOf t / ts.length) ks).flatten)
        | false => none
      | none => none
    | none => none
  | some d => match knOf d with
    | some k => some (false, [k])
    | none => none
  | none => none

def argShapes (P : Program) : List TypeId → Option (List (Bool × List Kn))
  | [] => some []
  | t :: ts => match argShape P t, argShapes P ts with
    | some s, some ss => some (s :: ss)
    | _, _ => none

section
variable {P : Program}

theorem cell_fit {W : World} {r : Reach} {base : Nat} {t : TypeId} {k : Kn} {v : Value} (hk : (P.underlying t).bind knOf = some k) (h : Cell.okWide P W r base t v) : ∃ x : At, FitAt k x ∧ x.rel (fun _ => none) v := by
  obtain ⟨d, hu, hd⟩ := Option.bind_eq_some_iff.1 hk
  unfold Cell.okWide at h
  cases d <;> simp only [knOf, Option.some.injEq, reduceCtorEq] at hd <;> subst hd
  · simp only [hu] at h
    unfold Cell.ok at h
    simp only [hu] at h
    split at h <;> simp_all
    rename_i b
    exact ⟨.bool true b, ⟨b, rfl⟩, rfl⟩
  · rename_i k
    simp only [hu] at h
    unfold Cell.ok at h
    simp only [hu] at h
    cases v <;> simp only at h
    rename_i k' n
    obtain ⟨hk', hn⟩ := h
    subst hk'
    have hn' : k'.min ≤ n ∧ n ≤ k'.max := by simpa [IntKind.has] using hn
    exact ⟨.int true k' n, ⟨n, rfl, hn'.1, hn'.2⟩, rfl⟩
  · simp only [hu] at h
    unfold Cell.ok at h
    simp only [hu] at h
    split at h <;> simp_all
    rename_i s
    exact ⟨.str true s, ⟨s, rfl, h⟩, rfl⟩

theorem knAll_get : ∀ {ts : List TypeId} {ks : List Kn}, knAll P ts = some ks → ks.length = ts.length ∧ ∀ (i : Nat) (t : TypeId), ts[i]? = some t → ∃ k, ks[i]? = some k ∧ (P.underlying t).bind knOf = some k
  | [], ks, h => by simp only [knAll, Option.some.injEq] at h; subst h; exact ⟨rfl, fun i t h => by simp at h⟩
  | t :: ts, ks, h => by
    unfold knAll at h
    split at h
    · rename_i k ks' h1 h2
      simp only [Option.some.injEq] at h; subst h
      obtain ⟨l1, l2⟩ := knAll_get h2
      refine ⟨by simp [l1], fun i u hi => ?_⟩
      cases i with
      | zero => simp at hi; subst hi; exact ⟨k, by simp, h1⟩
      | succ i => obtain ⟨k', a, b⟩ := l2 i u (by simpa using hi); exact ⟨k', by simpa using a, b⟩
    · cases h

theorem all2_of_get {α β : Type} {R : α → β → Prop} : ∀ {l : List α} {m : List β}, l.length = m.length → (∀ (i : Nat) (x : α) (y : β), l[i]? = some x → m[i]? = some y → R x y) → All2 R l m
  | [], [], _, _ => .nil
  | [], _ :: _, h, _ => by simp at h
  | _ :: _, [], h, _ => by simp at h
  | x :: l, y :: m, h, hh => .cons (hh 0 x y (by simp) (by simp)) (all2_of_get (by simpa using h) fun i a b h1 h2 => hh (i + 1) a b (by simpa using h1) (by simpa using h2))

theorem all2_split {α β γ : Type} {R : α → β → Prop} {S : β → γ → Prop} {l : List α} {m : List γ} (h : All2 (fun a c => ∃ b, R a b ∧ S b c) l m) : ∃ k : List β, All2 R l k ∧ All2 S k m := by
  induction h with
  | nil => exact ⟨[], .nil, .nil⟩
  | cons a _ ih => obtain ⟨b, h1, h2⟩ := a; obtain ⟨k, k1, k2⟩ := ih; exact ⟨b :: k, .cons h1 k1, .cons h2 k2⟩

theorem flat_get {α : Type} (ks : List α) : ∀ (n i : Nat), i < n * ks.length → ((List.replicate n ks).flatten)[i]? = ks[i % ks.length]?
  | 0, i, h => by simp at h
  | n + 1, i, h => by
    rw [List.replicate_succ, List.flatten_cons, List.getElem?_append]
    have hpos : 0 < ks.length := by
      rcases Nat.eq_zero_or_pos ks.length with h0 | h0
      · rw [h0] at h; simp at h
      · exact h0
    by_cases hi : i < ks.length
    · rw [if_pos hi, Nat.mod_eq_of_lt hi]
    · rw [if_neg hi, flat_get ks n (i - ks.length) (by rw [Nat.succ_mul] at h; omega)]
      congr 1
      conv => rhs; rw [← Nat.sub_add_cancel (Nat.le_of_not_lt hi)]
      simp

theorem arg_open {W : World} {r : Reach} {base : Nat} {t : TypeId} {v : Value} {q : Bool} {ks : List Kn} (hs : argShape P t = some (q, ks)) (h : Value.okWide P W r base t v) :
    ∃ l : List At, All2 FitAt ks l ∧ (match q with
      | true => (LV.g l).rel (fun _ => none) v
      | false => ∃ x, l = [x] ∧ (LV.a x).rel (fun _ => none) v) := by
  have agg : ∀ cs : Array Value, v = .agg cs → cs.size = P.cellsOf t → Row.okWide P W r base t cs → (match P.cellTypes P.depth t with
    | some ts => match knAll P ts with
      | some ks => match Nat.beq (P.cellsOf t) (P.cellsOf t / ts.length * ts.length) with
        | true => some (true, (List.replicate (P.cellsOf t / ts.length) ks).flatten)
        | false => none
      | none => none
    | none => none) = some (q, ks) → ∃ l : List At, All2 FitAt ks l ∧ (match q with
      | true => (LV.g l).rel (fun _ => none) v
      | false => ∃ x, l = [x] ∧ (LV.a x).rel (fun _ => none) v) := by
    intro cs hv hsz hrow hm
    obtain ⟨ts, hts, ⟨n, hn⟩, hall⟩ := hrow
    simp only [hts] at hm
    split at hm
    · rename_i ks' hks
      split at hm
      · rename_i hb
        simp only [Option.some.injEq, Prod.mk.injEq] at hm
        obtain ⟨rfl, rfl⟩ := hm
        obtain ⟨l1, l2⟩ := knAll_get hks
        have hb' := Nat.eq_of_beq_eq_true hb
        have hlen : ((List.replicate (P.cellsOf t / ts.length) ks').flatten).length = cs.toList.length := by
          simp [l1, hsz]; exact hb'.symm
        have key : All2 (fun k c => ∃ x, FitAt k x ∧ At.rel (fun _ => none) x c) ((List.replicate (P.cellsOf t / ts.length) ks').flatten) cs.toList := by
          refine all2_of_get hlen fun i k c hi hc => ?_
          have hc' : cs[i]? = some c := by simpa using hc
          obtain ⟨u, hu, hcell⟩ := hall i c hc'
          obtain ⟨k', hk', hkn⟩ := l2 _ u hu
          have hil : i < P.cellsOf t := by rw [← hsz]; exact (Array.getElem?_eq_some_iff.1 hc').1
          rw [flat_get ks' _ i (by rw [l1]; omega), l1] at hi
          rw [hk'] at hi
          simp only [Option.some.injEq] at hi
          subst hi
          exact cell_fit hkn hcell
        obtain ⟨l, k1, k2⟩ := all2_split key
        exact ⟨l, k1, cs, hv, k2⟩
      · cases hm
    · cases hm
  unfold argShape at hs
  unfold Value.okWide at h
  split at hs
  · rename_i hu; simp only [hu] at h; obtain ⟨cs, h1, h2, h3⟩ := h; exact agg cs h1 h2 h3 hs
  · rename_i hu; simp only [hu] at h; obtain ⟨cs, h1, h2, h3⟩ := h; exact agg cs h1 h2 h3 hs
  · rename_i d hne1 hne2 hu
    simp only [hu] at h
    have h' : Cell.okWide P W r base t v := by
      cases d <;> first | exact h | exact absurd rfl (hne1 _) | exact absurd rfl (hne2 _ _)
    split at hs
    · rename_i k hk
      simp only [Option.some.injEq, Prod.mk.injEq] at hs
      obtain ⟨rfl, rfl⟩ := hs
      obtain ⟨x, x1, x2⟩ := cell_fit (P := P) (k := k) (by rw [hu]; exact hk) h'
      exact ⟨[x], .cons x1 .nil, x, rfl, x2⟩
    · cases hs
  · cases hs

theorem args_open {W : World} {r : Reach} {base : Nat} : ∀ {ts : List TypeId} {vs : List Value} {ss : List (Bool × List Kn)} {Q : List LV → Prop}, argShapes P ts = some ss → vs.length = ts.length → (∀ (j : Nat) t v, ts[j]? = some t → vs[j]? = some v → Value.okWide P W r base t v) →
    AllArgs ss Q → ∃ as, All2 (LV.rel (fun _ => none)) as vs ∧ Q as
  | [], vs, ss, Q, hs, hl, _, h => by
    simp only [argShapes, Option.some.injEq] at hs; subst hs
    cases vs with
    | nil => exact ⟨[], .nil, h⟩
    | cons _ _ => simp at hl
  | t :: ts, vs, ss, Q, hs, hl, hall, h => by
    cases vs with
    | nil => simp at hl
    | cons v vs =>
      unfold argShapes at hs
      split at hs
      · rename_i s ss' h1 h2
        simp only [Option.some.injEq] at hs; subst hs
        obtain ⟨q, ks⟩ := s
        obtain ⟨l, l1, l2⟩ := arg_open h1 (hall 0 t v (by simp) (by simp))
        have rest := fun {Q'} hq => args_open (Q := Q') h2 (by simpa using hl) (fun j u x hj hx => hall (j + 1) u x (by simpa using hj) (by simpa using hx)) hq
        cases q with
        | true =>
          obtain ⟨as, a1, a2⟩ := rest (AllFit.use h l1)
          exact ⟨.g l :: as, .cons l2 a1, a2⟩
        | false =>
          obtain ⟨x, rfl, hx⟩ := l2
          obtain ⟨as, a1, a2⟩ := rest (AllFit.use h l1)
          exact ⟨.a x :: as, .cons hx a1, a2⟩
      · cases hs

end

/-- Nothing that was there has turned. -/
structure Grows (w w' : World) : Prop where
  below : Below w.heap.size w w'
  frz : ∀ a, w'.frozen? a = w.frozen? a

/-- The row's step for a law: whatever the arguments, it returns true. -/
theorem law_lifted {C : Checked} {os : Os} (started : os.Started) {H : Type} (enc : TypeId × Value → H) {f : Nat} {fn : Func} {s : ChangeSpec} {ss : List (Bool × List Kn)} {tb : TypeId}
    (own : ownKnob C.prog.godebug = none) (hi : C.prog.inits.idxOf? f = none) (hf : C.prog.funcs[f]? = some fn) (hv : s.vars = [])
    (hfn : ∀ ds : List (DataW H), ds.length = fn.params.toList.length → s.fn H (ds ++ []) = { results := [.lit (.bool true)], args := ds })
    (hp : (fn.params.toList.all fun t => plainT C.prog 20 t) = true) (hs : argShapes C.prog fn.params.toList = some ss) (hr : fn.resultTypes = #[tb]) (htb : C.prog.underlying tb = some .bool)
    (wit : ∃ (w : World) (tape : Tape) (i : Input), w.os = os ∧ World.Shaped C.prog (w.forCall tape i) ∧ i.vars = [] ∧ Input.okWide C.prog (w.forCall tape i) Reach.any w.heap.size f i ∧
      ChangeSpec.pre6 enc C.prog fn s [] false (w.forCall tape i).memory i.args ∧ Assume.holds {} C.prog (lone (Frame.enter C.prog f i.args CallKind.normal) [] (w.forCall tape i)))
    (core : AllArgs ss fun as => ∀ (vs : Array Value) (w : World), All2 (LV.rel (fun _ => none)) as vs.toList → Calls C.prog f vs w fun e w' => e = .returned (.bool true) ∧ Grows w w') :
    ReturnsInHanded {} C os f .any (s.pre6 enc C.prog fn [] false) (s.post enc C.prog fn false true false false) := by
  refine returnsInHanded_of_change own started hi hf wit ?_
  intro W base args ds gs before hval hW hcnd _
  have hW' := hW
  obtain ⟨p, q, hA, hV, rfl, hfz, hnd⟩ := hW
  rw [hv] at hV
  obtain ⟨rfl, rfl⟩ := trodVars_none hV
  have hA' := trodAll_plain hp hA (w' := W) (base' := 0) (sp' := fun _ => true) (hd' := true)
  obtain ⟨rfl, hdl, hvl, _⟩ := hA'
  obtain ⟨as, a1, a2⟩ := args_open hs hvl (fun j t v h1 h2 => hval j t v (by simpa using h1) (by simpa using h2)) core
  refine (a2 args W a1).mono fun e W' ⟨he, hg⟩ => ?_
  subst he
  have e1 := hfn ds hdl
  refine ⟨_, rfl, post_of_same (pa := []) (pv := []) hW' ?_ ?_ ?_ rfl (hg.below.frame _) hg.frz ?_⟩
  · intro b sp hd
    rw [e1, hr]
    exact trodAll_cons_mk (shut_bool htb _) trodAll_mk0
  · intro sp _
    rw [e1]
    exact (trodAll_plain hp hA (w' := W') (base' := 0) (sp' := sp) (hd' := true)).2.2.2
  · intro sp _
    rw [hv, e1]
    exact rfl
  · exact ok_one hr rfl (okWide_bool_mk htb _)

theorem law_core {P : Program} {f : Nat} {c : Con} (hc : ConOK P f c) {args : List LV} {obs : List Prop} {m b : Bool} (he : c args [] = some (obs, .a (.bool m b), [])) (ho : Alls obs) (hb : b = true) (vs : Array Value) (w : World)
    (h : All2 (LV.rel (fun _ => none)) args vs.toList) : Calls P f vs w fun e w' => e = .returned (.bool true) ∧ Grows w w' := by
  refine (hc _ _ _ _ _ he ho (fun _ => none) vs w (fun _ => False) h ⟨fun k x hh => ?_, fun b g hh => ?_, fun k x g hh => ?_, fun b b' i i' r o o' hh => ?_, fun b i r o hh => ?_, fun b i r o hh => ?_, fun b _ => rfl, fun b i r o hh => ?_, rfl, rfl, rfl, Nat.le_refl _, fun _ _ _ => rfl, fun _ => rfl⟩).mono fun e w' hh => ?_
  · simp [memOf] at hh
  · simp [hdsIn] at hh
  · simp [memOf] at hh
  · cases hh
  · cases hh
  · cases hh
  · cases hh
  · obtain ⟨v', φ', rfl, _, hv, hm⟩ := hh
    have hv' : v' = .bool b := hv
    exact ⟨by rw [hv', hb], ⟨hm.os, hm.tape, hm.output, hm.size, fun k hk => hm.block k hk id⟩, hm.frz⟩

theorem min_i64 : IntKind.min .i64 = -9223372036854775808 := by decide
theorem max_i64 : IntKind.max .i64 = 9223372036854775807 := by decide
theorem min_i32 : IntKind.min .i32 = -2147483648 := by decide
theorem max_i32 : IntKind.max .i32 = 2147483647 := by decide
theorem min_i16 : IntKind.min .i16 = -32768 := by decide
theorem max_i16 : IntKind.max .i16 = 32767 := by decide
theorem min_i8 : IntKind.min .i8 = -128 := by decide
theorem max_i8 : IntKind.max .i8 = 127 := by decide
theorem min_u8 : IntKind.min .u8 = 0 := by decide
theorem max_u8 : IntKind.max .u8 = 255 := by decide

end Go.Proofs.Ytcdejlgophpdjaa.V
end

section
namespace Go.Proofs.Ytcdejlgophpdjaa.V
open Go Go.RowKit Go.ChangeShapes Go.WideShapes Go.ChangeAt

/-- A cell's kind: a plain one's; a slice's, by the kinds of its elements' cells. -/
inductive Kc where
  | one (k : Kn)
  | slc (sh : List Kd)

def kdsKc : List Kc → Option (List Kd)
  | [] => some []
  | .one (.int k) :: r => match kdsKc r with
    | some l => some (.int k :: l)
    | none => none
  | .one .bool :: r => match kdsKc r with
    | some l => some (.bool :: l)
    | none => none
  | _ => none

def kcFs (P : Program) (rec : TypeId → Option (List Kc)) : Nat → List Field → Option (List Kc)
  | _, [] => some []
  | off, f :: fs => match rec f.type with
    | some ks => match Nat.beq f.offset off && Nat.beq ks.length (P.cellsOf f.type), kcFs P rec (off + ks.length) fs with
      | true, some r => some (ks ++ r)
      | _, _ => none
    | none => none

/-- A type's cells. -/
def kcT (P : Program) : Nat → TypeId → Option (List Kc)
  | 0, _ => none
  | d + 1, t => match P.underlying t with
    | some .bool => some [.one .bool]
    | some (.int k) => some [.one (.int k)]
    | some .string => some [.one .str]
    | some (.slice e) => match (kcT P d e).bind kdsKc with
      | some sh => match Nat.ble 1 sh.length && Nat.beq sh.length (P.cellsOf e) with
        | true => some [.slc sh]
        | false => none
      | none => none
    | some (.struct fs) => match kcFs P (kcT P d) 0 fs.toList with
      | some ks => match Nat.beq ks.length (P.cellsOf t) with
        | true => some ks
        | false => none
      | none => none
    | some (.array n e) => match kcT P d e with
      | some ks => match Nat.beq ks.length (P.cellsOf e) && Nat.beq (n * ks.length) (P.cellsOf t) with
        | true => some ((List.replicate n ks).flatten)
        | false => none
      | none => none
    | _ => none

def KdFit : Kd → Int → Prop
  | .int k, n => k.min ≤ n ∧ n ≤ k.max
  | .bool, n => n = 0 ∨ n = 1

def RowFit (sh : List Kd) (row : List Int) : Prop := row.length = sh.length ∧ ∀ (j : Nat) k n, sh[j]? = some k → row[j]? = some n → KdFit k n

/-- A slice's cells stand in the world. -/
def SlcIn (w : World) (sh : List Kd) (l : List (List Int)) (v : Value) : Prop :=
  ∃ a cap, v = .slice a l.length cap ∧ l.length ≤ cap ∧
    (l = [] ∨ ∃ r o arr ty fz, a = some ⟨r, o, none⟩ ∧ w.heap[r]? = some (.cells arr ty fz) ∧ RowsIn arr o ⟨0, sh, l, none⟩)

def CF (w : World) : Kc → Value → Prop
  | .one k, v => ∃ x : At, FitAt k x ∧ x.rel (fun _ => none) v
  | .slc sh, v => ∃ l : List (List Int), (∀ row ∈ l, RowFit sh row) ∧ l.length ≤ maxLen ∧ SlcIn w sh l v

theorem pick_list {α : Type} {p : Nat → α → Prop} : ∀ (n : Nat), (∀ i, i < n → ∃ x, p i x) → ∃ l : List α, l.length = n ∧ ∀ i x, l[i]? = some x → p i x
  | 0, _ => ⟨[], rfl, fun i x h => by simp at h⟩
  | n + 1, h => by
    obtain ⟨l, l1, l2⟩ := pick_list n fun i hi => h i (by omega)
    obtain ⟨x, hx⟩ := h n (by omega)
    refine ⟨l ++ [x], by simp [l1], fun i y hy => ?_⟩
    rw [List.getElem?_append] at hy
    split at hy
    · exact l2 i y hy
    · rename_i hi
      have e : i = n := by
        rcases Nat.lt_or_ge (i - l.length) 1 with h1 | h1
        · omega
        · rw [List.getElem?_eq_none (by simpa using h1)] at hy; cases hy
      subst e
      rw [l1, Nat.sub_self] at hy
      simp only [List.getElem?_cons_zero, Option.some.injEq] at hy
      subst hy; exact hx

theorem All2.get2 {α β : Type} {R : α → β → Prop} : ∀ {l : List α} {m : List β}, All2 R l m → ∀ {i : Nat} {x : α} {y : β}, l[i]? = some x → m[i]? = some y → R x y
  | _, _, .cons r _, 0, _, _, h, g => by simp at h g; subst h g; exact r
  | _, _, .cons _ a, i + 1, _, _, h, g => a.get2 (i := i) (by simpa using h) (by simpa using g)

/-- Cells of an element as a row. -/
theorem row_of {w : World} : ∀ {ks : List Kc} {sh : List Kd} {cs : List Value}, kdsKc ks = some sh → All2 (CF w) ks cs →
    ∃ row : List Int, RowFit sh row ∧ cs.length = sh.length ∧ ∀ (j : Nat) k n, sh[j]? = some k → row[j]? = some n → cs[j]? = some (k.val n)
  | [], sh, cs, h, hl => by
    simp only [kdsKc, Option.some.injEq] at h; subst h
    cases hl
    exact ⟨[], ⟨rfl, fun j k n h => by simp at h⟩, rfl, fun j k n h => by simp at h⟩
  | .one (.int kk) :: ks, sh, cs, h, hl => by
    unfold kdsKc at h
    split at h
    · rename_i l hk
      simp only [Option.some.injEq] at h; subst h
      cases hl with
      | cons a b =>
        obtain ⟨x, ⟨n, rfl, h1, h2⟩, hv⟩ := a
        obtain ⟨row, ⟨r1, r2⟩, r3, r4⟩ := row_of hk b
        have hv' : _ = Value.int kk n := hv
        refine ⟨n :: row, ⟨by simp [r1], fun j k m g1 g2 => ?_⟩, by simp [r3], fun j k m g1 g2 => ?_⟩
        · cases j with
          | zero => simp at g1 g2; subst g1 g2; exact ⟨h1, h2⟩
          | succ j => exact r2 j k m (by simpa using g1) (by simpa using g2)
        · cases j with
          | zero => simp at g1 g2; subst g1 g2; simp [hv', Kd.val]
          | succ j => simpa using r4 j k m (by simpa using g1) (by simpa using g2)
    · cases h
  | .one .bool :: ks, sh, cs, h, hl => by
    unfold kdsKc at h
    split at h
    · rename_i l hk
      simp only [Option.some.injEq] at h; subst h
      cases hl with
      | cons a b =>
        obtain ⟨x, ⟨n, rfl⟩, hv⟩ := a
        obtain ⟨row, ⟨r1, r2⟩, r3, r4⟩ := row_of hk b
        have hv' : _ = Value.bool n := hv
        refine ⟨(bif n then 1 else 0) :: row, ⟨by simp [r1], fun j k m g1 g2 => ?_⟩, by simp [r3], fun j k m g1 g2 => ?_⟩
        · cases j with
          | zero => simp at g1 g2; subst g1 g2; cases n <;> simp [KdFit]
          | succ j => exact r2 j k m (by simpa using g1) (by simpa using g2)
        · cases j with
          | zero => simp at g1 g2; subst g1 g2; cases n <;> simp [hv', Kd.val]
          | succ j => simpa using r4 j k m (by simpa using g1) (by simpa using g2)
    · cases h
  | .one .str :: ks, sh, cs, h, hl => by simp [kdsKc] at h
  | .slc _ :: ks, sh, cs, h, hl => by simp [kdsKc] at h

theorem kcFs_all {P : Program} {w : World} {rec : TypeId → Option (List Kc)} {cs : List Value} : ∀ {fs : List Field} {off : Nat} {ks : List Kc}, kcFs P rec off fs = some ks →
    (∀ f ∈ fs, ∀ ks, rec f.type = some ks → ks.length = P.cellsOf f.type → All2 (CF w) ks ((cs.drop f.offset).take (P.cellsOf f.type))) →
    cs.length = off + ks.length → All2 (CF w) ks (cs.drop off)
  | [], off, ks, h, _, hl => by
    simp only [kcFs, Option.some.injEq] at h; subst h
    rw [List.drop_eq_nil_of_le (by simp at hl; omega)]; exact .nil
  | f :: fs, off, ks, h, hh, hl => by
    unfold kcFs at h
    split at h
    · rename_i k0 hk0
      split at h
      · rename_i r hb hr
        simp only [Option.some.injEq] at h; subst h
        simp only [Bool.and_eq_true] at hb
        have e1 := Nat.eq_of_beq_eq_true hb.1
        have e2 := Nat.eq_of_beq_eq_true hb.2
        have a := hh f (by simp) k0 hk0 e2
        have b := kcFs_all hr (fun g hg => hh g (by simp [hg])) (by simp at hl; omega)
        rw [e1, ← e2] at a
        have e : cs.drop off = (cs.drop off).take k0.length ++ cs.drop (off + k0.length) := by
          rw [← List.drop_drop]; exact (List.take_append_drop _ _).symm
        rw [e]
        exact a.append b
      · cases h
    · cases h

theorem rep_all {w : World} {ks : List Kc} {cs : List Value} {n : Nat} (hl : cs.length = n * ks.length) (h : ∀ i, i < n → All2 (CF w) ks ((cs.drop (i * ks.length)).take ks.length)) : ∀ m, m ≤ n → All2 (CF w) ((List.replicate m ks).flatten) (cs.drop ((n - m) * ks.length))
  | 0, _ => by
    rw [Nat.sub_zero, List.drop_eq_nil_of_le (by omega)]; exact .nil
  | m + 1, hm => by
    rw [List.replicate_succ, List.flatten_cons]
    have a := h (n - (m + 1)) (by omega)
    have b := rep_all hl h m (by omega)
    have e : cs.drop ((n - (m + 1)) * ks.length) = (cs.drop ((n - (m + 1)) * ks.length)).take ks.length ++ cs.drop ((n - m) * ks.length) := by
      have e' : (n - m) * ks.length = (n - (m + 1)) * ks.length + ks.length := by
        rw [← Nat.succ_mul]; congr 1; omega
      rw [e', ← List.drop_drop]; exact (List.take_append_drop _ _).symm
    rw [e]
    exact a.append b

section
variable {H : Type} {enc : TypeId × Value → H} {P : Program} {w : World}

theorem trod_kc : ∀ (d : Nat) {t : TypeId} {ks : List Kc} {fuel : Nat} {cs : List Value} {x : DataW H × List MemPlace}, kcT P d t = some ks → DataW.trod enc P w 0 (fun _ => true) true fuel t cs = some x → All2 (CF w) ks cs
  | 0, t, ks, fuel, cs, x, h, _ => by simp [kcT] at h
  | d + 1, t, ks, fuel, cs, x, h, hx => by
    unfold kcT at h
    split at h
    · rename_i hu
      simp only [Option.some.injEq] at h; subst h
      obtain ⟨b, rfl, _⟩ := DataW.trod_bool hu hx
      exact .cons ⟨.bool true b, ⟨b, rfl⟩, rfl⟩ .nil
    · rename_i k hu
      simp only [Option.some.injEq] at h; subst h
      obtain ⟨n, rfl, _, hw⟩ := DataW.trod_int hu hx
      have hn : k.min ≤ n ∧ n ≤ k.max := by simpa [Lit.wf, IntKind.has] using hw
      exact .cons ⟨.int true k n, ⟨n, rfl, hn.1, hn.2⟩, rfl⟩ .nil
    · rename_i hu
      simp only [Option.some.injEq] at h; subst h
      obtain ⟨s, rfl, _, hw⟩ := DataW.trod_string hu hx
      have hm : (maxLen : Int) ≤ IntKind.i64.max := by decide
      exact .cons ⟨.str true s, ⟨s, rfl, by omega⟩, rfl⟩ .nil
    · rename_i e hu
      split at h
      · rename_i sh hsh
        obtain ⟨kse, hk1, hk2⟩ := Option.bind_eq_some_iff.1 hsh
        split at h
        · rename_i hb
          simp only [Option.some.injEq] at h; subst h
          simp only [Bool.and_eq_true] at hb
          have p1 : 1 ≤ sh.length := Nat.le_of_ble_eq_true hb.1
          have p2 : sh.length = P.cellsOf e := Nat.eq_of_beq_eq_true hb.2
          rcases Go.Deep.open_slice hu hx with ⟨rfl, _⟩ | ⟨a, len, cap, m, n, D, Pl, rfl, _, h1, h2, h3, _, h4⟩
          · exact .cons ⟨[], nofun, by simp, none, 0, rfl, by simp, .inl rfl⟩ .nil
          · simp only [if_true] at h3
            subst h3
            obtain ⟨l, l1, l2⟩ := pick_list (p := fun i (row : List Int) => RowFit sh row ∧ ∀ (j : Nat) k n, sh[j]? = some k → row[j]? = some n → w.cell? ((a.add (i * sh.length)).add j) = some (k.val n)) len fun i hi => by
              obtain ⟨cs', c1, c2⟩ := h4 i (by omega)
              obtain ⟨_, q2, q3⟩ := World.cells?_some c1
              obtain ⟨row, r1, r2, r3⟩ := row_of hk2 (trod_kc d hk1 c2)
              refine ⟨row, r1, fun j k n g1 g2 => ?_⟩
              have hj : j < sh.length := (List.getElem?_eq_some_iff.1 g1).1
              rw [p2, q3 j (by omega)]
              exact r3 j k n g1 g2
            refine .cons ⟨l, fun row hrow => ?_, by omega, some a, _, by rw [l1], by omega, ?_⟩ .nil
            · obtain ⟨i, hi⟩ := List.getElem?_of_mem hrow
              exact (l2 i row hi).1
            · rcases Nat.eq_zero_or_pos len with h0 | h0
              · left; exact List.eq_nil_of_length_eq_zero (by omega)
              · right
                have get : ∀ i, i < len → ∃ row, l[i]? = some row := fun i hi => ⟨_, List.getElem?_eq_getElem (by omega)⟩
                have cell : ∀ i j, i < len → j < sh.length → ∃ row n k, l[i]? = some row ∧ row[j]? = some n ∧ sh[j]? = some k ∧ w.cell? ((a.add (i * sh.length)).add j) = some (k.val n) := fun i j hi hj => by
                  obtain ⟨row, hr⟩ := get i hi
                  obtain ⟨⟨q1, _⟩, q2⟩ := l2 i row hr
                  have hn : row[j]? = some row[j] := List.getElem?_eq_getElem (by omega)
                  have hk : sh[j]? = some sh[j] := List.getElem?_eq_getElem (by omega)
                  exact ⟨row, _, _, hr, hn, hk, q2 j _ _ hk hn⟩
                obtain ⟨r, o, spot⟩ := a
                obtain ⟨row0, n0, k0, _, _, _, hc0⟩ := cell 0 0 h0 p1
                have hspot : spot = none := by
                  have := World.cell?_spot hc0
                  simpa [Addr.add] using this
                subst hspot
                simp only [add_eq] at cell l2 hc0
                unfold World.cell? at hc0
                split at hc0
                · rename_i arr ty fz hheap
                  have ha : ∀ k, w.cell? ⟨r, k, none⟩ = arr[k]? := fun k => by
                    unfold World.cell?
                    simp only at hheap
                    simp only [hheap]
                    rfl
                  refine ⟨r, o, arr, ty, fz, rfl, hheap, fun p row hr => ⟨(l2 p row hr).1.1, fun j n k g1 g2 => ?_⟩, ?_⟩
                  · have := (l2 p row hr).2 j k n g2 g1
                    rw [ha] at this
                    rw [show o + (0 + p * sh.length + j) = o + p * sh.length + j by omega]
                    exact this
                  · obtain ⟨row, n, k, _, _, _, hc⟩ := cell (len - 1) (sh.length - 1) (by omega) (by omega)
                    rw [ha] at hc
                    have hlt := (Array.getElem?_eq_some_iff.1 hc).1
                    have e : len * sh.length = (len - 1) * sh.length + sh.length := by
                      rw [← Nat.succ_mul]; congr 1; omega
                    show 0 + l.length * sh.length + o ≤ arr.size
                    rw [l1, e]
                    omega
                · cases hc0
        · cases h
      · cases h
    · rename_i fs hu
      split at h
      · rename_i ks' hk
        split at h
        · rename_i hb
          simp only [Option.some.injEq] at h; subst h
          have hb' := Nat.eq_of_beq_eq_true hb
          obtain ⟨xs, n, rfl, _, hl, hxs, hf⟩ := DataW.trod_struct hu hx
          have := kcFs_all (w := w) (cs := cs) hk (fun f hf' ks0 h1 h2 => by
            obtain ⟨i, hi⟩ := List.getElem?_of_mem hf'
            have hi' : fs[i]? = some f := by simpa using hi
            have e := hf i f hi'
            have hlt : i < xs.length := by rw [hxs]; exact (Array.getElem?_eq_some_iff.1 hi').1
            rw [List.getElem?_eq_getElem hlt] at e
            exact trod_kc d h1 e) (by rw [hl, ← hb']; simp)
          simpa using this
        · cases h
      · cases h
    · rename_i n e hu
      split at h
      · rename_i ks' hk
        split at h
        · rename_i hb
          simp only [Option.some.injEq] at h; subst h
          simp only [Bool.and_eq_true] at hb
          have b1 := Nat.eq_of_beq_eq_true hb.1
          have b2 := Nat.eq_of_beq_eq_true hb.2
          obtain ⟨xs, m, rfl, _, hl, hxs, hf⟩ := DataW.trod_array hu hx
          have := rep_all (w := w) (ks := ks') (cs := cs) (n := n) (by rw [hl, ← b2]) (fun i hi => by
            have e := hf i hi
            rw [List.getElem?_eq_getElem (by omega)] at e
            rw [b1]
            exact trod_kc d hk e) n (Nat.le_refl _)
          simpa using this
        · cases h
      · cases h
    · cases h

end

/-- A slice that came in, as a block that is not written. -/
def roBC (sh : List Kd) (l : List (List Int)) : BC := ⟨⟨0, 0, true, some ⟨0, sh, l, none⟩⟩, []⟩

/-- For all cells of these kinds, and the blocks behind them. -/
def AllC : List Kc → List BC → (List At → List BC → Prop) → Prop
  | [], bs, Q => Q [] bs
  | .one (.int k) :: ks, bs, Q => ∀ n : Int, k.min ≤ n → n ≤ k.max → AllC ks bs fun l bs' => Q (.int true k n :: l) bs'
  | .one .bool :: ks, bs, Q => ∀ b : Bool, AllC ks bs fun l bs' => Q (.bool true b :: l) bs'
  | .one .str :: ks, bs, Q => ∀ s : ByteArray, (s.size : Int) ≤ IntKind.i64.max → AllC ks bs fun l bs' => Q (.str true s :: l) bs'
  | .slc sh :: ks, bs, Q => ∀ l : List (List Int), (∀ row ∈ l, RowFit sh row) → l.length ≤ maxLen → AllC ks (bs ++ [roBC sh l]) fun as bs' => Q (.slc true bs.length 0 0 sh.length 0 l.length :: as) bs'

/-- For all arguments of these shapes. -/
def AllB : List (Bool × List Kc) → List BC → (List LV → List BC → Prop) → Prop
  | [], bs, Q => Q [] bs
  | (true, ks) :: r, bs, Q => AllC ks bs fun l bs' => AllB r bs' fun as bs'' => Q (.g l :: as) bs''
  | (false, ks) :: r, bs, Q => AllC ks bs fun l bs' => match l with
    | [x] => AllB r bs' fun as bs'' => Q (.a x :: as) bs''
    | _ => True

/-- The blocks stand in the world, none of them written. -/
structure RoB (w : World) (φ : Phi) (bs : List BC) : Prop where
  at_ : ∀ (b : Nat) c, bs[b]? = some c → ∃ i sh l, φ b = some i ∧ c = roBC sh l ∧ i.v = 0 ∧ i.ro = true ∧ i.n = l.length ∧
    ((i.a = none ∧ l = []) ∨ ∃ r o arr ty fz, i.a = some (r, o) ∧ w.heap[r]? = some (.cells arr ty fz) ∧ RowsIn arr o ⟨0, sh, l, none⟩ ∧ l.length * sh.length ≤ i.z)
  dom : ∀ b, bs.length ≤ b → φ b = none

theorem RoB.nil (w : World) : RoB w (fun _ => none) [] := ⟨fun b c h => by simp at h, fun _ _ => rfl⟩

theorem memOf_ro {bs : List BC} (h : ∀ (b : Nat) c, bs[b]? = some c → c.cs = []) (k : Nat) : memOf bs k = none := by
  unfold memOf
  split
  · rename_i c hc
    unfold cellOf
    rw [h _ c hc]; rfl
  · rfl

theorem hdsIn_none {bs : List BC} {out : List (Option BC)} (ho : ∀ (b : Nat) c, bs[b]? = some c → c.h.ro = true) : hdsIn bs out = fun b => (bs[b]?).map (·.h) := by
  funext b
  unfold hdsIn
  split
  · rename_i c hc
    have e : roH c.h = c.h := by
      have := ho b c hc
      unfold roH
      rw [← this]
    split
    · rw [e, hc]; rfl
    · rw [hc]; rfl
  · rename_i hc
    rw [hc]; rfl

theorem RoB.mr {w : World} {φ : Phi} {bs : List BC} (h : RoB w φ bs) (out : List (Option BC)) : MR w (fun _ => False) φ (memOf bs) (hdsIn bs out) (fun b => bs.length ≤ b) w := by
  have lt : ∀ b i, φ b = some i → b < bs.length := fun b i hi => by
    rcases Nat.lt_or_ge b bs.length with h1 | h1
    · exact h1
    · rw [h.dom b h1] at hi; cases hi
  have get : ∀ b i, φ b = some i → i.ro = true ∧ ∀ r o, i.a = some (r, o) → r < w.heap.size := fun b i hi => by
    obtain ⟨j, sh, l, h1, _, _, h2, _, h3⟩ := h.at_ b _ (List.getElem?_eq_getElem (lt b i hi))
    rw [hi] at h1
    simp only [Option.some.injEq] at h1; subst h1
    refine ⟨h2, fun r o ha => ?_⟩
    rcases h3 with ⟨h3, _⟩ | ⟨r', o', arr, ty, fz, h3, h4, _⟩
    · rw [h3] at ha; cases ha
    · rw [h3] at ha
      simp only [Option.some.injEq, Prod.mk.injEq] at ha
      obtain ⟨rfl, _⟩ := ha
      exact (Array.getElem?_eq_some_iff.1 h4).1
  have hm : ∀ k, memOf bs k = none := memOf_ro fun b c hc => by
    obtain ⟨_, _, _, _, rfl, _⟩ := h.at_ b c hc; rfl
  have hh : hdsIn bs out = fun b => (bs[b]?).map (·.h) := hdsIn_none fun b c hc => by
    obtain ⟨_, _, _, _, rfl, _⟩ := h.at_ b c hc; rfl
  refine ⟨fun k x hk => ?_, fun b g hg => ?_, fun k x g hk => ?_, fun b b' i i' r o o' h1 h2 _ _ => ?_, fun b i r o h1 _ h3 => ?_, fun b i r o h1 h2 _ => ?_, fun b hb => h.dom b hb, fun b i r o h1 h2 => ?_, rfl, rfl, rfl, Nat.le_refl _, fun _ _ _ => rfl, fun _ => rfl⟩
  · rw [hm] at hk; cases hk
  · rw [hh] at hg
    obtain ⟨c, hc, rfl⟩ := Option.map_eq_some_iff.1 hg
    obtain ⟨i, sh, l, g1, rfl, g2, g3, g4, g5⟩ := h.at_ b c hc
    refine ⟨i, g1, g2, g3, nofun, fun R hR => ?_⟩
    have hR' : some (⟨0, sh, l, none⟩ : Rw) = some R := hR
    simp only [Option.some.injEq] at hR'; subst hR'
    refine ⟨g4.symm, fun N hN => (nomatch hN), ?_⟩
    rcases g5 with ⟨g5, g6⟩ | ⟨r, o, arr, ty, fz, g5, g6, g7, g8⟩
    · exact .inl ⟨g5, g6, rfl⟩
    · exact .inr ⟨r, o, arr, ty, fz, g5, g6, g7, by simpa using g8⟩
  · rw [hm] at hk; cases hk
  · exact .inr ⟨(get b i h1).1, (get b' i' h2).1⟩
  · rw [(get b i h1).1] at h3; cases h3
  · exact ⟨(get b i h1).2 r o h2, id⟩
  · exact (get b i h1).2 r o h2

/-- One slice more. -/
theorem RoB.add {w : World} {φ : Phi} {bs : List BC} (h : RoB w φ bs) {sh : List Kd} {l : List (List Int)} {v : Value} (hv : SlcIn w sh l v) :
    ∃ ψ, φ.le ψ ∧ RoB w ψ (bs ++ [roBC sh l]) ∧ At.rel ψ (.slc true bs.length 0 0 sh.length 0 l.length) v := by
  obtain ⟨a, cap, rfl, hc, hl⟩ := hv
  have hd := h.dom bs.length (Nat.le_refl _)
  have mk : ∀ j : Inf, j.v = 0 → j.ro = true → j.n = l.length → ((j.a = none ∧ l = []) ∨ ∃ r o arr ty fz, j.a = some (r, o) ∧ w.heap[r]? = some (.cells arr ty fz) ∧ RowsIn arr o ⟨0, sh, l, none⟩ ∧ l.length * sh.length ≤ j.z) →
      φ.le (setP φ bs.length j) ∧ RoB w (setP φ bs.length j) (bs ++ [roBC sh l]) := fun j j1 j2 j3 j4 => by
    refine ⟨phi_upd_le (.inl hd), ⟨fun b c hb => ?_, fun b hb => ?_⟩⟩
    · rw [List.getElem?_append] at hb
      split at hb
      · rename_i hlt
        obtain ⟨i, sh', l', g1, g2⟩ := h.at_ b c hb
        exact ⟨i, sh', l', by unfold setP; rw [if_neg (by omega)]; exact g1, g2⟩
      · rename_i hge
        have e : b = bs.length := by
          rcases Nat.lt_or_ge (b - bs.length) 1 with h1 | h1
          · omega
          · rw [List.getElem?_eq_none (by simpa using h1)] at hb; cases hb
        subst e
        rw [Nat.sub_self] at hb
        simp only [List.getElem?_cons_zero, Option.some.injEq] at hb
        exact ⟨j, sh, l, setP_same .., hb.symm, j1, j2, j3, j4⟩
    · unfold setP
      rw [List.length_append] at hb
      simp only [List.length_cons, List.length_nil] at hb
      rw [if_neg (by omega)]
      exact h.dom b (by omega)
  rcases hl with rfl | ⟨r, o, arr, ty, fz, rfl, h1, h2⟩
  · obtain ⟨m1, m2⟩ := mk ⟨0, none, 0, 0, 0, true⟩ rfl rfl rfl (.inl ⟨rfl, rfl⟩)
    refine ⟨_, m1, m2, ⟨rfl, rfl⟩, _, setP_same .., Nat.le_refl _, fun _ => ⟨Nat.le_refl _, a, cap, rfl, hc, .inl rfl⟩⟩
  · obtain ⟨m1, m2⟩ := mk ⟨ty, some (r, o), l.length * sh.length, l.length, 0, true⟩ rfl rfl rfl (.inr ⟨r, o, arr, ty, fz, rfl, h1, h2, Nat.le_refl _⟩)
    refine ⟨_, m1, m2, ⟨rfl, rfl⟩, _, setP_same .., Nat.le_refl _, fun _ => ⟨by simp, some ⟨r, o, none⟩, cap, rfl, hc, .inr ⟨r, o, rfl, by simp⟩⟩⟩

theorem AllC.use {w : World} : ∀ {ks : List Kc} {bs : List BC} {Q : List At → List BC → Prop} {cs : List Value} {φ : Phi}, AllC ks bs Q → All2 (CF w) ks cs → RoB w φ bs →
    ∃ as bs' ψ, φ.le ψ ∧ RoB w ψ bs' ∧ All2 (At.rel ψ) as cs ∧ Q as bs'
  | [], bs, Q, cs, φ, h, hc, hb => by cases hc; exact ⟨[], bs, φ, φ.le_refl, hb, .nil, h⟩
  | .one (.int k) :: ks, bs, Q, cs, φ, h, hc, hb => by
    cases hc with
    | cons a b =>
      obtain ⟨x, ⟨n, rfl, h1, h2⟩, hv⟩ := a
      obtain ⟨as, bs', ψ, p1, p2, p3, p4⟩ := (h n h1 h2).use b hb
      exact ⟨_ :: as, bs', ψ, p1, p2, .cons (At.rel_mono (φ := fun _ => none) (fun _ _ h => nomatch h) hv) p3, p4⟩
  | .one .bool :: ks, bs, Q, cs, φ, h, hc, hb => by
    cases hc with
    | cons a b =>
      obtain ⟨x, ⟨n, rfl⟩, hv⟩ := a
      obtain ⟨as, bs', ψ, p1, p2, p3, p4⟩ := (h n).use b hb
      exact ⟨_ :: as, bs', ψ, p1, p2, .cons (At.rel_mono (φ := fun _ => none) (fun _ _ h => nomatch h) hv) p3, p4⟩
  | .one .str :: ks, bs, Q, cs, φ, h, hc, hb => by
    cases hc with
    | cons a b =>
      obtain ⟨x, ⟨n, rfl, h1⟩, hv⟩ := a
      obtain ⟨as, bs', ψ, p1, p2, p3, p4⟩ := (h n h1).use b hb
      exact ⟨_ :: as, bs', ψ, p1, p2, .cons (At.rel_mono (φ := fun _ => none) (fun _ _ h => nomatch h) hv) p3, p4⟩
  | .slc sh :: ks, bs, Q, cs, φ, h, hc, hb => by
    cases hc with
    | cons a b =>
      obtain ⟨l, h1, h2, h3⟩ := a
      obtain ⟨χ, q1, q2, q3⟩ := hb.add h3
      obtain ⟨as, bs', ψ, p1, p2, p3, p4⟩ := (h l h1 h2).use b q2
      exact ⟨_ :: as, bs', ψ, Phi.le_trans q1 p1, p2, .cons (At.rel_mono p1 q3) p3, p4⟩

/-- The shape of a parameter. -/
def kcShape (P : Program) (t : TypeId) : Option (Bool × List Kc) :=
  match P.underlying t with
  | some (.struct _) | some (.array _ _) => match kcT P 20 t with
    | some ks => some (true, ks)
    | none => none
  | some _ => match kcT P 20 t with
    | some [k] => some (false, [k])
    | _ => none
  | none => none

def kcShapes (P : Program) : List TypeId → Option (List (Bool × List Kc))
  | [] => some []
  | t :: ts => match kcShape P t, kcShapes P ts with
    | some s, some ss => some (s :: ss)
    | _, _ => none

theorem argsB_open {H : Type} {enc : TypeId × Value → H} {P : Program} {w : World} {r : Reach} {base : Nat} : ∀ {ts : List TypeId} {vs : List Value} {ds : List (DataW H)} {ps : List MemPlace} {ss : List (Bool × List Kc)} {bs : List BC} {Q : List LV → List BC → Prop} {φ : Phi}, kcShapes P ts = some ss →
    DataW.TrodAll enc P w 0 (fun _ => true) true ts vs ds ps → (∀ (j : Nat) t v, ts[j]? = some t → vs[j]? = some v → Value.okWide P w r base t v) → AllB ss bs Q → RoB w φ bs →
    ∃ as bs' ψ, φ.le ψ ∧ RoB w ψ bs' ∧ All2 (LV.rel ψ) as vs ∧ Q as bs'
  | [], [], [], ps, ss, bs, Q, φ, hs, _, _, h, hb => by
    simp only [kcShapes, Option.some.injEq] at hs; subst hs
    exact ⟨[], bs, φ, φ.le_refl, hb, .nil, h⟩
  | [], [], _ :: _, ps, ss, bs, Q, φ, hs, ht, _, _, _ => ht.elim
  | [], _ :: _, _, ps, ss, bs, Q, φ, hs, ht, _, _, _ => ht.elim
  | t :: ts, [], _, ps, ss, bs, Q, φ, hs, ht, _, _, _ => ht.elim
  | t :: ts, v :: vs, [], ps, ss, bs, Q, φ, hs, ht, _, _, _ => ht.elim
  | t :: ts, v :: vs, d :: ds, ps, ss, bs, Q, φ, hs, ht, hw, h, hb => by
    obtain ⟨p, q, ⟨fuel, h1⟩, h2, rfl⟩ := ht
    unfold kcShapes at hs
    split at hs
    · rename_i s ss' k1 k2
      simp only [Option.some.injEq] at hs; subst hs
      obtain ⟨qq, ks⟩ := s
      have hw0 := hw 0 t v (by simp) (by simp)
      have rest := fun {Q'} {bs'} {ψ} => argsB_open (enc := enc) (Q := Q') (bs := bs') (φ := ψ) k2 h2 (fun j u x hj hx => hw (j + 1) u x (by simpa using hj) (by simpa using hx))
      have agg : (∃ cs, v = .agg cs) → kcT P 20 t = some ks → qq = true → ∃ as bs' ψ, φ.le ψ ∧ RoB w ψ bs' ∧ All2 (LV.rel ψ) as (v :: vs) ∧ Q as bs' := fun ⟨cs, hv⟩ hk hq => by
        subst hq hv
        have hcf := trod_kc 20 hk h1
        obtain ⟨l, bs', ψ, p1, p2, p3, p4⟩ := AllC.use h hcf hb
        obtain ⟨as, bs'', χ, r1, r2, r3, r4⟩ := rest p4 p2
        exact ⟨.g l :: as, bs'', χ, Phi.le_trans p1 r1, r2, .cons ⟨cs, rfl, p3.mono fun _ _ => At.rel_mono r1⟩ r3, r4⟩
      unfold kcShape at k1
      unfold Value.okWide at hw0
      split at k1
      · rename_i hu
        simp only [hu] at hw0
        obtain ⟨cs, e, _, _⟩ := hw0
        split at k1
        · rename_i ks' hk
          simp only [Option.some.injEq, Prod.mk.injEq] at k1
          obtain ⟨rfl, rfl⟩ := k1
          exact agg ⟨cs, e⟩ hk rfl
        · cases k1
      · rename_i hu
        simp only [hu] at hw0
        obtain ⟨cs, e, _, _⟩ := hw0
        split at k1
        · rename_i ks' hk
          simp only [Option.some.injEq, Prod.mk.injEq] at k1
          obtain ⟨rfl, rfl⟩ := k1
          exact agg ⟨cs, e⟩ hk rfl
        · cases k1
      · rename_i dd hne1 hne2 hu
        simp only [hu] at hw0
        have hwc : Cell.okWide P w r base t v := by
          cases dd <;> first | exact hw0 | exact absurd rfl (hne1 _) | exact absurd rfl (hne2 _ _)
        split at k1
        · rename_i k hk
          simp only [Option.some.injEq, Prod.mk.injEq] at k1
          obtain ⟨rfl, rfl⟩ := k1
          have hone : v.cells = #[v] := by
            cases v with
            | agg cs =>
              exfalso
              unfold Cell.okWide at hwc
              unfold kcT at hk
              cases dd <;> simp only [hu, reduceCtorEq] at hk hwc <;> first | exact absurd rfl (hne1 _) | exact absurd rfl (hne2 _ _) | (unfold Cell.ok at hwc; simp [hu] at hwc)
            | _ => rfl
          have hcf := trod_kc 20 hk h1
          obtain ⟨l, bs', ψ, p1, p2, p3, p4⟩ := AllC.use h hcf hb
          have hlen := p3.length
          have hlen2 := hcf.length
          match l, hlen with
          | [x], hlen =>
            obtain ⟨as, bs'', χ, r1, r2, r3, r4⟩ := rest p4 p2
            refine ⟨.a x :: as, bs'', χ, Phi.le_trans p1 r1, r2, .cons ?_ r3, r4⟩
            rw [hone] at p3
            cases p3 with
            | cons p _ => exact At.rel_mono r1 p
          | [], hlen => simp at hlen hlen2; omega
          | _ :: _ :: _, hlen => simp at hlen hlen2; omega
        · cases k1
      · cases k1
    · cases hs

theorem trodAll_stays' {H : Type} {enc : TypeId × Value → H} {P : Program} (hl : laidOutB P = true) {W W' : World} (hb : Below W.heap.size W W') {sp : Nat → Bool} : ∀ {ts : List TypeId} {vs : List Value} {ds : List (DataW H)} {ps : List MemPlace},
    (ts.all fun t => P.readableRec t && decide (t < P.types.size)) = true → DataW.TrodAll enc P W 0 (fun _ => true) true ts vs ds ps → (∀ p ∈ ps, p.block < W.heap.size) → (∀ p ∈ ps, sp p.block = true) →
    DataW.TrodAll enc P W' 0 sp true ts vs ds ps
  | [], [], [], ps, _, h, _, _ => h
  | [], [], _ :: _, ps, _, h, _, _ => h.elim
  | [], _ :: _, _, ps, _, h, _, _ => h.elim
  | t :: ts, [], _, ps, _, h, _, _ => h.elim
  | t :: ts, v :: vs, [], ps, _, h, _, _ => h.elim
  | t :: ts, v :: vs, d :: ds, ps, hr, h, hlt, hs => by
    obtain ⟨p, q, h1, h2, rfl⟩ := h
    simp only [List.all_cons, Bool.and_eq_true] at hr
    exact ⟨p, q, WideElems.Trod_stays hl hr.1.1 (of_decide_eq_true hr.1.2) h1 (fun x hx => hb.same (hlt x (List.mem_append.2 (.inl hx)))) (fun x hx => hs x (List.mem_append.2 (.inl hx))),
      trodAll_stays' hl hb hr.2 h2 (fun x hx => hlt x (List.mem_append.2 (.inr hx))) (fun x hx => hs x (List.mem_append.2 (.inr hx))), rfl⟩

theorem trodAll_len {H : Type} {enc : TypeId × Value → H} {P : Program} {W : World} {sp : Nat → Bool} {hd : Bool} : ∀ {ts : List TypeId} {vs : List Value} {ds : List (DataW H)} {ps : List MemPlace},
    DataW.TrodAll enc P W 0 sp hd ts vs ds ps → ds.length = ts.length
  | [], [], [], ps, _ => rfl
  | [], [], _ :: _, ps, h => h.elim
  | [], _ :: _, _, ps, h => h.elim
  | t :: ts, [], _, ps, h => h.elim
  | t :: ts, v :: vs, [], ps, h => h.elim
  | t :: ts, v :: vs, d :: ds, ps, h => by
    obtain ⟨p, q, _, h2, _⟩ := h
    simp [trodAll_len h2]

/-- The row's step for a law whose arguments hold slices: whatever the arguments, it returns true. -/
theorem law_liftedB {C : Checked} {os : Os} (started : os.Started) {H : Type} (enc : TypeId × Value → H) {f : Nat} {fn : Func} {s : ChangeSpec} {ss : List (Bool × List Kc)} {tb : TypeId}
    (own : ownKnob C.prog.godebug = none) (hi : C.prog.inits.idxOf? f = none) (hf : C.prog.funcs[f]? = some fn) (hv : s.vars = [])
    (hfn : ∀ ds : List (DataW H), ds.length = fn.params.toList.length → s.fn H (ds ++ []) = { results := [.lit (.bool true)], args := ds })
    (hlo : laidOutB C.prog = true) (hp : (fn.params.toList.all fun t => C.prog.readableRec t && decide (t < C.prog.types.size)) = true) (hs : kcShapes C.prog fn.params.toList = some ss) (hr : fn.resultTypes = #[tb]) (htb : C.prog.underlying tb = some .bool)
    (wit : ∃ (w : World) (tape : Tape) (i : Input), w.os = os ∧ World.Shaped C.prog (w.forCall tape i) ∧ i.vars = [] ∧ Input.okWide C.prog (w.forCall tape i) Reach.any w.heap.size f i ∧
      ChangeSpec.pre6 enc C.prog fn s [] false (w.forCall tape i).memory i.args ∧ Assume.holds {} C.prog (lone (Frame.enter C.prog f i.args CallKind.normal) [] (w.forCall tape i)))
    (core : AllB ss [] fun as bs => ∀ (vs : Array Value) (w : World) (φ : Phi), All2 (LV.rel φ) as vs.toList → (∀ out, MR w (fun _ => False) φ (memOf bs) (hdsIn bs out) (fun b => bs.length ≤ b) w) → Calls C.prog f vs w fun e w' => e = .returned (.bool true) ∧ Grows w w') :
    ReturnsInHanded {} C os f .any (s.pre6 enc C.prog fn [] false) (s.post enc C.prog fn false true false false) := by
  refine returnsInHanded_of_change own started hi hf wit ?_
  intro W base args ds gs before hval hW hcnd _
  have hW' := hW
  obtain ⟨p, q, hA, hV, rfl, hfz, hnd⟩ := hW
  rw [hv] at hV
  obtain ⟨rfl, rfl⟩ := trodVars_none hV
  have hlt : ∀ x ∈ p, x.block < W.heap.size := fun x hx => by simpa using hW'.lt x (List.mem_append.2 (.inl hx))
  obtain ⟨as, bs, φ, _, a0, a1, a2⟩ := argsB_open hs hA (fun j t v h1 h2 => hval j t v (by simpa using h1) (by simpa using h2)) core (RoB.nil W)
  have hdl : ds.length = fn.params.toList.length := trodAll_len hA
  refine (a2 args W φ a1 (fun out => a0.mr out)).mono fun e W' ⟨he, hg⟩ => ?_
  subst he
  have e1 := hfn ds hdl
  refine ⟨_, rfl, post_of_same (pa := p) (pv := []) hW' ?_ ?_ ?_ rfl (hg.below.frame _) hg.frz ?_⟩
  · intro b sp hd
    rw [e1, hr]
    exact trodAll_cons_mk (shut_bool htb _) trodAll_mk0
  · intro sp hsp
    rw [e1]
    exact trodAll_stays' hlo hg.below hp hA hlt (fun x hx => hsp x (List.mem_append.2 (.inl hx)))
  · intro sp _
    rw [hv, e1]
    exact rfl
  · exact ok_one hr rfl (okWide_bool_mk htb _)

theorem law_coreB {P : Program} {f : Nat} {c : Con} (hc : ConOK P f c) {args : List LV} {bs : List BC} {obs : List Prop} {m b : Bool} {out : List (Option BC)} (he : c args bs = some (obs, .a (.bool m b), out)) (ho : Alls obs) (hb : b = true) (vs : Array Value) (w : World) (φ : Phi)
    (h : All2 (LV.rel φ) args vs.toList) (hM : ∀ out, MR w (fun _ => False) φ (memOf bs) (hdsIn bs out) (fun b => bs.length ≤ b) w) : Calls P f vs w fun e w' => e = .returned (.bool true) ∧ Grows w w' := by
  refine (hc _ _ _ _ _ he ho φ vs w (fun _ => False) h (hM out)).mono fun e w' hh => ?_
  obtain ⟨v', φ', rfl, _, hv, hm⟩ := hh
  have hv' : v' = .bool b := hv
  exact ⟨by rw [hv', hb], ⟨hm.os, hm.tape, hm.output, hm.size, fun k hk => hm.block k hk id⟩, hm.frz⟩

end Go.Proofs.Ytcdejlgophpdjaa.V
end

section
namespace Go.Proofs.Ytcdejlgophpdjaa
open Go Go.RowKit Go.Proofs.Ytcdejlgophpdjaa.V

theorem follows : Try.prog.follows .mixedOrders = true := by kernel_rfl

def tabVL : Tab := []
theorem tabVL_ok : TOK Try.prog tabVL := TOK.nil

end Go.Proofs.Ytcdejlgophpdjaa
end

section
namespace Go.Proofs.Ytcdejlgophpdjaa
open Go Go.RowKit Go.Proofs.Ytcdejlgophpdjaa.V
set_option linter.unusedVariables false

/-! math/bits.Mul32 -/
def bMul32_s0 (x0 : Int) (x1 : Int) : Int := IntKind.wrap IntKind.u64 (IntKind.wrap IntKind.u64 x0 * IntKind.wrap IntKind.u64 x1)
def bMul32_0 (x0 : Int) (x1 : Int) : Int := IntKind.wrap IntKind.u32 (Int.fdiv (bMul32_s0 x0 x1) ((2 : Int) ^ min (Int.toNat (32 : Int)) (IntKind.bits IntKind.u64)))
def bMul32_1 (x0 : Int) (x1 : Int) : Int := IntKind.wrap IntKind.u32 (bMul32_s0 x0 x1)
theorem bMul32_p (x0 : Int) (x1 : Int) : evG Try.prog tabVL 2000 139 [0, 1, 4, 5, 6] [] [] [.a (.int true .u32 x0), .a (.int true .u32 x1)] [] = some ([], LV.t [LV.a (At.int true IntKind.u32 (bMul32_0 x0 x1)), LV.a (At.int true IntKind.u32 (bMul32_1 x0 x1))], []) := by kernel_rfl
def bMul32_c : Con
  | [.a (.int true .u32 x0), .a (.int true .u32 x1)], [] => some ([], LV.t [LV.a (At.int true IntKind.u32 (bMul32_0 x0 x1)), LV.a (At.int true IntKind.u32 (bMul32_1 x0 x1))], [])
  | _, _ => none
theorem bMul32_ok : ConOK Try.prog 139 (normC bMul32_c) := normC_ok (by
  intro args bs obs lv out h ho φ vs w may ha hM
  unfold bMul32_c at h
  split at h
  · simp only [Option.some.injEq, Prod.mk.injEq] at h
    obtain ⟨rfl, rfl, rfl⟩ := h
    rename_i x0 x1
    exact evG_ok tabVL_ok follows _ _ _ _ _ (bMul32_p x0 x1) ho φ vs w may ha hM
  · cases h)
theorem bMul32_en : Enters Try.prog 139 := fun args => by kernel_rfl
-- 139 4 5 ms

/-! math/bits.Mul64 -/
def bMul64_s0 : Int := (2 : Int) ^ min (Int.toNat (32 : Int)) (IntKind.bits IntKind.u64)
def bMul64_s1 : Int := Int.ofNat ((2 : Nat) ^ IntKind.bits IntKind.u64)
def bMul64_s2 : Nat := Int.toNat ((4294967295 : Int) % bMul64_s1)
def bMul64_s3 (x1 : Int) : Int := IntKind.wrap IntKind.u64 (Int.ofNat (Int.toNat (x1 % bMul64_s1) &&& bMul64_s2))
def bMul64_s4 (x0 : Int) : Int := IntKind.wrap IntKind.u64 (Int.ofNat (Int.toNat (x0 % bMul64_s1) &&& bMul64_s2))
def bMul64_s5 (x0 : Int) (x1 : Int) : Int := IntKind.wrap IntKind.u64 (IntKind.wrap IntKind.u64 (Int.fdiv x0 bMul64_s0 * bMul64_s3 x1) + Int.fdiv (IntKind.wrap IntKind.u64 (bMul64_s4 x0 * bMul64_s3 x1)) bMul64_s0)
def bMul64_0 (x0 : Int) (x1 : Int) : Int := IntKind.wrap IntKind.u64 (IntKind.wrap IntKind.u64 (IntKind.wrap IntKind.u64 (Int.fdiv x0 bMul64_s0 * Int.fdiv x1 bMul64_s0) + Int.fdiv (bMul64_s5 x0 x1) bMul64_s0) + Int.fdiv (IntKind.wrap IntKind.u64 (IntKind.wrap IntKind.u64 (Int.ofNat (Int.toNat (bMul64_s5 x0 x1 % bMul64_s1) &&& bMul64_s2)) + IntKind.wrap IntKind.u64 (bMul64_s4 x0 * Int.fdiv x1 bMul64_s0))) bMul64_s0)
def bMul64_1 (x0 : Int) (x1 : Int) : Int := IntKind.wrap IntKind.u64 (x0 * x1)
theorem bMul64_p (x0 : Int) (x1 : Int) : evG Try.prog tabVL 2000 140 [0, 1, 4, 5, 6, 7, 8, 9, 10, 11, 12, 13] [] [] [.a (.int true .u64 x0), .a (.int true .u64 x1)] [] = some ([], LV.t [LV.a (At.int true IntKind.u64 (bMul64_0 x0 x1)), LV.a (At.int true IntKind.u64 (bMul64_1 x0 x1))], []) := by kernel_rfl
def bMul64_c : Con
  | [.a (.int true .u64 x0), .a (.int true .u64 x1)], [] => some ([], LV.t [LV.a (At.int true IntKind.u64 (bMul64_0 x0 x1)), LV.a (At.int true IntKind.u64 (bMul64_1 x0 x1))], [])
  | _, _ => none
theorem bMul64_ok : ConOK Try.prog 140 (normC bMul64_c) := normC_ok (by
  intro args bs obs lv out h ho φ vs w may ha hM
  unfold bMul64_c at h
  split at h
  · simp only [Option.some.injEq, Prod.mk.injEq] at h
    obtain ⟨rfl, rfl, rfl⟩ := h
    rename_i x0 x1
    exact evG_ok tabVL_ok follows _ _ _ _ _ (bMul64_p x0 x1) ho φ vs w may ha hM
  · cases h)
theorem bMul64_en : Enters Try.prog 140 := fun args => by kernel_rfl
-- 189 5 13 ms

/-! (azulejo/azulejolaw19.Small).Pixel -/
theorem smPix_p (x0_0 : Int) (x0_1 : Int) (x0_2 : Int) (x0_3 : Int) (x0_4 : Int) (x0_5 : Int) : evG Try.prog tabVL 2000 39 [0, 1, 2] [] [] [.g [.int true .u8 x0_0, .int true .u8 x0_1, .int true .u8 x0_2, .int true .u8 x0_3, .int true .u16 x0_4, .int true .u8 x0_5]] [] = some ([], LV.g [At.int true IntKind.u8 x0_0, At.int true IntKind.u8 x0_1, At.int true IntKind.u8 x0_2, At.int true IntKind.u8 x0_3, At.int true IntKind.i64 (IntKind.wrap IntKind.i64 x0_4), At.int true IntKind.u8 x0_5], []) := by kernel_rfl
def smPix_c : Con
  | [.g [.int true .u8 x0_0, .int true .u8 x0_1, .int true .u8 x0_2, .int true .u8 x0_3, .int true .u16 x0_4, .int true .u8 x0_5]], [] => some ([], LV.g [At.int true IntKind.u8 x0_0, At.int true IntKind.u8 x0_1, At.int true IntKind.u8 x0_2, At.int true IntKind.u8 x0_3, At.int true IntKind.i64 (IntKind.wrap IntKind.i64 x0_4), At.int true IntKind.u8 x0_5], [])
  | _, _ => none
theorem smPix_ok : ConOK Try.prog 39 (normC smPix_c) := normC_ok (by
  intro args bs obs lv out h ho φ vs w may ha hM
  unfold smPix_c at h
  split at h
  · simp only [Option.some.injEq, Prod.mk.injEq] at h
    obtain ⟨rfl, rfl, rfl⟩ := h
    rename_i x0_0 x0_1 x0_2 x0_3 x0_4 x0_5
    exact evG_ok tabVL_ok follows _ _ _ _ _ (smPix_p x0_0 x0_1 x0_2 x0_3 x0_4 x0_5) ho φ vs w may ha hM
  · cases h)
theorem smPix_en : Enters Try.prog 39 := fun args => by kernel_rfl
-- 159 3 0 ms

/-! azulejo/bin.tiles -/
def bTiles_s0 (x0 : Int) : Int := if x0 < (0 : Int) then (0 : Int) else x0
def bTiles_0 (x0 : Int) : Int := IntKind.wrap IntKind.i64 (Int.tdiv (IntKind.wrap IntKind.i64 (IntKind.wrap IntKind.i64 ((if (64 : Int) < bTiles_s0 x0 then (64 : Int) else bTiles_s0 x0) + (8 : Int)) - (1 : Int))) (8 : Int))
theorem bTiles_p (x0 : Int) : evG Try.prog tabVL 2000 103 [0, 2] [] [] [.a (.int true .i64 x0)] [] = some ([], LV.a (At.int true IntKind.i64 (bTiles_0 x0)), []) := by kernel_rfl
def bTiles_c : Con
  | [.a (.int true .i64 x0)], [] => some ([], LV.a (At.int true IntKind.i64 (bTiles_0 x0)), [])
  | _, _ => none
theorem bTiles_ok : ConOK Try.prog 103 (normC bTiles_c) := normC_ok (by
  intro args bs obs lv out h ho φ vs w may ha hM
  unfold bTiles_c at h
  split at h
  · simp only [Option.some.injEq, Prod.mk.injEq] at h
    obtain ⟨rfl, rfl, rfl⟩ := h
    rename_i x0
    exact evG_ok tabVL_ok follows _ _ _ _ _ (bTiles_p x0) ho φ vs w may ha hM
  · cases h)
theorem bTiles_en : Enters Try.prog 103 := fun args => by kernel_rfl
-- 55 4 5 ms

def tabFa1 : Tab := (139, normC bMul32_c) :: (140, normC bMul64_c) :: (39, normC smPix_c) :: (103, normC bTiles_c) :: tabVL
theorem tabFa1_ok : TOK Try.prog tabFa1 := TOK.cons bMul32_en bMul32_ok (TOK.cons bMul64_en bMul64_ok (TOK.cons smPix_en smPix_ok (TOK.cons bTiles_en bTiles_ok (tabVL_ok))))

end Go.Proofs.Ytcdejlgophpdjaa
end

section
namespace Go.Proofs.Ytcdejlgophpdjaa
open Go Go.RowKit Go.Proofs.Ytcdejlgophpdjaa.V
set_option linter.unusedVariables false

/-! math/bits.Mul -/
theorem bMul_p (x0 : Int) (x1 : Int) : evG Try.prog tabFa1 2000 131 [0, 1, 4, 5, 6, 7, 8, 9] [] [] [.a (.int true .u64 x0), .a (.int true .u64 x1)] [] = some ([], LV.t [LV.a (At.int true IntKind.u64 (bMul64_0 x0 x1)), LV.a (At.int true IntKind.u64 (bMul64_1 x0 x1))], []) := by kernel_rfl
def bMul_c : Con
  | [.a (.int true .u64 x0), .a (.int true .u64 x1)], [] => some ([], LV.t [LV.a (At.int true IntKind.u64 (bMul64_0 x0 x1)), LV.a (At.int true IntKind.u64 (bMul64_1 x0 x1))], [])
  | _, _ => none
theorem bMul_ok : ConOK Try.prog 131 (normC bMul_c) := normC_ok (by
  intro args bs obs lv out h ho φ vs w may ha hM
  unfold bMul_c at h
  split at h
  · simp only [Option.some.injEq, Prod.mk.injEq] at h
    obtain ⟨rfl, rfl, rfl⟩ := h
    rename_i x0 x1
    exact evG_ok tabFa1_ok follows _ _ _ _ _ (bMul_p x0 x1) ho φ vs w may ha hM
  · cases h)
theorem bMul_en : Enters Try.prog 131 := fun args => by kernel_rfl
-- 64 2 0 ms

/-! (azulejo/bin.Grid).Cols -/
theorem bCols_p (x0_0 : Int) (x0_1 : Int) : evG Try.prog tabFa1 2000 36 [0, 1, 2] [] [] [.g [.int true .i64 x0_0, .int true .i64 x0_1]] [] = some ([], LV.a (At.int true IntKind.i64 (bTiles_0 x0_0)), []) := by kernel_rfl
def bCols_c : Con
  | [.g [.int true .i64 x0_0, .int true .i64 x0_1]], [] => some ([], LV.a (At.int true IntKind.i64 (bTiles_0 x0_0)), [])
  | _, _ => none
theorem bCols_ok : ConOK Try.prog 36 (normC bCols_c) := normC_ok (by
  intro args bs obs lv out h ho φ vs w may ha hM
  unfold bCols_c at h
  split at h
  · simp only [Option.some.injEq, Prod.mk.injEq] at h
    obtain ⟨rfl, rfl, rfl⟩ := h
    rename_i x0_0 x0_1
    exact evG_ok tabFa1_ok follows _ _ _ _ _ (bCols_p x0_0 x0_1) ho φ vs w may ha hM
  · cases h)
theorem bCols_en : Enters Try.prog 36 := fun args => by kernel_rfl
-- 79 1 0 ms

/-! (azulejo/bin.Grid).Rows -/
theorem bRows_p (x0_0 : Int) (x0_1 : Int) : evG Try.prog tabFa1 2000 100 [0, 1, 2] [] [] [.g [.int true .i64 x0_0, .int true .i64 x0_1]] [] = some ([], LV.a (At.int true IntKind.i64 (bTiles_0 x0_1)), []) := by kernel_rfl
def bRows_c : Con
  | [.g [.int true .i64 x0_0, .int true .i64 x0_1]], [] => some ([], LV.a (At.int true IntKind.i64 (bTiles_0 x0_1)), [])
  | _, _ => none
theorem bRows_ok : ConOK Try.prog 100 (normC bRows_c) := normC_ok (by
  intro args bs obs lv out h ho φ vs w may ha hM
  unfold bRows_c at h
  split at h
  · simp only [Option.some.injEq, Prod.mk.injEq] at h
    obtain ⟨rfl, rfl, rfl⟩ := h
    rename_i x0_0 x0_1
    exact evG_ok tabFa1_ok follows _ _ _ _ _ (bRows_p x0_0 x0_1) ho φ vs w may ha hM
  · cases h)
theorem bRows_en : Enters Try.prog 100 := fun args => by kernel_rfl
-- 91 1 0 ms

def tabFa2 : Tab := (131, normC bMul_c) :: (36, normC bCols_c) :: (100, normC bRows_c) :: tabFa1
theorem tabFa2_ok : TOK Try.prog tabFa2 := TOK.cons bMul_en bMul_ok (TOK.cons bCols_en bCols_ok (TOK.cons bRows_en bRows_ok (tabFa1_ok)))

end Go.Proofs.Ytcdejlgophpdjaa
end

section
namespace Go.Proofs.Ytcdejlgophpdjaa
open Go Go.RowKit Go.Proofs.Ytcdejlgophpdjaa.V
set_option linter.unusedVariables false

/-! (azulejo/bin.Grid).Tiles -/
def bGTiles_0 (x0_0 : Int) (x0_1 : Int) : Int := IntKind.wrap IntKind.i64 (bTiles_0 x0_0 * bTiles_0 x0_1)
theorem bGTiles_p (x0_0 : Int) (x0_1 : Int) : evG Try.prog tabFa2 2000 29 [0, 1, 2] [] [] [.g [.int true .i64 x0_0, .int true .i64 x0_1]] [] = some ([], LV.a (At.int true IntKind.i64 (bGTiles_0 x0_0 x0_1)), []) := by kernel_rfl
def bGTiles_c : Con
  | [.g [.int true .i64 x0_0, .int true .i64 x0_1]], [] => some ([], LV.a (At.int true IntKind.i64 (bGTiles_0 x0_0 x0_1)), [])
  | _, _ => none
theorem bGTiles_ok : ConOK Try.prog 29 (normC bGTiles_c) := normC_ok (by
  intro args bs obs lv out h ho φ vs w may ha hM
  unfold bGTiles_c at h
  split at h
  · simp only [Option.some.injEq, Prod.mk.injEq] at h
    obtain ⟨rfl, rfl, rfl⟩ := h
    rename_i x0_0 x0_1
    exact evG_ok tabFa2_ok follows _ _ _ _ _ (bGTiles_p x0_0 x0_1) ho φ vs w may ha hM
  · cases h)
theorem bGTiles_en : Enters Try.prog 29 := fun args => by kernel_rfl
-- 68 2 2 ms

def tabFa3 : Tab := (29, normC bGTiles_c) :: tabFa2
theorem tabFa3_ok : TOK Try.prog tabFa3 := TOK.cons bGTiles_en bGTiles_ok (tabFa2_ok)

end Go.Proofs.Ytcdejlgophpdjaa
end

section
namespace Go.Proofs.Ytcdejlgophpdjaa
open Go Go.RowKit Go.Proofs.Ytcdejlgophpdjaa.V
set_option linter.unusedVariables false

/-! (azulejo/bin.Grid).Box -/
def bBox_s0 (x0_0 : Int) (x0_1 : Int) (x1 : Int) : Bool := bif decide (x1 < (0 : Int)) then true else decide (bGTiles_0 x0_0 x0_1 ≤ x1)
def bBox_s1 (x0_0 : Int) (x1 : Int) : Int := IntKind.wrap IntKind.i64 (Int.tmod x1 (bTiles_0 x0_0) * (8 : Int))
def bBox_0 (x0_0 : Int) (x0_1 : Int) (x1 : Int) : Int := bif bBox_s0 x0_0 x0_1 x1 then (0 : Int) else bBox_s1 x0_0 x1
def bBox_s2 (x0_0 : Int) (x1 : Int) : Int := IntKind.wrap IntKind.i64 (IntKind.wrap IntKind.i64 (Int.tdiv x1 (bTiles_0 x0_0)) * (8 : Int))
def bBox_1 (x0_0 : Int) (x0_1 : Int) (x1 : Int) : Int := bif bBox_s0 x0_0 x0_1 x1 then (0 : Int) else bBox_s2 x0_0 x1
def bBox_s3 (x0_0 : Int) (x1 : Int) : Int := IntKind.wrap IntKind.i64 (bBox_s1 x0_0 x1 + (8 : Int))
def bBox_2 (x0_0 : Int) (x0_1 : Int) (x1 : Int) : Int := bif bBox_s0 x0_0 x0_1 x1 then (0 : Int) else if x0_0 < bBox_s3 x0_0 x1 then x0_0 else bBox_s3 x0_0 x1
def bBox_s4 (x0_0 : Int) (x1 : Int) : Int := IntKind.wrap IntKind.i64 (bBox_s2 x0_0 x1 + (8 : Int))
def bBox_3 (x0_0 : Int) (x0_1 : Int) (x1 : Int) : Int := bif bBox_s0 x0_0 x0_1 x1 then (0 : Int) else if x0_1 < bBox_s4 x0_0 x1 then x0_1 else bBox_s4 x0_0 x1
def bBox_o (x0_0 : Int) (x0_1 : Int) (x1 : Int) : List Prop := [(!bBox_s0 x0_0 x0_1 x1) = true → bTiles_0 x0_0 ≠ (0 : Int), (!bBox_s0 x0_0 x0_1 x1) = true → bTiles_0 x0_0 ≠ (0 : Int)]
theorem bBox_p (x0_0 : Int) (x0_1 : Int) (x1 : Int) : evG Try.prog tabFa3 2000 31 [0, 1, 2, 4, 5, 6, 14] [] [] [.g [.int true .i64 x0_0, .int true .i64 x0_1], .a (.int true .i64 x1)] [] = some (bBox_o x0_0 x0_1 x1, LV.g [At.int true IntKind.i64 (bBox_0 x0_0 x0_1 x1), At.int true IntKind.i64 (bBox_1 x0_0 x0_1 x1), At.int true IntKind.i64 (bBox_2 x0_0 x0_1 x1), At.int true IntKind.i64 (bBox_3 x0_0 x0_1 x1)], []) := by kernel_rfl
def bBox_c : Con
  | [.g [.int true .i64 x0_0, .int true .i64 x0_1], .a (.int true .i64 x1)], [] => some (bBox_o x0_0 x0_1 x1, LV.g [At.int true IntKind.i64 (bBox_0 x0_0 x0_1 x1), At.int true IntKind.i64 (bBox_1 x0_0 x0_1 x1), At.int true IntKind.i64 (bBox_2 x0_0 x0_1 x1), At.int true IntKind.i64 (bBox_3 x0_0 x0_1 x1)], [])
  | _, _ => none
theorem bBox_ok : ConOK Try.prog 31 (normC bBox_c) := normC_ok (by
  intro args bs obs lv out h ho φ vs w may ha hM
  unfold bBox_c at h
  split at h
  · simp only [Option.some.injEq, Prod.mk.injEq] at h
    obtain ⟨rfl, rfl, rfl⟩ := h
    rename_i x0_0 x0_1 x1
    exact evG_ok tabFa3_ok follows _ _ _ _ _ (bBox_p x0_0 x0_1 x1) ho φ vs w may ha hM
  · cases h)
theorem bBox_en : Enters Try.prog 31 := fun args => by kernel_rfl
-- 410 107 10 ms

def tabFa4 : Tab := (31, normC bBox_c) :: tabFa3
theorem tabFa4_ok : TOK Try.prog tabFa4 := TOK.cons bBox_en bBox_ok (tabFa3_ok)

end Go.Proofs.Ytcdejlgophpdjaa
end

section
namespace Go.Proofs.Ytcdejlgophpdjaa
open Go Go.RowKit Go.Proofs.Ytcdejlgophpdjaa.V
set_option linter.unusedVariables false

def sRep_D : Tab := (2, decC [(13, false), (61, false)]) :: tabFa4
theorem sRep_D_ok : TOK Try.prog sRep_D := TOK.cons (fun args => by kernel_rfl) (fun _ _ _ _ _ h ho => (decC_ok h ho).elim) tabFa4_ok
/-! slices.Repeat[[]azulejo/pixel.Pixel,azulejo/pixel.Pixel] -/
noncomputable def sRep_l254_code : Go.Code := loopOf (subs (bodyOf Try.prog 104) 1 254)
structure sRep_l254_T where
  a0 : Int
  a1 : List (List Int)
  deriving Inhabited
def sRep_l254_hd (v : sRep_l254_T) : HS := HS.mk [(nat_lit 4, LV.a At.nils), (nat_lit 7, LV.a (At.vec (nat_lit 0) (nat_lit 0) (nat_lit 6))), (nat_lit 8, LV.a (At.int true IntKind.i64 (sRep_l254_T.a0 v)))] [BC.mk (Hd.mk (nat_lit 0) (nat_lit 0) false (some (Rw.mk (nat_lit 0) [Kd.int IntKind.u8, Kd.int IntKind.u8, Kd.int IntKind.u8, Kd.int IntKind.u8, Kd.int IntKind.i64, Kd.int IntKind.u8] (sRep_l254_T.a1 v) none))) []]
def sRep_l254_s0 (v : sRep_l254_T) : Bool := decide (sRep_l254_T.a0 v < Int.ofNat (List.length (sRep_l254_T.a1 v)))
def sRep_l254_s1 (v : sRep_l254_T) : List (List Int) := List.take (Int.toNat (sRep_l254_T.a0 v) - Int.toNat (Int.ofNat (0 : Nat))) (List.drop (Int.toNat (Int.ofNat (0 : Nat))) (sRep_l254_T.a1 v))
def sRep_l254_s2 (v : sRep_l254_T) : Nat := Int.toNat (Int.ofNat (List.length (sRep_l254_T.a1 v))) - Int.toNat (sRep_l254_T.a0 v)
def sRep_l254_st (v : sRep_l254_T) : List Prop × List (X × Bool × sRep_l254_T) := ([sRep_l254_s0 v = true → (0 : Int) ≤ sRep_l254_T.a0 v ∧ sRep_l254_T.a0 v ≤ Int.ofNat (List.length (sRep_l254_T.a1 v)) ∧ Int.ofNat (List.length (sRep_l254_T.a1 v)) ≤ Int.ofNat (List.length (sRep_l254_T.a1 v)), sRep_l254_s0 v = true → (0 : Int) ≤ Int.ofNat (0 : Nat) ∧ Int.ofNat (0 : Nat) ≤ sRep_l254_T.a0 v ∧ sRep_l254_T.a0 v ≤ Int.ofNat (List.length (sRep_l254_T.a1 v))], [(X.e (0 : Nat), !sRep_l254_s0 v, sRep_l254_T.mk (sRep_l254_T.a0 v) (sRep_l254_T.a1 v)), (X.n, sRep_l254_s0 v, sRep_l254_T.mk (IntKind.wrap IntKind.i64 (sRep_l254_T.a0 v + Int.ofNat (Nat.min (List.length (sRep_l254_s1 v)) (sRep_l254_s2 v)))) (List.take (Int.toNat (sRep_l254_T.a0 v)) (sRep_l254_T.a1 v) ++ List.take (sRep_l254_s2 v) (sRep_l254_s1 v) ++ List.drop (Int.toNat (sRep_l254_T.a0 v) + Nat.min (List.length (sRep_l254_s1 v)) (sRep_l254_s2 v)) (sRep_l254_T.a1 v)))])
def sRep_l254_rd : HS → Option sRep_l254_T
  | HS.mk [(4, LV.a At.nils), (7, LV.a (At.vec 0 0 6)), (8, LV.a (At.int true IntKind.i64 a0))] [BC.mk (Hd.mk 0 0 false (some (Rw.mk 0 [Kd.int IntKind.u8, Kd.int IntKind.u8, Kd.int IntKind.u8, Kd.int IntKind.u8, Kd.int IntKind.i64, Kd.int IntKind.u8] a1 none))) []] => some (sRep_l254_T.mk a0 a1)
  | _ => none
def sRep_l254_sum : V.Sum := loopS sRep_l254_hd sRep_l254_rd sRep_l254_st 18446744073709551616 [X.e (0 : Nat)] [0, 1, 4, 5, 6, 7, 8, 10, 26, 37] [4, 7, 8] [0] [0] [] 0
theorem sRep_l254_E : ∀ v, bodyF Try.prog sRep_D (ntOf Try.prog 104) [0, 1, 4, 5, 6, 7, 8, 10, 26, 37] [4, 7, 8] [] 2000 [0] [0] sRep_l254_code 1016 (sRep_l254_hd v) = some ((sRep_l254_st v).1, (sRep_l254_st v).2.map fun q => (q.1, q.2.1, sRep_l254_hd q.2.2)) := fun v => by kernel_rfl
set_option maxHeartbeats 2000000 in
theorem sRep_l254_R : ∀ h v, sRep_l254_rd h = some v → h = sRep_l254_hd v := by
  intro h v e
  unfold sRep_l254_rd at e
  split at e
  · simp only [Option.some.injEq] at e; subst e; rfl
  · cases e
set_option maxRecDepth 100000 in
theorem sRep_l254_sok : SumOK Try.prog (ntOf Try.prog 104) [0, 1, 4, 5, 6, 7, 8, 10, 26, 37] (.block (blockOf (subs (bodyOf Try.prog 104) 1 254)) (.loop sRep_l254_code)) sRep_l254_sum := loopS_ok sRep_D_ok follows sRep_l254_E sRep_l254_R (fun v => by kernel_rfl) (LOK_of _ _ (LOK_nil'))
def sRep_s0 (p0 : Int) (p1 : Int) (p2 : Int) (p3 : Int) (p4 : Int) (p5 : Int) : List (List Int) := [[p0, p1, p2, p3, p4, p5]]
def sRep_s1 (x1 : Int) : Int := bMul64_1 (IntKind.wrap IntKind.u64 (Int.ofNat (1 : Nat))) (IntKind.wrap IntKind.u64 x1)
def sRep_s2 (x1 : Int) : List (List Int) := List.replicate (Int.toNat (IntKind.wrap IntKind.i64 (sRep_s1 x1))) [(0 : Int), (0 : Int), (0 : Int), (0 : Int), (0 : Int), (0 : Int)]
def sRep_s3 (x1 : Int) (p0 : Int) (p1 : Int) (p2 : Int) (p3 : Int) (p4 : Int) (p5 : Int) : Nat := Nat.min (List.length (sRep_s0 p0 p1 p2 p3 p4 p5)) (List.length (sRep_s2 x1))
def sRep_0 (x1 : Int) (p0 : Int) (p1 : Int) (p2 : Int) (p3 : Int) (p4 : Int) (p5 : Int) : List (List Int) := sRep_l254_T.a1 (V.valOf (lrun sRep_l254_st (18446744073709551616 : Nat) (sRep_l254_T.mk (Int.ofNat (sRep_s3 x1 p0 p1 p2 p3 p4 p5)) (List.take (0 : Nat) (sRep_s2 x1) ++ List.take (List.length (sRep_s2 x1)) (sRep_s0 p0 p1 p2 p3 p4 p5) ++ List.drop ((0 : Nat) + sRep_s3 x1 p0 p1 p2 p3 p4 p5) (sRep_s2 x1)))))
def sRep_o (x1 : Int) (r0 : Bool) (p0 : Int) (p1 : Int) (p2 : Int) (p3 : Int) (p4 : Int) (p5 : Int) : List Prop := [decide (x1 < (0 : Int)) = false, (bif decide ((0 : Int) < bMul64_0 (IntKind.wrap IntKind.u64 (Int.ofNat (1 : Nat))) (IntKind.wrap IntKind.u64 x1)) then true else decide ((9223372036854775807 : Int) < sRep_s1 x1)) = false, (0 : Int) ≤ IntKind.wrap IntKind.i64 (sRep_s1 x1) ∧ IntKind.wrap IntKind.i64 (sRep_s1 x1) = IntKind.wrap IntKind.i64 (sRep_s1 x1) ∧ IntKind.wrap IntKind.i64 (sRep_s1 x1) * Int.ofNat (24 : Nat) ≤ (70368744177664 : Int), lok sRep_l254_st (18446744073709551616 : Nat) (sRep_l254_T.mk (Int.ofNat (sRep_s3 x1 p0 p1 p2 p3 p4 p5)) (List.take (0 : Nat) (sRep_s2 x1) ++ List.take (List.length (sRep_s2 x1)) (sRep_s0 p0 p1 p2 p3 p4 p5) ++ List.drop ((0 : Nat) + sRep_s3 x1 p0 p1 p2 p3 p4 p5) (sRep_s2 x1)))]
theorem sRep_p (x1 : Int) (r0 : Bool) (p0 : Int) (p1 : Int) (p2 : Int) (p3 : Int) (p4 : Int) (p5 : Int) : evG Try.prog sRep_D 2000 104 [0, 1, 4, 5, 6, 7, 8, 10, 26, 37] [(254, sRep_l254_sum)] [] [.a (.slc false 0 0 0 6 0 1), .a (.int true .i64 x1)] [⟨⟨0, 6, r0, none⟩, [some (.int true .u8 p0), some (.int true .u8 p1), some (.int true .u8 p2), some (.int true .u8 p3), some (.int true .i64 p4), some (.int true .u8 p5)]⟩] = some (sRep_o x1 r0 p0 p1 p2 p3 p4 p5, LV.a (At.vec (nat_lit 1) (nat_lit 1) (nat_lit 6)), [none, some (BC.mk (Hd.mk (nat_lit 1) (nat_lit 0) false (some (Rw.mk (nat_lit 0) [Kd.int IntKind.u8, Kd.int IntKind.u8, Kd.int IntKind.u8, Kd.int IntKind.u8, Kd.int IntKind.i64, Kd.int IntKind.u8] (sRep_0 x1 p0 p1 p2 p3 p4 p5) none))) [])]) := by kernel_rfl
def sRep_c : Con
  | [.a (.slc false 0 0 0 6 0 1), .a (.int true .i64 x1)], [⟨⟨0, 6, r0, none⟩, [some (.int true .u8 p0), some (.int true .u8 p1), some (.int true .u8 p2), some (.int true .u8 p3), some (.int true .i64 p4), some (.int true .u8 p5)]⟩] => some (sRep_o x1 r0 p0 p1 p2 p3 p4 p5, LV.a (At.vec (nat_lit 1) (nat_lit 1) (nat_lit 6)), [none, some (BC.mk (Hd.mk (nat_lit 1) (nat_lit 0) false (some (Rw.mk (nat_lit 0) [Kd.int IntKind.u8, Kd.int IntKind.u8, Kd.int IntKind.u8, Kd.int IntKind.u8, Kd.int IntKind.i64, Kd.int IntKind.u8] (sRep_0 x1 p0 p1 p2 p3 p4 p5) none))) [])])
  | _, _ => none
theorem sRep_ok : ConOK Try.prog 104 (normC sRep_c) := normC_ok (by
  intro args bs obs lv out h ho φ vs w may ha hM
  unfold sRep_c at h
  split at h
  · simp only [Option.some.injEq, Prod.mk.injEq] at h
    obtain ⟨rfl, rfl, rfl⟩ := h
    rename_i x1 r0 p0 p1 p2 p3 p4 p5
    exact evG_okL' sRep_D_ok follows (LOK_cons (show subs (bodyOf Try.prog 104) 1 254 = [.block (blockOf (subs (bodyOf Try.prog 104) 1 254)) (.loop sRep_l254_code)] from by kernel_rfl) sRep_l254_sok (LOK_nil')) _ _ _ _ _ (sRep_p x1 r0 p0 p1 p2 p3 p4 p5) ho φ vs w may ha hM
  · cases h)
theorem sRep_en : Enters Try.prog 104 := fun args => by kernel_rfl
-- 1748 36 11 ms

def tabFb : Tab := (104, normC sRep_c) :: tabFa4
theorem tabFb_ok : TOK Try.prog tabFb := TOK.cons sRep_en sRep_ok (tabFa4_ok)

end Go.Proofs.Ytcdejlgophpdjaa
end

section
namespace Go.Proofs.Ytcdejlgophpdjaa
open Go Go.RowKit Go.Proofs.Ytcdejlgophpdjaa.V
set_option linter.unusedVariables false

/-! azulejo/frame.New -/
def fNew_s0 (x0 : Int) : Int := if x0 < (1 : Int) then (1 : Int) else x0
def fNew_s1 (x0 : Int) : Int := if (1 : Int) > x0 then (1 : Int) else x0
def fNew_s2 (x0 : Int) : Int := if (64 : Int) < fNew_s0 x0 then (64 : Int) else fNew_s0 x0
def fNew_s3 (x1 : Int) : Int := if x1 < (1 : Int) then (1 : Int) else x1
def fNew_s4 (x1 : Int) : Int := if (1 : Int) > x1 then (1 : Int) else x1
def fNew_s5 (x1 : Int) : Int := if (64 : Int) < fNew_s3 x1 then (64 : Int) else fNew_s3 x1
def fNew_s6 (x0 : Int) (x1 : Int) : Int := IntKind.wrap IntKind.i64 (fNew_s2 x0 * fNew_s5 x1)
def fNew_0 (x0 : Int) (x1 : Int) (x2_0 : Int) (x2_1 : Int) (x2_2 : Int) (x2_3 : Int) (x2_4 : Int) (x2_5 : Int) : List (List Int) := sRep_0 (fNew_s6 x0 x1) x2_0 x2_1 x2_2 x2_3 x2_4 x2_5
def fNew_s7 (x0 : Int) (x1 : Int) : Int := IntKind.wrap IntKind.i64 ((if (64 : Int) < fNew_s1 x0 then (64 : Int) else fNew_s1 x0) * if (64 : Int) < fNew_s4 x1 then (64 : Int) else fNew_s4 x1)
def fNew_o (x0 : Int) (x1 : Int) (x2_0 : Int) (x2_1 : Int) (x2_2 : Int) (x2_3 : Int) (x2_4 : Int) (x2_5 : Int) : List Prop := [decide (fNew_s6 x0 x1 < (0 : Int)) = false, (bif decide ((0 : Int) < bMul64_0 (IntKind.wrap IntKind.u64 (Int.ofNat (1 : Nat))) (IntKind.wrap IntKind.u64 (fNew_s6 x0 x1))) then true else decide ((9223372036854775807 : Int) < sRep_s1 (fNew_s6 x0 x1))) = false, (0 : Int) ≤ IntKind.wrap IntKind.i64 (sRep_s1 (fNew_s6 x0 x1)) ∧ IntKind.wrap IntKind.i64 (sRep_s1 (fNew_s6 x0 x1)) = IntKind.wrap IntKind.i64 (sRep_s1 (fNew_s6 x0 x1)) ∧ IntKind.wrap IntKind.i64 (sRep_s1 (fNew_s6 x0 x1)) * Int.ofNat (24 : Nat) ≤ (70368744177664 : Int), lok sRep_l254_st (18446744073709551616 : Nat) (sRep_l254_T.mk (Int.ofNat (sRep_s3 (fNew_s6 x0 x1) x2_0 x2_1 x2_2 x2_3 x2_4 x2_5)) (List.take (0 : Nat) (sRep_s2 (fNew_s6 x0 x1)) ++ List.take (List.length (sRep_s2 (fNew_s6 x0 x1))) (sRep_s0 x2_0 x2_1 x2_2 x2_3 x2_4 x2_5) ++ List.drop ((0 : Nat) + sRep_s3 (fNew_s6 x0 x1) x2_0 x2_1 x2_2 x2_3 x2_4 x2_5) (sRep_s2 (fNew_s6 x0 x1))))]
theorem fNew_p (x0 : Int) (x1 : Int) (x2_0 : Int) (x2_1 : Int) (x2_2 : Int) (x2_3 : Int) (x2_4 : Int) (x2_5 : Int) : evG Try.prog tabFb 2000 38 [0, 1, 2, 5, 6, 7] [] [] [.a (.int true .i64 x0), .a (.int true .i64 x1), .g [.int true .u8 x2_0, .int true .u8 x2_1, .int true .u8 x2_2, .int true .u8 x2_3, .int true .i64 x2_4, .int true .u8 x2_5]] [] = some (fNew_o x0 x1 x2_0 x2_1 x2_2 x2_3 x2_4 x2_5, LV.g [At.int true IntKind.i64 (fNew_s2 x0), At.int true IntKind.i64 (fNew_s5 x1), At.vec (nat_lit 0) (nat_lit 1) (nat_lit 6)], [some (BC.mk (Hd.mk (nat_lit 1) (nat_lit 0) false (some (Rw.mk (nat_lit 0) [Kd.int IntKind.u8, Kd.int IntKind.u8, Kd.int IntKind.u8, Kd.int IntKind.u8, Kd.int IntKind.i64, Kd.int IntKind.u8] (fNew_0 x0 x1 x2_0 x2_1 x2_2 x2_3 x2_4 x2_5) none))) [])]) := by kernel_rfl
def fNew_c : Con
  | [.a (.int true .i64 x0), .a (.int true .i64 x1), .g [.int true .u8 x2_0, .int true .u8 x2_1, .int true .u8 x2_2, .int true .u8 x2_3, .int true .i64 x2_4, .int true .u8 x2_5]], [] => some (fNew_o x0 x1 x2_0 x2_1 x2_2 x2_3 x2_4 x2_5, LV.g [At.int true IntKind.i64 (fNew_s2 x0), At.int true IntKind.i64 (fNew_s5 x1), At.vec (nat_lit 0) (nat_lit 1) (nat_lit 6)], [some (BC.mk (Hd.mk (nat_lit 1) (nat_lit 0) false (some (Rw.mk (nat_lit 0) [Kd.int IntKind.u8, Kd.int IntKind.u8, Kd.int IntKind.u8, Kd.int IntKind.u8, Kd.int IntKind.i64, Kd.int IntKind.u8] (fNew_0 x0 x1 x2_0 x2_1 x2_2 x2_3 x2_4 x2_5) none))) [])])
  | _, _ => none
theorem fNew_ok : ConOK Try.prog 38 (normC fNew_c) := normC_ok (by
  intro args bs obs lv out h ho φ vs w may ha hM
  unfold fNew_c at h
  split at h
  · simp only [Option.some.injEq, Prod.mk.injEq] at h
    obtain ⟨rfl, rfl, rfl⟩ := h
    rename_i x0 x1 x2_0 x2_1 x2_2 x2_3 x2_4 x2_5
    exact evG_ok tabFb_ok follows _ _ _ _ _ (fNew_p x0 x1 x2_0 x2_1 x2_2 x2_3 x2_4 x2_5) ho φ vs w may ha hM
  · cases h)
theorem fNew_en : Enters Try.prog 38 := fun args => by kernel_rfl
-- 258 22 10 ms

/-! (azulejo/frame.Frame).At -/
def fAt_s0 (w0 : Int) (x1 : Int) (x2 : Int) : Int := IntKind.wrap IntKind.i64 (IntKind.wrap IntKind.i64 (x2 * w0) + x1)
def fAt_s1 (w0 : Int) (h0 : Int) (x1 : Int) (x2 : Int) (l : List (List Int)) : Bool := bif decide (x1 < (0 : Int)) then true else bif decide (w0 ≤ x1) then true else bif decide (x2 < (0 : Int)) then true else bif decide (h0 ≤ x2) then true else decide (Int.ofNat (List.length l) ≤ fAt_s0 w0 x1 x2)
def fAt_0 (w0 : Int) (h0 : Int) (x1 : Int) (x2 : Int) (l : List (List Int)) : Int := bif fAt_s1 w0 h0 x1 x2 l then (0 : Int) else rget l (Int.toNat (fAt_s0 w0 x1 x2)) (0 : Nat)
def fAt_1 (w0 : Int) (h0 : Int) (x1 : Int) (x2 : Int) (l : List (List Int)) : Int := bif fAt_s1 w0 h0 x1 x2 l then (0 : Int) else rget l (Int.toNat (fAt_s0 w0 x1 x2)) (1 : Nat)
def fAt_2 (w0 : Int) (h0 : Int) (x1 : Int) (x2 : Int) (l : List (List Int)) : Int := bif fAt_s1 w0 h0 x1 x2 l then (0 : Int) else rget l (Int.toNat (fAt_s0 w0 x1 x2)) (2 : Nat)
def fAt_3 (w0 : Int) (h0 : Int) (x1 : Int) (x2 : Int) (l : List (List Int)) : Int := bif fAt_s1 w0 h0 x1 x2 l then (0 : Int) else rget l (Int.toNat (fAt_s0 w0 x1 x2)) (3 : Nat)
def fAt_4 (w0 : Int) (h0 : Int) (x1 : Int) (x2 : Int) (l : List (List Int)) : Int := bif fAt_s1 w0 h0 x1 x2 l then (0 : Int) else rget l (Int.toNat (fAt_s0 w0 x1 x2)) (4 : Nat)
def fAt_5 (w0 : Int) (h0 : Int) (x1 : Int) (x2 : Int) (l : List (List Int)) : Int := bif fAt_s1 w0 h0 x1 x2 l then (0 : Int) else rget l (Int.toNat (fAt_s0 w0 x1 x2)) (5 : Nat)
def fAt_o (w0 : Int) (h0 : Int) (x1 : Int) (x2 : Int) (r0 : Bool) (l : List (List Int)) : List Prop := [(!fAt_s1 w0 h0 x1 x2 l) = true → (0 : Int) ≤ fAt_s0 w0 x1 x2 ∧ fAt_s0 w0 x1 x2 < Int.ofNat (List.length l)]
theorem fAt_p (w0 : Int) (h0 : Int) (x1 : Int) (x2 : Int) (r0 : Bool) (l : List (List Int)) : evG Try.prog tabFb 2000 62 [0, 1, 2, 3, 6, 39] [] [] [.g [.int true .i64 w0, .int true .i64 h0, .vec 0 0 6], .a (.int true .i64 x1), .a (.int true .i64 x2)] [⟨⟨0, 0, r0, some ⟨0, [.int .u8, .int .u8, .int .u8, .int .u8, .int .i64, .int .u8], l, none⟩⟩, []⟩] = some (fAt_o w0 h0 x1 x2 r0 l, LV.g [At.int true IntKind.u8 (fAt_0 w0 h0 x1 x2 l), At.int true IntKind.u8 (fAt_1 w0 h0 x1 x2 l), At.int true IntKind.u8 (fAt_2 w0 h0 x1 x2 l), At.int true IntKind.u8 (fAt_3 w0 h0 x1 x2 l), At.int true IntKind.i64 (fAt_4 w0 h0 x1 x2 l), At.int true IntKind.u8 (fAt_5 w0 h0 x1 x2 l)], [none]) := by kernel_rfl
def fAt_c : Con
  | [.g [.int true .i64 w0, .int true .i64 h0, .vec 0 0 6], .a (.int true .i64 x1), .a (.int true .i64 x2)], [⟨⟨0, 0, r0, some ⟨0, [.int .u8, .int .u8, .int .u8, .int .u8, .int .i64, .int .u8], l, none⟩⟩, []⟩] => some (fAt_o w0 h0 x1 x2 r0 l, LV.g [At.int true IntKind.u8 (fAt_0 w0 h0 x1 x2 l), At.int true IntKind.u8 (fAt_1 w0 h0 x1 x2 l), At.int true IntKind.u8 (fAt_2 w0 h0 x1 x2 l), At.int true IntKind.u8 (fAt_3 w0 h0 x1 x2 l), At.int true IntKind.i64 (fAt_4 w0 h0 x1 x2 l), At.int true IntKind.u8 (fAt_5 w0 h0 x1 x2 l)], [none])
  | _, _ => none
theorem fAt_ok : ConOK Try.prog 62 (normC fAt_c) := normC_ok (by
  intro args bs obs lv out h ho φ vs w may ha hM
  unfold fAt_c at h
  split at h
  · simp only [Option.some.injEq, Prod.mk.injEq] at h
    obtain ⟨rfl, rfl, rfl⟩ := h
    rename_i w0 h0 x1 x2 r0 l
    exact evG_ok tabFb_ok follows _ _ _ _ _ (fAt_p w0 h0 x1 x2 r0 l) ho φ vs w may ha hM
  · cases h)
theorem fAt_en : Enters Try.prog 62 := fun args => by kernel_rfl
-- 396 274 12 ms

/-! (azulejo/frame.Frame).Set -/
def fSet_s0 (w0 : Int) (x1 : Int) (x2 : Int) : Int := IntKind.wrap IntKind.i64 (IntKind.wrap IntKind.i64 (x2 * w0) + x1)
def fSet_s1 (w0 : Int) (h0 : Int) (x1 : Int) (x2 : Int) (l : List (List Int)) : Bool := bif decide ((0 : Int) ≤ x1) then bif decide (x1 < w0) then bif decide ((0 : Int) ≤ x2) then bif decide (x2 < h0) then decide (fSet_s0 w0 x1 x2 < Int.ofNat (List.length l)) else false else false else false else false
def fSet_0 (w0 : Int) (h0 : Int) (x1 : Int) (x2 : Int) (p0 : Int) (p1 : Int) (p2 : Int) (p3 : Int) (p4 : Int) (p5 : Int) (l : List (List Int)) : List (List Int) := bif fSet_s1 w0 h0 x1 x2 l then List.set l (Int.toNat (fSet_s0 w0 x1 x2)) [p0, p1, p2, p3, p4, p5] else l
def fSet_o (w0 : Int) (h0 : Int) (x1 : Int) (x2 : Int) (p0 : Int) (p1 : Int) (p2 : Int) (p3 : Int) (p4 : Int) (p5 : Int) (l : List (List Int)) : List Prop := [fSet_s1 w0 h0 x1 x2 l = true → (0 : Int) ≤ fSet_s0 w0 x1 x2 ∧ fSet_s0 w0 x1 x2 < Int.ofNat (List.length l)]
theorem fSet_p (w0 : Int) (h0 : Int) (x1 : Int) (x2 : Int) (p0 : Int) (p1 : Int) (p2 : Int) (p3 : Int) (p4 : Int) (p5 : Int) (l : List (List Int)) : evG Try.prog tabFb 2000 68 [0, 1, 2, 3, 4, 7, 40] [] [0] [.g [.int true .i64 w0, .int true .i64 h0, .vec 0 0 6], .a (.int true .i64 x1), .a (.int true .i64 x2), .g [.int true .u8 p0, .int true .u8 p1, .int true .u8 p2, .int true .u8 p3, .int true .i64 p4, .int true .u8 p5]] [⟨⟨0, 0, false, some ⟨0, [.int .u8, .int .u8, .int .u8, .int .u8, .int .i64, .int .u8], l, none⟩⟩, []⟩] = some (fSet_o w0 h0 x1 x2 p0 p1 p2 p3 p4 p5 l, LV.t [], [some (BC.mk (Hd.mk (nat_lit 0) (nat_lit 0) false (some (Rw.mk (nat_lit 0) [Kd.int IntKind.u8, Kd.int IntKind.u8, Kd.int IntKind.u8, Kd.int IntKind.u8, Kd.int IntKind.i64, Kd.int IntKind.u8] (fSet_0 w0 h0 x1 x2 p0 p1 p2 p3 p4 p5 l) none))) [])]) := by kernel_rfl
def fSet_c : Con
  | [.g [.int true .i64 w0, .int true .i64 h0, .vec 0 0 6], .a (.int true .i64 x1), .a (.int true .i64 x2), .g [.int true .u8 p0, .int true .u8 p1, .int true .u8 p2, .int true .u8 p3, .int true .i64 p4, .int true .u8 p5]], [⟨⟨0, 0, false, some ⟨0, [.int .u8, .int .u8, .int .u8, .int .u8, .int .i64, .int .u8], l, none⟩⟩, []⟩] => some (fSet_o w0 h0 x1 x2 p0 p1 p2 p3 p4 p5 l, LV.t [], [some (BC.mk (Hd.mk (nat_lit 0) (nat_lit 0) false (some (Rw.mk (nat_lit 0) [Kd.int IntKind.u8, Kd.int IntKind.u8, Kd.int IntKind.u8, Kd.int IntKind.u8, Kd.int IntKind.i64, Kd.int IntKind.u8] (fSet_0 w0 h0 x1 x2 p0 p1 p2 p3 p4 p5 l) none))) [])])
  | _, _ => none
theorem fSet_ok : ConOK Try.prog 68 (normC fSet_c) := normC_ok (by
  intro args bs obs lv out h ho φ vs w may ha hM
  unfold fSet_c at h
  split at h
  · simp only [Option.some.injEq, Prod.mk.injEq] at h
    obtain ⟨rfl, rfl, rfl⟩ := h
    rename_i w0 h0 x1 x2 p0 p1 p2 p3 p4 p5 l
    exact evG_ok tabFb_ok follows _ _ _ _ _ (fSet_p w0 h0 x1 x2 p0 p1 p2 p3 p4 p5 l) ho φ vs w may ha hM
  · cases h)
theorem fSet_en : Enters Try.prog 68 := fun args => by kernel_rfl
-- 378 2 7 ms

def sClone_D : Tab := (2, decC [(13, false)]) :: tabFb
theorem sClone_D_ok : TOK Try.prog sClone_D := TOK.cons (fun args => by kernel_rfl) (fun _ _ _ _ _ h ho => (decC_ok h ho).elim) tabFb_ok
/-! slices.Clone[[]azulejo/pixel.Pixel,azulejo/pixel.Pixel] -/
def sClone_s0 (l : List (List Int)) : List (List Int) := [] ++ l
def sClone_o (r0 : Bool) (l : List (List Int)) : List Prop := [List.length l ≠ (0 : Nat), List.length (sClone_s0 l) * (24 : Nat) ≤ (70368744177664 : Nat)]
theorem sClone_p (r0 : Bool) (l : List (List Int)) : evG Try.prog sClone_D 2000 105 [0, 2, 4] [] [] [.a (.vec 0 0 6)] [⟨⟨0, 0, r0, some ⟨0, [.int .u8, .int .u8, .int .u8, .int .u8, .int .i64, .int .u8], l, none⟩⟩, []⟩] = some (sClone_o r0 l, LV.a (At.vec (nat_lit 1) (nat_lit 1) (nat_lit 6)), [none, some (BC.mk (Hd.mk (nat_lit 1) (nat_lit 0) false (some (Rw.mk (nat_lit 0) [Kd.int IntKind.u8, Kd.int IntKind.u8, Kd.int IntKind.u8, Kd.int IntKind.u8, Kd.int IntKind.i64, Kd.int IntKind.u8] (sClone_s0 l) none))) [])]) := by kernel_rfl
def sClone_c : Con
  | [.a (.vec 0 0 6)], [⟨⟨0, 0, r0, some ⟨0, [.int .u8, .int .u8, .int .u8, .int .u8, .int .i64, .int .u8], l, none⟩⟩, []⟩] => some (sClone_o r0 l, LV.a (At.vec (nat_lit 1) (nat_lit 1) (nat_lit 6)), [none, some (BC.mk (Hd.mk (nat_lit 1) (nat_lit 0) false (some (Rw.mk (nat_lit 0) [Kd.int IntKind.u8, Kd.int IntKind.u8, Kd.int IntKind.u8, Kd.int IntKind.u8, Kd.int IntKind.i64, Kd.int IntKind.u8] (sClone_s0 l) none))) [])])
  | _, _ => none
theorem sClone_ok : ConOK Try.prog 105 (normC sClone_c) := normC_ok (by
  intro args bs obs lv out h ho φ vs w may ha hM
  unfold sClone_c at h
  split at h
  · simp only [Option.some.injEq, Prod.mk.injEq] at h
    obtain ⟨rfl, rfl, rfl⟩ := h
    rename_i r0 l
    exact evG_ok sClone_D_ok follows _ _ _ _ _ (sClone_p r0 l) ho φ vs w may ha hM
  · cases h)
theorem sClone_en : Enters Try.prog 105 := fun args => by kernel_rfl
-- 92 11 2 ms

/-! slices.Equal[[]azulejo/pixel.Pixel,azulejo/pixel.Pixel] -/
noncomputable def sEqual_l29_code : Go.Code := loopOf (subs (bodyOf Try.prog 119) 1 29)
structure sEqual_l29_T where
  a0 : Bool
  a1 : Int
  a2 : Int
  a3 : List (List Int)
  a4 : List (List Int)
  deriving Inhabited
def sEqual_l29_hd (v : sEqual_l29_T) : HS := HS.mk [(nat_lit 0, LV.a (At.vec (nat_lit 0) (nat_lit 0) (nat_lit 6))), (nat_lit 1, LV.a (At.vec (nat_lit 1) (nat_lit 0) (nat_lit 6))), (nat_lit 4, LV.a (At.bool true (sEqual_l29_T.a0 v))), (nat_lit 12, LV.a (At.int true IntKind.i64 (sEqual_l29_T.a1 v))), (nat_lit 13, LV.a (At.int true IntKind.i64 (sEqual_l29_T.a2 v)))] [BC.mk (Hd.mk (nat_lit 0) (nat_lit 0) true (some (Rw.mk (nat_lit 0) [Kd.int IntKind.u8, Kd.int IntKind.u8, Kd.int IntKind.u8, Kd.int IntKind.u8, Kd.int IntKind.i64, Kd.int IntKind.u8] (sEqual_l29_T.a3 v) none))) [], BC.mk (Hd.mk (nat_lit 0) (nat_lit 0) true (some (Rw.mk (nat_lit 0) [Kd.int IntKind.u8, Kd.int IntKind.u8, Kd.int IntKind.u8, Kd.int IntKind.u8, Kd.int IntKind.i64, Kd.int IntKind.u8] (sEqual_l29_T.a4 v) none))) []]
def sEqual_l29_s0 (v : sEqual_l29_T) : Bool := decide (sEqual_l29_T.a2 v < sEqual_l29_T.a1 v)
def sEqual_l29_s1 (v : sEqual_l29_T) : Bool := !(rget (sEqual_l29_T.a3 v) (Int.toNat (sEqual_l29_T.a2 v)) (0 : Nat) == rget (sEqual_l29_T.a4 v) (Int.toNat (sEqual_l29_T.a2 v)) (0 : Nat) && (rget (sEqual_l29_T.a3 v) (Int.toNat (sEqual_l29_T.a2 v)) (1 : Nat) == rget (sEqual_l29_T.a4 v) (Int.toNat (sEqual_l29_T.a2 v)) (1 : Nat) && (rget (sEqual_l29_T.a3 v) (Int.toNat (sEqual_l29_T.a2 v)) (2 : Nat) == rget (sEqual_l29_T.a4 v) (Int.toNat (sEqual_l29_T.a2 v)) (2 : Nat) && rget (sEqual_l29_T.a3 v) (Int.toNat (sEqual_l29_T.a2 v)) (3 : Nat) == rget (sEqual_l29_T.a4 v) (Int.toNat (sEqual_l29_T.a2 v)) (3 : Nat))) && (rget (sEqual_l29_T.a3 v) (Int.toNat (sEqual_l29_T.a2 v)) (4 : Nat) == rget (sEqual_l29_T.a4 v) (Int.toNat (sEqual_l29_T.a2 v)) (4 : Nat) && rget (sEqual_l29_T.a3 v) (Int.toNat (sEqual_l29_T.a2 v)) (5 : Nat) == rget (sEqual_l29_T.a4 v) (Int.toNat (sEqual_l29_T.a2 v)) (5 : Nat)))
def sEqual_l29_st (v : sEqual_l29_T) : List Prop × List (X × Bool × sEqual_l29_T) := ([sEqual_l29_s0 v = true → (0 : Int) ≤ sEqual_l29_T.a2 v ∧ sEqual_l29_T.a2 v < Int.ofNat (List.length (sEqual_l29_T.a3 v)), sEqual_l29_s0 v = true → (0 : Int) ≤ sEqual_l29_T.a2 v ∧ sEqual_l29_T.a2 v < Int.ofNat (List.length (sEqual_l29_T.a4 v))], [(X.e (0 : Nat), !sEqual_l29_s0 v, sEqual_l29_T.mk (sEqual_l29_T.a0 v) (sEqual_l29_T.a1 v) (sEqual_l29_T.a2 v) (sEqual_l29_T.a3 v) (sEqual_l29_T.a4 v)), (X.r, sEqual_l29_s0 v && sEqual_l29_s1 v, sEqual_l29_T.mk (false) (sEqual_l29_T.a1 v) (sEqual_l29_T.a2 v) (sEqual_l29_T.a3 v) (sEqual_l29_T.a4 v)), (X.n, sEqual_l29_s0 v && !sEqual_l29_s1 v, sEqual_l29_T.mk (sEqual_l29_T.a0 v) (sEqual_l29_T.a1 v) (IntKind.wrap IntKind.i64 (sEqual_l29_T.a2 v + (1 : Int))) (sEqual_l29_T.a3 v) (sEqual_l29_T.a4 v))])
def sEqual_l29_rd : HS → Option sEqual_l29_T
  | HS.mk [(0, LV.a (At.vec 0 0 6)), (1, LV.a (At.vec 1 0 6)), (4, LV.a (At.bool true a0)), (12, LV.a (At.int true IntKind.i64 a1)), (13, LV.a (At.int true IntKind.i64 a2))] [BC.mk (Hd.mk 0 0 true (some (Rw.mk 0 [Kd.int IntKind.u8, Kd.int IntKind.u8, Kd.int IntKind.u8, Kd.int IntKind.u8, Kd.int IntKind.i64, Kd.int IntKind.u8] a3 none))) [], BC.mk (Hd.mk 0 0 true (some (Rw.mk 0 [Kd.int IntKind.u8, Kd.int IntKind.u8, Kd.int IntKind.u8, Kd.int IntKind.u8, Kd.int IntKind.i64, Kd.int IntKind.u8] a4 none))) []] => some (sEqual_l29_T.mk a0 a1 a2 a3 a4)
  | _ => none
def sEqual_l29_sum : V.Sum := loopS sEqual_l29_hd sEqual_l29_rd sEqual_l29_st 18446744073709551616 [X.e (0 : Nat), X.r] [0, 1, 4, 5, 10, 12, 13, 14, 24] [0, 1, 4, 12, 13] [] [] [] 0
theorem sEqual_l29_E : ∀ v, bodyF Try.prog tabFb (ntOf Try.prog 119) [0, 1, 4, 5, 10, 12, 13, 14, 24] [0, 1, 4, 12, 13] [] 2000 [] [] sEqual_l29_code 116 (sEqual_l29_hd v) = some ((sEqual_l29_st v).1, (sEqual_l29_st v).2.map fun q => (q.1, q.2.1, sEqual_l29_hd q.2.2)) := fun v => by kernel_rfl
set_option maxHeartbeats 2000000 in
theorem sEqual_l29_R : ∀ h v, sEqual_l29_rd h = some v → h = sEqual_l29_hd v := by
  intro h v e
  unfold sEqual_l29_rd at e
  split at e
  · simp only [Option.some.injEq] at e; subst e; rfl
  · cases e
set_option maxRecDepth 100000 in
theorem sEqual_l29_sok : SumOK Try.prog (ntOf Try.prog 119) [0, 1, 4, 5, 10, 12, 13, 14, 24] (.block (blockOf (subs (bodyOf Try.prog 119) 1 29)) (.loop sEqual_l29_code)) sEqual_l29_sum := loopS_ok tabFb_ok follows sEqual_l29_E sEqual_l29_R (fun v => by kernel_rfl) (LOK_of _ _ (LOK_nil'))
def sEqual_s0 (l : List (List Int)) (m : List (List Int)) : Bool := Int.ofNat (List.length l) != Int.ofNat (List.length m)
def sEqual_s1 (l : List (List Int)) (m : List (List Int)) : Option (X × sEqual_l29_T) := lrun sEqual_l29_st (18446744073709551616 : Nat) (sEqual_l29_T.mk false (Int.ofNat (List.length l)) (0 : Int) l m)
def sEqual_0 (l : List (List Int)) (m : List (List Int)) : Bool := bif sEqual_s0 l m then false else bif isX X.r (sEqual_s1 l m) then sEqual_l29_T.a0 (V.valOf (sEqual_s1 l m)) else true
def sEqual_o (r0 : Bool) (l : List (List Int)) (r1 : Bool) (m : List (List Int)) : List Prop := [(!sEqual_s0 l m) = true → lok sEqual_l29_st (18446744073709551616 : Nat) (sEqual_l29_T.mk false (Int.ofNat (List.length l)) (0 : Int) l m)]
theorem sEqual_p (r0 : Bool) (l : List (List Int)) (r1 : Bool) (m : List (List Int)) : evG Try.prog tabFb 2000 119 [0, 1, 4, 5, 10, 12, 13, 14, 24] [(29, sEqual_l29_sum)] [] [.a (.vec 0 0 6), .a (.vec 1 0 6)] [⟨⟨0, 0, r0, some ⟨0, [.int .u8, .int .u8, .int .u8, .int .u8, .int .i64, .int .u8], l, none⟩⟩, []⟩, ⟨⟨0, 0, r1, some ⟨0, [.int .u8, .int .u8, .int .u8, .int .u8, .int .i64, .int .u8], m, none⟩⟩, []⟩] = some (sEqual_o r0 l r1 m, LV.a (At.bool true (sEqual_0 l m)), [none, none]) := by kernel_rfl
def sEqual_c : Con
  | [.a (.vec 0 0 6), .a (.vec 1 0 6)], [⟨⟨0, 0, r0, some ⟨0, [.int .u8, .int .u8, .int .u8, .int .u8, .int .i64, .int .u8], l, none⟩⟩, []⟩, ⟨⟨0, 0, r1, some ⟨0, [.int .u8, .int .u8, .int .u8, .int .u8, .int .i64, .int .u8], m, none⟩⟩, []⟩] => some (sEqual_o r0 l r1 m, LV.a (At.bool true (sEqual_0 l m)), [none, none])
  | _, _ => none
theorem sEqual_ok : ConOK Try.prog 119 (normC sEqual_c) := normC_ok (by
  intro args bs obs lv out h ho φ vs w may ha hM
  unfold sEqual_c at h
  split at h
  · simp only [Option.some.injEq, Prod.mk.injEq] at h
    obtain ⟨rfl, rfl, rfl⟩ := h
    rename_i r0 l r1 m
    exact evG_okL' tabFb_ok follows (LOK_cons (show subs (bodyOf Try.prog 119) 1 29 = [.block (blockOf (subs (bodyOf Try.prog 119) 1 29)) (.loop sEqual_l29_code)] from by kernel_rfl) sEqual_l29_sok (LOK_nil')) _ _ _ _ _ (sEqual_p r0 l r1 m) ho φ vs w may ha hM
  · cases h)
theorem sEqual_en : Enters Try.prog 119 := fun args => by kernel_rfl
-- 1151 22 8 ms

/-! (azulejo/frame.Frame).Check -/
noncomputable def fChk_l29_code : Go.Code := loopOf (subs (bodyOf Try.prog 40) 1 29)
structure fChk_l29_T where
  a0 : Int
  a1 : Int
  a2 : Int
  a3 : List (List Int)
  deriving Inhabited
def fChk_l29_hd (v : fChk_l29_T) : HS := HS.mk [(nat_lit 2, LV.a (At.int true IntKind.i64 (fChk_l29_T.a0 v))), (nat_lit 41, LV.a (At.vec (nat_lit 0) (nat_lit 0) (nat_lit 6))), (nat_lit 42, LV.a (At.int true IntKind.i64 (fChk_l29_T.a1 v))), (nat_lit 43, LV.a (At.int true IntKind.i64 (fChk_l29_T.a2 v)))] [BC.mk (Hd.mk (nat_lit 0) (nat_lit 0) true (some (Rw.mk (nat_lit 0) [Kd.int IntKind.u8, Kd.int IntKind.u8, Kd.int IntKind.u8, Kd.int IntKind.u8, Kd.int IntKind.i64, Kd.int IntKind.u8] (fChk_l29_T.a3 v) none))) []]
def fChk_l29_s0 (v : fChk_l29_T) : Bool := decide (fChk_l29_T.a2 v < fChk_l29_T.a1 v)
def fChk_l29_s1 (v : fChk_l29_T) : Int := rget (Rw.l (Rw.mk (nat_lit 0) [Kd.int IntKind.u8, Kd.int IntKind.u8, Kd.int IntKind.u8, Kd.int IntKind.u8, Kd.int IntKind.i64, Kd.int IntKind.u8] (fChk_l29_T.a3 v) none)) (Int.toNat (fChk_l29_T.a2 v)) ((0 : Nat) + (1 : Nat) + (1 : Nat) + (1 : Nat) + (1 : Nat))
def fChk_l29_s2 (v : fChk_l29_T) : Bool := bif decide (rget (fChk_l29_T.a3 v) (Int.toNat (fChk_l29_T.a2 v)) (4 : Nat) < (0 : Int)) then true else decide ((65535 : Int) < rget (fChk_l29_T.a3 v) (Int.toNat (fChk_l29_T.a2 v)) (4 : Nat))
def fChk_l29_st (v : fChk_l29_T) : List Prop × List (X × Bool × fChk_l29_T) := ([fChk_l29_s0 v = true → (0 : Int) ≤ fChk_l29_T.a2 v ∧ fChk_l29_T.a2 v < Int.ofNat (List.length (fChk_l29_T.a3 v))], [(X.e (0 : Nat), !fChk_l29_s0 v, fChk_l29_T.mk (fChk_l29_T.a0 v) (fChk_l29_T.a1 v) (fChk_l29_T.a2 v) (fChk_l29_T.a3 v)), (X.r, fChk_l29_s0 v && fChk_l29_s2 v, fChk_l29_T.mk ((2 : Int)) (fChk_l29_T.a1 v) (fChk_l29_T.a2 v) (fChk_l29_T.a3 v)), (X.n, fChk_l29_s0 v && !fChk_l29_s2 v, fChk_l29_T.mk (fChk_l29_T.a0 v) (fChk_l29_T.a1 v) (IntKind.wrap IntKind.i64 (fChk_l29_T.a2 v + (1 : Int))) (fChk_l29_T.a3 v))])
def fChk_l29_rd : HS → Option fChk_l29_T
  | HS.mk [(2, LV.a (At.int true IntKind.i64 a0)), (41, LV.a (At.vec 0 0 6)), (42, LV.a (At.int true IntKind.i64 a1)), (43, LV.a (At.int true IntKind.i64 a2))] [BC.mk (Hd.mk 0 0 true (some (Rw.mk 0 [Kd.int IntKind.u8, Kd.int IntKind.u8, Kd.int IntKind.u8, Kd.int IntKind.u8, Kd.int IntKind.i64, Kd.int IntKind.u8] a3 none))) []] => some (fChk_l29_T.mk a0 a1 a2 a3)
  | _ => none
def fChk_l29_sum : V.Sum := loopS fChk_l29_hd fChk_l29_rd fChk_l29_st 18446744073709551616 [X.e (0 : Nat), X.r] [0, 1, 2, 4, 39, 41, 42, 43, 44, 54] [2, 41, 42, 43] [] [] [] 0
theorem fChk_l29_E : ∀ v, bodyF Try.prog tabFb (ntOf Try.prog 40) [0, 1, 2, 4, 39, 41, 42, 43, 44, 54] [2, 41, 42, 43] [] 2000 [] [] fChk_l29_code 116 (fChk_l29_hd v) = some ((fChk_l29_st v).1, (fChk_l29_st v).2.map fun q => (q.1, q.2.1, fChk_l29_hd q.2.2)) := fun v => by kernel_rfl
set_option maxHeartbeats 2000000 in
theorem fChk_l29_R : ∀ h v, fChk_l29_rd h = some v → h = fChk_l29_hd v := by
  intro h v e
  unfold fChk_l29_rd at e
  split at e
  · simp only [Option.some.injEq] at e; subst e; rfl
  · cases e
set_option maxRecDepth 100000 in
theorem fChk_l29_sok : SumOK Try.prog (ntOf Try.prog 40) [0, 1, 2, 4, 39, 41, 42, 43, 44, 54] (.block (blockOf (subs (bodyOf Try.prog 40) 1 29)) (.loop fChk_l29_code)) fChk_l29_sum := loopS_ok tabFb_ok follows fChk_l29_E fChk_l29_R (fun v => by kernel_rfl) (LOK_of _ _ (LOK_nil'))
def fChk_s0 (w0 : Int) (h0 : Int) (l : List (List Int)) : Bool := bif decide (w0 < (1 : Int)) then true else bif decide ((64 : Int) < w0) then true else bif decide (h0 < (1 : Int)) then true else bif decide ((64 : Int) < h0) then true else Int.ofNat (List.length l) != IntKind.wrap IntKind.i64 (w0 * h0)
def fChk_s1 (l : List (List Int)) : Option (X × fChk_l29_T) := lrun fChk_l29_st (18446744073709551616 : Nat) (fChk_l29_T.mk (0 : Int) (Int.ofNat (List.length l)) (0 : Int) l)
def fChk_0 (w0 : Int) (h0 : Int) (l : List (List Int)) : Int := bif fChk_s0 w0 h0 l then (6 : Int) else bif isX X.r (fChk_s1 l) then fChk_l29_T.a0 (V.valOf (fChk_s1 l)) else (0 : Int)
def fChk_o (w0 : Int) (h0 : Int) (r0 : Bool) (l : List (List Int)) : List Prop := [(!fChk_s0 w0 h0 l) = true → lok fChk_l29_st (18446744073709551616 : Nat) (fChk_l29_T.mk (0 : Int) (Int.ofNat (List.length l)) (0 : Int) l)]
theorem fChk_p (w0 : Int) (h0 : Int) (r0 : Bool) (l : List (List Int)) : evG Try.prog tabFb 2000 40 [0, 1, 2, 4, 39, 41, 42, 43, 44, 54] [(29, fChk_l29_sum)] [] [.g [.int true .i64 w0, .int true .i64 h0, .vec 0 0 6]] [⟨⟨0, 0, r0, some ⟨0, [.int .u8, .int .u8, .int .u8, .int .u8, .int .i64, .int .u8], l, none⟩⟩, []⟩] = some (fChk_o w0 h0 r0 l, LV.a (At.int true IntKind.i64 (fChk_0 w0 h0 l)), [none]) := by kernel_rfl
def fChk_c : Con
  | [.g [.int true .i64 w0, .int true .i64 h0, .vec 0 0 6]], [⟨⟨0, 0, r0, some ⟨0, [.int .u8, .int .u8, .int .u8, .int .u8, .int .i64, .int .u8], l, none⟩⟩, []⟩] => some (fChk_o w0 h0 r0 l, LV.a (At.int true IntKind.i64 (fChk_0 w0 h0 l)), [none])
  | _, _ => none
theorem fChk_ok : ConOK Try.prog 40 (normC fChk_c) := normC_ok (by
  intro args bs obs lv out h ho φ vs w may ha hM
  unfold fChk_c at h
  split at h
  · simp only [Option.some.injEq, Prod.mk.injEq] at h
    obtain ⟨rfl, rfl, rfl⟩ := h
    rename_i w0 h0 r0 l
    exact evG_okL' tabFb_ok follows (LOK_cons (show subs (bodyOf Try.prog 40) 1 29 = [.block (blockOf (subs (bodyOf Try.prog 40) 1 29)) (.loop fChk_l29_code)] from by kernel_rfl) fChk_l29_sok (LOK_nil')) _ _ _ _ _ (fChk_p w0 h0 r0 l) ho φ vs w may ha hM
  · cases h)
theorem fChk_en : Enters Try.prog 40 := fun args => by kernel_rfl
-- 2352 77 8 ms

def tabFd1 : Tab := (38, normC fNew_c) :: (62, normC fAt_c) :: (68, normC fSet_c) :: (105, normC sClone_c) :: (119, normC sEqual_c) :: (40, normC fChk_c) :: tabFb
theorem tabFd1_ok : TOK Try.prog tabFd1 := TOK.cons fNew_en fNew_ok (TOK.cons fAt_en fAt_ok (TOK.cons fSet_en fSet_ok (TOK.cons sClone_en sClone_ok (TOK.cons sEqual_en sEqual_ok (TOK.cons fChk_en fChk_ok (tabFb_ok))))))

end Go.Proofs.Ytcdejlgophpdjaa
end

section
namespace Go.Proofs.Ytcdejlgophpdjaa
open Go Go.RowKit Go.Proofs.Ytcdejlgophpdjaa.V
set_option linter.unusedVariables false

/-! (azulejo/frame.Frame).Clone -/
def fClone_o (w0 : Int) (h0 : Int) (r0 : Bool) (l : List (List Int)) : List Prop := [List.length l ≠ (0 : Nat), List.length (sClone_s0 l) * (24 : Nat) ≤ (70368744177664 : Nat)]
theorem fClone_p (w0 : Int) (h0 : Int) (r0 : Bool) (l : List (List Int)) : evG Try.prog tabFd1 2000 41 [0, 1, 2] [] [] [.g [.int true .i64 w0, .int true .i64 h0, .vec 0 0 6]] [⟨⟨0, 0, r0, some ⟨0, [.int .u8, .int .u8, .int .u8, .int .u8, .int .i64, .int .u8], l, none⟩⟩, []⟩] = some (fClone_o w0 h0 r0 l, LV.g [At.int true IntKind.i64 w0, At.int true IntKind.i64 h0, At.vec (nat_lit 1) (nat_lit 1) (nat_lit 6)], [none, some (BC.mk (Hd.mk (nat_lit 1) (nat_lit 0) false (some (Rw.mk (nat_lit 0) [Kd.int IntKind.u8, Kd.int IntKind.u8, Kd.int IntKind.u8, Kd.int IntKind.u8, Kd.int IntKind.i64, Kd.int IntKind.u8] (sClone_s0 l) none))) [])]) := by kernel_rfl
def fClone_c : Con
  | [.g [.int true .i64 w0, .int true .i64 h0, .vec 0 0 6]], [⟨⟨0, 0, r0, some ⟨0, [.int .u8, .int .u8, .int .u8, .int .u8, .int .i64, .int .u8], l, none⟩⟩, []⟩] => some (fClone_o w0 h0 r0 l, LV.g [At.int true IntKind.i64 w0, At.int true IntKind.i64 h0, At.vec (nat_lit 1) (nat_lit 1) (nat_lit 6)], [none, some (BC.mk (Hd.mk (nat_lit 1) (nat_lit 0) false (some (Rw.mk (nat_lit 0) [Kd.int IntKind.u8, Kd.int IntKind.u8, Kd.int IntKind.u8, Kd.int IntKind.u8, Kd.int IntKind.i64, Kd.int IntKind.u8] (sClone_s0 l) none))) [])])
  | _, _ => none
theorem fClone_ok : ConOK Try.prog 41 (normC fClone_c) := normC_ok (by
  intro args bs obs lv out h ho φ vs w may ha hM
  unfold fClone_c at h
  split at h
  · simp only [Option.some.injEq, Prod.mk.injEq] at h
    obtain ⟨rfl, rfl, rfl⟩ := h
    rename_i w0 h0 r0 l
    exact evG_ok tabFd1_ok follows _ _ _ _ _ (fClone_p w0 h0 r0 l) ho φ vs w may ha hM
  · cases h)
theorem fClone_en : Enters Try.prog 41 := fun args => by kernel_rfl
-- 173 6 0 ms

/-! (azulejo/frame.Frame).Text -/
noncomputable def fText_l31333_code : Go.Code := loopOf (subs (bodyOf Try.prog 42) 1 31333)
structure fText_l31333_T where
  a0 : ByteArray
  a1 : Int
  a2 : Int
  a3 : Int
  a4 : Bool
  a5 : Int
  a6 : Int
  a7 : Int
  a8 : Int
  a9 : List (List Int)
  a10 : List (List Int)
  deriving Inhabited
def fText_l31333_hd (v : fText_l31333_T) : HS := HS.mk [(nat_lit 1, LV.a (At.ptr (nat_lit 0) (nat_lit 0))), (nat_lit 2, LV.a (At.str true (fText_l31333_T.a0 v))), (nat_lit 3, LV.a (At.vec (nat_lit 2) (nat_lit 0) (nat_lit 1))), (nat_lit 4, LV.a (At.int true IntKind.i64 (fText_l31333_T.a1 v))), (nat_lit 12, LV.a (At.int true IntKind.i64 (fText_l31333_T.a2 v))), (nat_lit 13, LV.a (At.int true IntKind.i64 (fText_l31333_T.a3 v))), (nat_lit 14, LV.a (At.bool true (fText_l31333_T.a4 v))), (nat_lit 18, LV.a (At.int true IntKind.i64 (fText_l31333_T.a5 v))), (nat_lit 19, LV.a (At.int true IntKind.i64 (fText_l31333_T.a6 v)))] [BC.mk (Hd.mk (nat_lit 0) (nat_lit 3) true none) [some (At.int true IntKind.i64 (fText_l31333_T.a7 v)), some (At.int true IntKind.i64 (fText_l31333_T.a8 v)), some (At.vec (nat_lit 1) (nat_lit 0) (nat_lit 6))], BC.mk (Hd.mk (nat_lit 0) (nat_lit 0) true (some (Rw.mk (nat_lit 0) [Kd.int IntKind.u8, Kd.int IntKind.u8, Kd.int IntKind.u8, Kd.int IntKind.u8, Kd.int IntKind.i64, Kd.int IntKind.u8] (fText_l31333_T.a9 v) none))) [], BC.mk (Hd.mk (nat_lit 0) (nat_lit 0) false (some (Rw.mk (nat_lit 0) [Kd.int IntKind.u8] (fText_l31333_T.a10 v) none))) []]
def fText_l31333_s0 (v : fText_l31333_T) : Bool := decide (fText_l31333_T.a6 v < fText_l31333_T.a5 v)
def fText_l31333_s1 (v : fText_l31333_T) : Int := IntKind.wrap IntKind.i64 (Int.tdiv (IntKind.wrap IntKind.i64 (IntKind.wrap IntKind.i64 (IntKind.wrap IntKind.i64 (IntKind.wrap IntKind.i64 (fAt_0 (fText_l31333_T.a7 v) (fText_l31333_T.a8 v) (fText_l31333_T.a6 v) (fText_l31333_T.a1 v) (fText_l31333_T.a9 v)) + IntKind.wrap IntKind.i64 (fAt_1 (fText_l31333_T.a7 v) (fText_l31333_T.a8 v) (fText_l31333_T.a6 v) (fText_l31333_T.a1 v) (fText_l31333_T.a9 v))) + IntKind.wrap IntKind.i64 (fAt_2 (fText_l31333_T.a7 v) (fText_l31333_T.a8 v) (fText_l31333_T.a6 v) (fText_l31333_T.a1 v) (fText_l31333_T.a9 v))) * (10 : Int))) (766 : Int))
def fText_l31333_s2 : ByteArray := ByteArray.mk (Array.mk [(32 : UInt8), (46 : UInt8), (58 : UInt8), (45 : UInt8), (61 : UInt8), (43 : UInt8), (42 : UInt8), (35 : UInt8), (37 : UInt8), (64 : UInt8)])
def fText_l31333_s3 (v : fText_l31333_T) : List (List Int) := fText_l31333_T.a10 v ++ [[byteAt fText_l31333_s2 (Int.toNat (fText_l31333_s1 v))]]
def fText_l31333_st (v : fText_l31333_T) : List Prop × List (X × Bool × fText_l31333_T) := ([fText_l31333_s0 v = true → (!fAt_s1 (fText_l31333_T.a7 v) (fText_l31333_T.a8 v) (fText_l31333_T.a6 v) (fText_l31333_T.a1 v) (fText_l31333_T.a9 v)) = true → (0 : Int) ≤ fAt_s0 (fText_l31333_T.a7 v) (fText_l31333_T.a6 v) (fText_l31333_T.a1 v) ∧ fAt_s0 (fText_l31333_T.a7 v) (fText_l31333_T.a6 v) (fText_l31333_T.a1 v) < Int.ofNat (List.length (fText_l31333_T.a9 v)), fText_l31333_s0 v = true → (0 : Int) ≤ fText_l31333_s1 v ∧ fText_l31333_s1 v < Int.ofNat (ByteArray.size fText_l31333_s2), fText_l31333_s0 v = true → List.length (fText_l31333_s3 v) * (1 : Nat) ≤ (70368744177664 : Nat)], [(X.e (2 : Nat), !fText_l31333_s0 v, fText_l31333_T.mk (fText_l31333_T.a0 v) (fText_l31333_T.a1 v) (fText_l31333_T.a2 v) (fText_l31333_T.a3 v) (fText_l31333_T.a4 v) (fText_l31333_T.a5 v) (fText_l31333_T.a6 v) (fText_l31333_T.a7 v) (fText_l31333_T.a8 v) (fText_l31333_T.a9 v) (fText_l31333_T.a10 v)), (X.n, fText_l31333_s0 v, fText_l31333_T.mk (fText_l31333_T.a0 v) (fText_l31333_T.a1 v) (fText_l31333_T.a2 v) (fText_l31333_T.a3 v) (fText_l31333_T.a4 v) (fText_l31333_T.a5 v) (IntKind.wrap IntKind.i64 (fText_l31333_T.a6 v + (1 : Int))) (fText_l31333_T.a7 v) (fText_l31333_T.a8 v) (fText_l31333_T.a9 v) (fText_l31333_s3 v))])
def fText_l31333_rd : HS → Option fText_l31333_T
  | HS.mk [(1, LV.a (At.ptr 0 0)), (2, LV.a (At.str true a0)), (3, LV.a (At.vec 2 0 1)), (4, LV.a (At.int true IntKind.i64 a1)), (12, LV.a (At.int true IntKind.i64 a2)), (13, LV.a (At.int true IntKind.i64 a3)), (14, LV.a (At.bool true a4)), (18, LV.a (At.int true IntKind.i64 a5)), (19, LV.a (At.int true IntKind.i64 a6))] [BC.mk (Hd.mk 0 3 true none) [some (At.int true IntKind.i64 a7), some (At.int true IntKind.i64 a8), some (At.vec 1 0 6)], BC.mk (Hd.mk 0 0 true (some (Rw.mk 0 [Kd.int IntKind.u8, Kd.int IntKind.u8, Kd.int IntKind.u8, Kd.int IntKind.u8, Kd.int IntKind.i64, Kd.int IntKind.u8] a9 none))) [], BC.mk (Hd.mk 0 0 false (some (Rw.mk 0 [Kd.int IntKind.u8] a10 none))) []] => some (fText_l31333_T.mk a0 a1 a2 a3 a4 a5 a6 a7 a8 a9 a10)
  | _ => none
def fText_l31333_sum : V.Sum := loopS fText_l31333_hd fText_l31333_rd fText_l31333_st 18446744073709551616 [X.e (2 : Nat)] [0, 1, 2, 3, 4, 5, 6, 9, 12, 13, 14, 18, 19, 20] [1, 2, 3, 4, 12, 13, 14, 18, 19] [2] [2] [] 2
theorem fText_l31333_E : ∀ v, bodyF Try.prog tabFd1 (ntOf Try.prog 42) [0, 1, 2, 3, 4, 5, 6, 9, 12, 13, 14, 18, 19, 20] [1, 2, 3, 4, 12, 13, 14, 18, 19] [] 2000 [2] [2] fText_l31333_code 125332 (fText_l31333_hd v) = some ((fText_l31333_st v).1, (fText_l31333_st v).2.map fun q => (q.1, q.2.1, fText_l31333_hd q.2.2)) := fun v => by kernel_rfl
set_option maxHeartbeats 2000000 in
theorem fText_l31333_R : ∀ h v, fText_l31333_rd h = some v → h = fText_l31333_hd v := by
  intro h v e
  unfold fText_l31333_rd at e
  split at e
  · simp only [Option.some.injEq] at e; subst e; rfl
  · cases e
set_option maxRecDepth 100000 in
theorem fText_l31333_sok : SumOK Try.prog (ntOf Try.prog 42) [0, 1, 2, 3, 4, 5, 6, 9, 12, 13, 14, 18, 19, 20] (.block (blockOf (subs (bodyOf Try.prog 42) 1 31333)) (.loop fText_l31333_code)) fText_l31333_sum := loopS_ok tabFd1_ok follows fText_l31333_E fText_l31333_R (fun v => by kernel_rfl) (LOK_of _ _ (LOK_nil'))
noncomputable def fText_l61_code : Go.Code := loopOf (subs (bodyOf Try.prog 42) 1 61)
structure fText_l61_T where
  a0 : ByteArray
  a1 : Int
  a2 : Int
  a3 : Int
  a4 : Int
  a5 : List (List Int)
  a6 : List (List Int)
  deriving Inhabited
def fText_l61_hd (v : fText_l61_T) : HS := HS.mk [(nat_lit 1, LV.a (At.ptr (nat_lit 0) (nat_lit 0))), (nat_lit 2, LV.a (At.str true (fText_l61_T.a0 v))), (nat_lit 3, LV.a (At.vec (nat_lit 2) (nat_lit 0) (nat_lit 1))), (nat_lit 12, LV.a (At.int true IntKind.i64 (fText_l61_T.a1 v))), (nat_lit 13, LV.a (At.int true IntKind.i64 (fText_l61_T.a2 v)))] [BC.mk (Hd.mk (nat_lit 0) (nat_lit 3) true none) [some (At.int true IntKind.i64 (fText_l61_T.a3 v)), some (At.int true IntKind.i64 (fText_l61_T.a4 v)), some (At.vec (nat_lit 1) (nat_lit 0) (nat_lit 6))], BC.mk (Hd.mk (nat_lit 0) (nat_lit 0) true (some (Rw.mk (nat_lit 0) [Kd.int IntKind.u8, Kd.int IntKind.u8, Kd.int IntKind.u8, Kd.int IntKind.u8, Kd.int IntKind.i64, Kd.int IntKind.u8] (fText_l61_T.a5 v) none))) [], BC.mk (Hd.mk (nat_lit 0) (nat_lit 0) false (some (Rw.mk (nat_lit 0) [Kd.int IntKind.u8] (fText_l61_T.a6 v) none))) []]
def fText_l61_s0 (v : fText_l61_T) : Bool := decide (fText_l61_T.a2 v < fText_l61_T.a1 v)
def fText_l61_s1 (v : fText_l61_T) : Option (X × fText_l31333_T) := lrun fText_l31333_st (18446744073709551616 : Nat) (fText_l31333_T.mk (fText_l61_T.a0 v) (fText_l61_T.a2 v) (fText_l61_T.a1 v) (fText_l61_T.a2 v) (fText_l61_s0 v) (fText_l61_T.a3 v) (0 : Int) (fText_l61_T.a3 v) (fText_l61_T.a4 v) (fText_l61_T.a5 v) (fText_l61_T.a6 v))
def fText_l61_s2 (v : fText_l61_T) : List (List Int) := fText_l31333_T.a10 (V.valOf (fText_l61_s1 v)) ++ [[(10 : Int)]]
def fText_l61_st (v : fText_l61_T) : List Prop × List (X × Bool × fText_l61_T) := ([fText_l61_s0 v = true → lok fText_l31333_st (18446744073709551616 : Nat) (fText_l31333_T.mk (fText_l61_T.a0 v) (fText_l61_T.a2 v) (fText_l61_T.a1 v) (fText_l61_T.a2 v) (fText_l61_s0 v) (fText_l61_T.a3 v) (0 : Int) (fText_l61_T.a3 v) (fText_l61_T.a4 v) (fText_l61_T.a5 v) (fText_l61_T.a6 v)), fText_l61_s0 v = true → isX (X.e (2 : Nat)) (fText_l61_s1 v) = true → List.length (fText_l61_s2 v) * (1 : Nat) ≤ (70368744177664 : Nat)], [(X.e (0 : Nat), !fText_l61_s0 v, fText_l61_T.mk (fText_l61_T.a0 v) (fText_l61_T.a1 v) (fText_l61_T.a2 v) (fText_l61_T.a3 v) (fText_l61_T.a4 v) (fText_l61_T.a5 v) (fText_l61_T.a6 v)), (X.n, fText_l61_s0 v && isX (X.e (2 : Nat)) (fText_l61_s1 v), fText_l61_T.mk (fText_l31333_T.a0 (V.valOf (fText_l61_s1 v))) (fText_l31333_T.a2 (V.valOf (fText_l61_s1 v))) (IntKind.wrap IntKind.i64 (fText_l31333_T.a3 (V.valOf (fText_l61_s1 v)) + (1 : Int))) (fText_l61_T.a3 v) (fText_l61_T.a4 v) (fText_l61_T.a5 v) (fText_l61_s2 v))])
def fText_l61_rd : HS → Option fText_l61_T
  | HS.mk [(1, LV.a (At.ptr 0 0)), (2, LV.a (At.str true a0)), (3, LV.a (At.vec 2 0 1)), (12, LV.a (At.int true IntKind.i64 a1)), (13, LV.a (At.int true IntKind.i64 a2))] [BC.mk (Hd.mk 0 3 true none) [some (At.int true IntKind.i64 a3), some (At.int true IntKind.i64 a4), some (At.vec 1 0 6)], BC.mk (Hd.mk 0 0 true (some (Rw.mk 0 [Kd.int IntKind.u8, Kd.int IntKind.u8, Kd.int IntKind.u8, Kd.int IntKind.u8, Kd.int IntKind.i64, Kd.int IntKind.u8] a5 none))) [], BC.mk (Hd.mk 0 0 false (some (Rw.mk 0 [Kd.int IntKind.u8] a6 none))) []] => some (fText_l61_T.mk a0 a1 a2 a3 a4 a5 a6)
  | _ => none
def fText_l61_sum : V.Sum := loopS fText_l61_hd fText_l61_rd fText_l61_st 18446744073709551616 [X.e (0 : Nat)] [0, 1, 2, 3, 4, 5, 6, 9, 12, 13, 14, 18, 19, 20] [1, 2, 3, 12, 13] [2] [2] [(3, [.int .u8])] 0
theorem fText_l61_E : ∀ v, bodyF Try.prog tabFd1 (ntOf Try.prog 42) [0, 1, 2, 3, 4, 5, 6, 9, 12, 13, 14, 18, 19, 20] [1, 2, 3, 12, 13] [(31333, fText_l31333_sum)] 2000 [2] [2] fText_l61_code 244 (fText_l61_hd v) = some ((fText_l61_st v).1, (fText_l61_st v).2.map fun q => (q.1, q.2.1, fText_l61_hd q.2.2)) := fun v => by kernel_rfl
set_option maxHeartbeats 2000000 in
theorem fText_l61_R : ∀ h v, fText_l61_rd h = some v → h = fText_l61_hd v := by
  intro h v e
  unfold fText_l61_rd at e
  split at e
  · simp only [Option.some.injEq] at e; subst e; rfl
  · cases e
set_option maxRecDepth 100000 in
theorem fText_l61_sok : SumOK Try.prog (ntOf Try.prog 42) [0, 1, 2, 3, 4, 5, 6, 9, 12, 13, 14, 18, 19, 20] (.block (blockOf (subs (bodyOf Try.prog 42) 1 61)) (.loop fText_l61_code)) fText_l61_sum := loopS_ok tabFd1_ok follows fText_l61_E fText_l61_R (fun v => by kernel_rfl) (LOK_of _ _ (LOK_cons (show subs fText_l61_code 244 31333 = [.block (blockOf (subs (bodyOf Try.prog 42) 1 31333)) (.loop fText_l31333_code)] from by kernel_rfl) fText_l31333_sok (LOK_nil')))
def fText_s0 (w0 : Int) (h0 : Int) (l : List (List Int)) : Bool := fChk_0 w0 h0 l != (0 : Int)
def fText_0 (w0 : Int) (h0 : Int) (l : List (List Int)) : ByteArray := bif fText_s0 w0 h0 l then ByteArray.mk (Array.mk []) else bytesOf (fText_l61_T.a6 (V.valOf (lrun fText_l61_st (18446744073709551616 : Nat) (fText_l61_T.mk (ByteArray.mk (Array.mk [])) h0 (0 : Int) w0 h0 l []))))
def fText_o (w0 : Int) (h0 : Int) (r0 : Bool) (l : List (List Int)) : List Prop := [(!fChk_s0 w0 h0 l) = true → lok fChk_l29_st (18446744073709551616 : Nat) (fChk_l29_T.mk (0 : Int) (Int.ofNat (List.length l)) (0 : Int) l), (!fText_s0 w0 h0 l) = true → lok fText_l61_st (18446744073709551616 : Nat) (fText_l61_T.mk (ByteArray.mk (Array.mk [])) h0 (0 : Int) w0 h0 l [])]
theorem fText_p (w0 : Int) (h0 : Int) (r0 : Bool) (l : List (List Int)) : evG Try.prog tabFd1 2000 42 [0, 1, 2, 3, 4, 5, 6, 9, 12, 13, 14, 18, 19, 20] [(61, fText_l61_sum), (31333, fText_l31333_sum)] [] [.g [.int true .i64 w0, .int true .i64 h0, .vec 0 0 6]] [⟨⟨0, 0, r0, some ⟨0, [.int .u8, .int .u8, .int .u8, .int .u8, .int .i64, .int .u8], l, none⟩⟩, []⟩] = some (fText_o w0 h0 r0 l, LV.a (At.str true (fText_0 w0 h0 l)), [none]) := by kernel_rfl
def fText_c : Con
  | [.g [.int true .i64 w0, .int true .i64 h0, .vec 0 0 6]], [⟨⟨0, 0, r0, some ⟨0, [.int .u8, .int .u8, .int .u8, .int .u8, .int .i64, .int .u8], l, none⟩⟩, []⟩] => some (fText_o w0 h0 r0 l, LV.a (At.str true (fText_0 w0 h0 l)), [none])
  | _, _ => none
theorem fText_ok : ConOK Try.prog 42 (normC fText_c) := normC_ok (by
  intro args bs obs lv out h ho φ vs w may ha hM
  unfold fText_c at h
  split at h
  · simp only [Option.some.injEq, Prod.mk.injEq] at h
    obtain ⟨rfl, rfl, rfl⟩ := h
    rename_i w0 h0 r0 l
    exact evG_okL' tabFd1_ok follows (LOK_cons (show subs (bodyOf Try.prog 42) 1 61 = [.block (blockOf (subs (bodyOf Try.prog 42) 1 61)) (.loop fText_l61_code)] from by kernel_rfl) fText_l61_sok (LOK_cons (show subs (bodyOf Try.prog 42) 1 31333 = [.block (blockOf (subs (bodyOf Try.prog 42) 1 31333)) (.loop fText_l31333_code)] from by kernel_rfl) fText_l31333_sok (LOK_nil'))) _ _ _ _ _ (fText_p w0 h0 r0 l) ho φ vs w may ha hM
  · cases h)
theorem fText_en : Enters Try.prog 42 := fun args => by kernel_rfl
-- 2552 37 6 ms

/-! (azulejo/frame.Frame).Check -/
noncomputable def fChkS_l29_code : Go.Code := loopOf (subs (bodyOf Try.prog 40) 1 29)
structure fChkS_l29_T where
  a0 : Int
  a1 : Nat
  a2 : Nat
  a3 : Int
  a4 : Int
  a5 : List (List Int)
  deriving Inhabited
def fChkS_l29_hd (v : fChkS_l29_T) : HS := HS.mk [(nat_lit 2, LV.a (At.int true IntKind.i64 (fChkS_l29_T.a0 v))), (nat_lit 41, LV.a (At.slc true (nat_lit 0) (nat_lit 0) (nat_lit 0) (nat_lit 6) (fChkS_l29_T.a1 v) (fChkS_l29_T.a2 v))), (nat_lit 42, LV.a (At.int true IntKind.i64 (fChkS_l29_T.a3 v))), (nat_lit 43, LV.a (At.int true IntKind.i64 (fChkS_l29_T.a4 v)))] [BC.mk (Hd.mk (nat_lit 0) (nat_lit 0) true (some (Rw.mk (nat_lit 0) [Kd.int IntKind.u8, Kd.int IntKind.u8, Kd.int IntKind.u8, Kd.int IntKind.u8, Kd.int IntKind.i64, Kd.int IntKind.u8] (fChkS_l29_T.a5 v) none))) []]
def fChkS_l29_s0 (v : fChkS_l29_T) : Bool := decide (fChkS_l29_T.a4 v < fChkS_l29_T.a3 v)
def fChkS_l29_s1 (v : fChkS_l29_T) : Nat := fChkS_l29_T.a1 v + Int.toNat (fChkS_l29_T.a4 v)
def fChkS_l29_s2 (v : fChkS_l29_T) : Int := rget (Rw.l (Rw.mk (nat_lit 0) [Kd.int IntKind.u8, Kd.int IntKind.u8, Kd.int IntKind.u8, Kd.int IntKind.u8, Kd.int IntKind.i64, Kd.int IntKind.u8] (fChkS_l29_T.a5 v) none)) (fChkS_l29_s1 v) ((0 : Nat) + (1 : Nat) + (1 : Nat) + (1 : Nat) + (1 : Nat))
def fChkS_l29_s3 (v : fChkS_l29_T) : Bool := bif decide (rget (fChkS_l29_T.a5 v) (fChkS_l29_s1 v) (4 : Nat) < (0 : Int)) then true else decide ((65535 : Int) < rget (fChkS_l29_T.a5 v) (fChkS_l29_s1 v) (4 : Nat))
def fChkS_l29_st (v : fChkS_l29_T) : List Prop × List (X × Bool × fChkS_l29_T) := ([fChkS_l29_s0 v = true → (0 : Int) ≤ fChkS_l29_T.a4 v ∧ fChkS_l29_T.a4 v < Int.ofNat (fChkS_l29_T.a2 v)], [(X.e (0 : Nat), !fChkS_l29_s0 v, fChkS_l29_T.mk (fChkS_l29_T.a0 v) (fChkS_l29_T.a1 v) (fChkS_l29_T.a2 v) (fChkS_l29_T.a3 v) (fChkS_l29_T.a4 v) (fChkS_l29_T.a5 v)), (X.r, fChkS_l29_s0 v && fChkS_l29_s3 v, fChkS_l29_T.mk ((2 : Int)) (fChkS_l29_T.a1 v) (fChkS_l29_T.a2 v) (fChkS_l29_T.a3 v) (fChkS_l29_T.a4 v) (fChkS_l29_T.a5 v)), (X.n, fChkS_l29_s0 v && !fChkS_l29_s3 v, fChkS_l29_T.mk (fChkS_l29_T.a0 v) (fChkS_l29_T.a1 v) (fChkS_l29_T.a2 v) (fChkS_l29_T.a3 v) (IntKind.wrap IntKind.i64 (fChkS_l29_T.a4 v + (1 : Int))) (fChkS_l29_T.a5 v))])
def fChkS_l29_rd : HS → Option fChkS_l29_T
  | HS.mk [(2, LV.a (At.int true IntKind.i64 a0)), (41, LV.a (At.slc true 0 0 0 6 a1 a2)), (42, LV.a (At.int true IntKind.i64 a3)), (43, LV.a (At.int true IntKind.i64 a4))] [BC.mk (Hd.mk 0 0 true (some (Rw.mk 0 [Kd.int IntKind.u8, Kd.int IntKind.u8, Kd.int IntKind.u8, Kd.int IntKind.u8, Kd.int IntKind.i64, Kd.int IntKind.u8] a5 none))) []] => some (fChkS_l29_T.mk a0 a1 a2 a3 a4 a5)
  | _ => none
def fChkS_l29_sum : V.Sum := loopS fChkS_l29_hd fChkS_l29_rd fChkS_l29_st 18446744073709551616 [X.e (0 : Nat), X.r] [0, 1, 2, 4, 39, 41, 42, 43, 44, 54] [2, 41, 42, 43] [] [] [] 0
theorem fChkS_l29_E : ∀ v, bodyF Try.prog tabFd1 (ntOf Try.prog 40) [0, 1, 2, 4, 39, 41, 42, 43, 44, 54] [2, 41, 42, 43] [] 2000 [] [] fChkS_l29_code 116 (fChkS_l29_hd v) = some ((fChkS_l29_st v).1, (fChkS_l29_st v).2.map fun q => (q.1, q.2.1, fChkS_l29_hd q.2.2)) := fun v => by kernel_rfl
set_option maxHeartbeats 2000000 in
theorem fChkS_l29_R : ∀ h v, fChkS_l29_rd h = some v → h = fChkS_l29_hd v := by
  intro h v e
  unfold fChkS_l29_rd at e
  split at e
  · simp only [Option.some.injEq] at e; subst e; rfl
  · cases e
set_option maxRecDepth 100000 in
theorem fChkS_l29_sok : SumOK Try.prog (ntOf Try.prog 40) [0, 1, 2, 4, 39, 41, 42, 43, 44, 54] (.block (blockOf (subs (bodyOf Try.prog 40) 1 29)) (.loop fChkS_l29_code)) fChkS_l29_sum := loopS_ok tabFd1_ok follows fChkS_l29_E fChkS_l29_R (fun v => by kernel_rfl) (LOK_of _ _ (LOK_nil'))
def fChkS_s0 (w0 : Int) (h0 : Int) (n0 : Nat) : Bool := bif decide (w0 < (1 : Int)) then true else bif decide ((64 : Int) < w0) then true else bif decide (h0 < (1 : Int)) then true else bif decide ((64 : Int) < h0) then true else Int.ofNat n0 != IntKind.wrap IntKind.i64 (w0 * h0)
def fChkS_s1 (o0 : Nat) (n0 : Nat) (l : List (List Int)) : Option (X × fChkS_l29_T) := lrun fChkS_l29_st (18446744073709551616 : Nat) (fChkS_l29_T.mk (0 : Int) o0 n0 (Int.ofNat n0) (0 : Int) l)
def fChkS_0 (w0 : Int) (h0 : Int) (o0 : Nat) (n0 : Nat) (l : List (List Int)) : Int := bif fChkS_s0 w0 h0 n0 then (6 : Int) else bif isX X.r (fChkS_s1 o0 n0 l) then fChkS_l29_T.a0 (V.valOf (fChkS_s1 o0 n0 l)) else (0 : Int)
def fChkS_o (w0 : Int) (h0 : Int) (o0 : Nat) (n0 : Nat) (r0 : Bool) (l : List (List Int)) : List Prop := [(!fChkS_s0 w0 h0 n0) = true → lok fChkS_l29_st (18446744073709551616 : Nat) (fChkS_l29_T.mk (0 : Int) o0 n0 (Int.ofNat n0) (0 : Int) l)]
theorem fChkS_p (w0 : Int) (h0 : Int) (o0 : Nat) (n0 : Nat) (r0 : Bool) (l : List (List Int)) : evG Try.prog tabFd1 2000 40 [0, 1, 2, 4, 39, 41, 42, 43, 44, 54] [(29, fChkS_l29_sum)] [] [.g [.int true .i64 w0, .int true .i64 h0, .slc true 0 0 0 6 o0 n0]] [⟨⟨0, 0, r0, some ⟨0, [.int .u8, .int .u8, .int .u8, .int .u8, .int .i64, .int .u8], l, none⟩⟩, []⟩] = some (fChkS_o w0 h0 o0 n0 r0 l, LV.a (At.int true IntKind.i64 (fChkS_0 w0 h0 o0 n0 l)), [none]) := by kernel_rfl
def fChkS_c : Con
  | [.g [.int true .i64 w0, .int true .i64 h0, .slc true 0 0 0 6 o0 n0]], [⟨⟨0, 0, r0, some ⟨0, [.int .u8, .int .u8, .int .u8, .int .u8, .int .i64, .int .u8], l, none⟩⟩, []⟩] => some (fChkS_o w0 h0 o0 n0 r0 l, LV.a (At.int true IntKind.i64 (fChkS_0 w0 h0 o0 n0 l)), [none])
  | _, _ => none
theorem fChkS_ok : ConOK Try.prog 40 (normC fChkS_c) := normC_ok (by
  intro args bs obs lv out h ho φ vs w may ha hM
  unfold fChkS_c at h
  split at h
  · simp only [Option.some.injEq, Prod.mk.injEq] at h
    obtain ⟨rfl, rfl, rfl⟩ := h
    rename_i w0 h0 o0 n0 r0 l
    exact evG_okL' tabFd1_ok follows (LOK_cons (show subs (bodyOf Try.prog 40) 1 29 = [.block (blockOf (subs (bodyOf Try.prog 40) 1 29)) (.loop fChkS_l29_code)] from by kernel_rfl) fChkS_l29_sok (LOK_nil')) _ _ _ _ _ (fChkS_p w0 h0 o0 n0 r0 l) ho φ vs w may ha hM
  · cases h)
theorem fChkS_en : Enters Try.prog 40 := fun args => by kernel_rfl
-- 2738 82 9 ms

def tabFd2 : Tab := (41, normC fClone_c) :: (42, normC fText_c) :: (40, normC fChkS_c) :: tabFd1
theorem tabFd2_ok : TOK Try.prog tabFd2 := TOK.cons fClone_en fClone_ok (TOK.cons fText_en fText_ok (TOK.cons fChkS_en fChkS_ok (tabFd1_ok)))

end Go.Proofs.Ytcdejlgophpdjaa
end

section
namespace Go.Proofs.Ytcdejlgophpdjaa
open Go Go.RowKit Go.Proofs.Ytcdejlgophpdjaa.V
set_option linter.unusedVariables false

/-! azulejo/azulejolaw20.Awake -/
def fAwake_s0 : List (List Int) := fNew_0 (2 : Int) (1 : Int) (0 : Int) (0 : Int) (0 : Int) (0 : Int) (0 : Int) (0 : Int)
def fAwake_s1 : Bool := ByteArray.toList (fText_0 (fNew_s2 (2 : Int)) (fNew_s5 (1 : Int)) fAwake_s0) == ByteArray.toList (ByteArray.mk (Array.mk [(32 : UInt8), (32 : UInt8), (10 : UInt8)]))
def fAwake_0 : Bool := bif fAwake_s1 then fChk_0 (fNew_s2 (2 : Int)) (fNew_s5 (1 : Int)) fAwake_s0 == (0 : Int) else false
def fAwake_s2 : Int := bMul64_0 (IntKind.wrap IntKind.u64 (Int.ofNat (1 : Nat))) (IntKind.wrap IntKind.u64 (fNew_s6 (2 : Int) (1 : Int)))
def fAwake_s3 : Int := sRep_s1 (fNew_s6 (2 : Int) (1 : Int))
def fAwake_s4 : List (List Int) := sRep_s2 (fNew_s6 (2 : Int) (1 : Int))
def fAwake_o  : List Prop := [decide (fNew_s6 (2 : Int) (1 : Int) < (0 : Int)) = false, (bif decide ((0 : Int) < fAwake_s2) then true else decide ((9223372036854775807 : Int) < fAwake_s3)) = false, (0 : Int) ≤ IntKind.wrap IntKind.i64 fAwake_s3 ∧ IntKind.wrap IntKind.i64 fAwake_s3 = IntKind.wrap IntKind.i64 fAwake_s3 ∧ IntKind.wrap IntKind.i64 fAwake_s3 * Int.ofNat (24 : Nat) ≤ (70368744177664 : Int), lok sRep_l254_st (18446744073709551616 : Nat) (sRep_l254_T.mk (Int.ofNat (sRep_s3 (fNew_s6 (2 : Int) (1 : Int)) (0 : Int) (0 : Int) (0 : Int) (0 : Int) (0 : Int) (0 : Int))) (List.take (0 : Nat) fAwake_s4 ++ List.take (2 : Nat) (sRep_s0 (0 : Int) (0 : Int) (0 : Int) (0 : Int) (0 : Int) (0 : Int)) ++ List.drop (1 : Nat) fAwake_s4)), (!fChk_s0 (fNew_s2 (2 : Int)) (fNew_s5 (1 : Int)) fAwake_s0) = true → lok fChk_l29_st (18446744073709551616 : Nat) (fChk_l29_T.mk (0 : Int) (Int.ofNat (2 : Nat)) (0 : Int) fAwake_s0), (!fText_s0 (fNew_s2 (2 : Int)) (fNew_s5 (1 : Int)) fAwake_s0) = true → lok fText_l61_st (18446744073709551616 : Nat) (fText_l61_T.mk (ByteArray.mk (Array.mk [])) (fNew_s5 (1 : Int)) (0 : Int) (fNew_s2 (2 : Int)) (fNew_s5 (1 : Int)) fAwake_s0 []), fAwake_s1 = true → (!fChk_s0 (fNew_s2 (2 : Int)) (fNew_s5 (1 : Int)) fAwake_s0) = true → lok fChk_l29_st (18446744073709551616 : Nat) (fChk_l29_T.mk (0 : Int) (Int.ofNat (2 : Nat)) (0 : Int) fAwake_s0)]
theorem fAwake_p  : evG Try.prog tabFd2 2000 37 [0, 1] [] [] [] [] = some (fAwake_o , LV.a (At.bool true fAwake_0), []) := by kernel_rfl
def fAwake_c : Con
  | [], [] => some (fAwake_o , LV.a (At.bool true fAwake_0), [])
  | _, _ => none
theorem fAwake_ok : ConOK Try.prog 37 (normC fAwake_c) := normC_ok (by
  intro args bs obs lv out h ho φ vs w may ha hM
  unfold fAwake_c at h
  split at h
  · simp only [Option.some.injEq, Prod.mk.injEq] at h
    obtain ⟨rfl, rfl, rfl⟩ := h
    exact evG_ok tabFd2_ok follows _ _ _ _ _ (fAwake_p ) ho φ vs w may ha hM
  · cases h)
theorem fAwake_en : Enters Try.prog 37 := fun args => by kernel_rfl
-- 162 11 8 ms

def tabFd3 : Tab := (37, normC fAwake_c) :: tabFd2
theorem tabFd3_ok : TOK Try.prog tabFd3 := TOK.cons fAwake_en fAwake_ok (tabFd2_ok)

end Go.Proofs.Ytcdejlgophpdjaa
end

section
namespace Go.Proofs.Ytcdejlgophpdjaa
open Go Go.RowKit Go.Proofs.Ytcdejlgophpdjaa.V
set_option linter.unusedVariables false

/-! azulejo/azulejolaw20.FrameNew -/
noncomputable def lFrNew_l253_code : Go.Code := loopOf (subs (bodyOf Try.prog 4) 1 253)
structure lFrNew_l253_T where
  a0 : Int
  a1 : Int
  a2 : Bool
  a3 : Int
  a4 : Int
  a5 : Int
  a6 : Int
  a7 : Int
  a8 : Int
  a9 : Int
  a10 : Int
  a11 : Int
  a12 : Int
  a13 : List (List Int)
  deriving Inhabited
def lFrNew_l253_hd (v : lFrNew_l253_T) : HS := HS.mk [(nat_lit 3, LV.a (At.int true IntKind.i64 (lFrNew_l253_T.a0 v))), (nat_lit 4, LV.a (At.int true IntKind.u8 (lFrNew_l253_T.a1 v))), (nat_lit 7, LV.a (At.ptr (nat_lit 0) (nat_lit 0))), (nat_lit 10, LV.a (At.bool true (lFrNew_l253_T.a2 v))), (nat_lit 11, LV.a (At.ptr (nat_lit 1) (nat_lit 0))), (nat_lit 60, LV.a (At.vec (nat_lit 2) (nat_lit 0) (nat_lit 6))), (nat_lit 61, LV.a (At.int true IntKind.i64 (lFrNew_l253_T.a3 v))), (nat_lit 62, LV.a (At.int true IntKind.i64 (lFrNew_l253_T.a4 v)))] [BC.mk (Hd.mk (nat_lit 0) (nat_lit 6) true none) [some (At.int true IntKind.u8 (lFrNew_l253_T.a5 v)), some (At.int true IntKind.u8 (lFrNew_l253_T.a6 v)), some (At.int true IntKind.u8 (lFrNew_l253_T.a7 v)), some (At.int true IntKind.u8 (lFrNew_l253_T.a8 v)), some (At.int true IntKind.u16 (lFrNew_l253_T.a9 v)), some (At.int true IntKind.u8 (lFrNew_l253_T.a10 v))], BC.mk (Hd.mk (nat_lit 0) (nat_lit 3) true none) [some (At.int true IntKind.i64 (lFrNew_l253_T.a11 v)), some (At.int true IntKind.i64 (lFrNew_l253_T.a12 v)), some (At.vec (nat_lit 2) (nat_lit 0) (nat_lit 6))], BC.mk (Hd.mk (nat_lit 0) (nat_lit 0) true (some (Rw.mk (nat_lit 0) [Kd.int IntKind.u8, Kd.int IntKind.u8, Kd.int IntKind.u8, Kd.int IntKind.u8, Kd.int IntKind.i64, Kd.int IntKind.u8] (lFrNew_l253_T.a13 v) none))) []]
def lFrNew_l253_s0 (v : lFrNew_l253_T) : Bool := decide (lFrNew_l253_T.a4 v < lFrNew_l253_T.a3 v)
def lFrNew_l253_s1 (v : lFrNew_l253_T) : Bool := !(rget (lFrNew_l253_T.a13 v) (Int.toNat (lFrNew_l253_T.a4 v)) (0 : Nat) == lFrNew_l253_T.a5 v && (rget (lFrNew_l253_T.a13 v) (Int.toNat (lFrNew_l253_T.a4 v)) (1 : Nat) == lFrNew_l253_T.a6 v && (rget (lFrNew_l253_T.a13 v) (Int.toNat (lFrNew_l253_T.a4 v)) (2 : Nat) == lFrNew_l253_T.a7 v && rget (lFrNew_l253_T.a13 v) (Int.toNat (lFrNew_l253_T.a4 v)) (3 : Nat) == lFrNew_l253_T.a8 v)) && (rget (lFrNew_l253_T.a13 v) (Int.toNat (lFrNew_l253_T.a4 v)) (4 : Nat) == IntKind.wrap IntKind.i64 (lFrNew_l253_T.a9 v) && rget (lFrNew_l253_T.a13 v) (Int.toNat (lFrNew_l253_T.a4 v)) (5 : Nat) == lFrNew_l253_T.a10 v))
def lFrNew_l253_st (v : lFrNew_l253_T) : List Prop × List (X × Bool × lFrNew_l253_T) := ([lFrNew_l253_s0 v = true → (0 : Int) ≤ lFrNew_l253_T.a4 v ∧ lFrNew_l253_T.a4 v < Int.ofNat (List.length (lFrNew_l253_T.a13 v))], [(X.e (0 : Nat), !lFrNew_l253_s0 v, lFrNew_l253_T.mk (lFrNew_l253_T.a0 v) (lFrNew_l253_T.a1 v) (lFrNew_l253_T.a2 v) (lFrNew_l253_T.a3 v) (lFrNew_l253_T.a4 v) (lFrNew_l253_T.a5 v) (lFrNew_l253_T.a6 v) (lFrNew_l253_T.a7 v) (lFrNew_l253_T.a8 v) (lFrNew_l253_T.a9 v) (lFrNew_l253_T.a10 v) (lFrNew_l253_T.a11 v) (lFrNew_l253_T.a12 v) (lFrNew_l253_T.a13 v)), (X.r, lFrNew_l253_s0 v && lFrNew_l253_s1 v, lFrNew_l253_T.mk (lFrNew_l253_T.a0 v) (lFrNew_l253_T.a1 v) (false) (lFrNew_l253_T.a3 v) (lFrNew_l253_T.a4 v) (lFrNew_l253_T.a5 v) (lFrNew_l253_T.a6 v) (lFrNew_l253_T.a7 v) (lFrNew_l253_T.a8 v) (lFrNew_l253_T.a9 v) (lFrNew_l253_T.a10 v) (lFrNew_l253_T.a11 v) (lFrNew_l253_T.a12 v) (lFrNew_l253_T.a13 v)), (X.n, lFrNew_l253_s0 v && !lFrNew_l253_s1 v, lFrNew_l253_T.mk (lFrNew_l253_T.a0 v) (lFrNew_l253_T.a1 v) (lFrNew_l253_T.a2 v) (lFrNew_l253_T.a3 v) (IntKind.wrap IntKind.i64 (lFrNew_l253_T.a4 v + (1 : Int))) (lFrNew_l253_T.a5 v) (lFrNew_l253_T.a6 v) (lFrNew_l253_T.a7 v) (lFrNew_l253_T.a8 v) (lFrNew_l253_T.a9 v) (lFrNew_l253_T.a10 v) (lFrNew_l253_T.a11 v) (lFrNew_l253_T.a12 v) (lFrNew_l253_T.a13 v))])
def lFrNew_l253_rd : HS → Option lFrNew_l253_T
  | HS.mk [(3, LV.a (At.int true IntKind.i64 a0)), (4, LV.a (At.int true IntKind.u8 a1)), (7, LV.a (At.ptr 0 0)), (10, LV.a (At.bool true a2)), (11, LV.a (At.ptr 1 0)), (60, LV.a (At.vec 2 0 6)), (61, LV.a (At.int true IntKind.i64 a3)), (62, LV.a (At.int true IntKind.i64 a4))] [BC.mk (Hd.mk 0 6 true none) [some (At.int true IntKind.u8 a5), some (At.int true IntKind.u8 a6), some (At.int true IntKind.u8 a7), some (At.int true IntKind.u8 a8), some (At.int true IntKind.u16 a9), some (At.int true IntKind.u8 a10)], BC.mk (Hd.mk 0 3 true none) [some (At.int true IntKind.i64 a11), some (At.int true IntKind.i64 a12), some (At.vec 2 0 6)], BC.mk (Hd.mk 0 0 true (some (Rw.mk 0 [Kd.int IntKind.u8, Kd.int IntKind.u8, Kd.int IntKind.u8, Kd.int IntKind.u8, Kd.int IntKind.i64, Kd.int IntKind.u8] a13 none))) []] => some (lFrNew_l253_T.mk a0 a1 a2 a3 a4 a5 a6 a7 a8 a9 a10 a11 a12 a13)
  | _ => none
def lFrNew_l253_sum : V.Sum := loopS lFrNew_l253_hd lFrNew_l253_rd lFrNew_l253_st 18446744073709551616 [X.e (0 : Nat), X.r] [0, 1, 2, 3, 4, 7, 10, 11, 12, 13, 15, 16, 17, 18, 19, 21, 58, 60, 61, 62, 63, 69, 89] [3, 4, 7, 10, 11, 60, 61, 62] [] [] [] 0
theorem lFrNew_l253_E : ∀ v, bodyF Try.prog tabFd3 (ntOf Try.prog 4) [0, 1, 2, 3, 4, 7, 10, 11, 12, 13, 15, 16, 17, 18, 19, 21, 58, 60, 61, 62, 63, 69, 89] [3, 4, 7, 10, 11, 60, 61, 62] [] 2000 [] [] lFrNew_l253_code 1012 (lFrNew_l253_hd v) = some ((lFrNew_l253_st v).1, (lFrNew_l253_st v).2.map fun q => (q.1, q.2.1, lFrNew_l253_hd q.2.2)) := fun v => by kernel_rfl
set_option maxHeartbeats 2000000 in
theorem lFrNew_l253_R : ∀ h v, lFrNew_l253_rd h = some v → h = lFrNew_l253_hd v := by
  intro h v e
  unfold lFrNew_l253_rd at e
  split at e
  · simp only [Option.some.injEq] at e; subst e; rfl
  · cases e
set_option maxRecDepth 100000 in
theorem lFrNew_l253_sok : SumOK Try.prog (ntOf Try.prog 4) [0, 1, 2, 3, 4, 7, 10, 11, 12, 13, 15, 16, 17, 18, 19, 21, 58, 60, 61, 62, 63, 69, 89] (.block (blockOf (subs (bodyOf Try.prog 4) 1 253)) (.loop lFrNew_l253_code)) lFrNew_l253_sum := loopS_ok tabFd3_ok follows lFrNew_l253_E lFrNew_l253_R (fun v => by kernel_rfl) (LOK_of _ _ (LOK_nil'))
def lFrNew_s0 (x0 : Int) : Int := if x0 < (1 : Int) then (1 : Int) else x0
def lFrNew_s1 (x0 : Int) : Int := if (64 : Int) < lFrNew_s0 x0 then (64 : Int) else lFrNew_s0 x0
def lFrNew_s2 (x1 : Int) : Int := if x1 < (1 : Int) then (1 : Int) else x1
def lFrNew_s3 (x1 : Int) : Int := if (64 : Int) < lFrNew_s2 x1 then (64 : Int) else lFrNew_s2 x1
def lFrNew_s4 (x0 : Int) (x1 : Int) (x2_0 : Int) (x2_1 : Int) (x2_2 : Int) (x2_3 : Int) (x2_4 : Int) (x2_5 : Int) : Nat := List.length (fNew_0 x0 x1 x2_0 x2_1 x2_2 x2_3 (IntKind.wrap IntKind.i64 x2_4) x2_5)
def lFrNew_s5 (x0 : Int) (x1 : Int) (x2_0 : Int) (x2_1 : Int) (x2_2 : Int) (x2_3 : Int) (x2_4 : Int) (x2_5 : Int) : Bool := Int.ofNat (lFrNew_s4 x0 x1 x2_0 x2_1 x2_2 x2_3 x2_4 x2_5) != IntKind.wrap IntKind.i64 (lFrNew_s1 x0 * lFrNew_s3 x1)
def lFrNew_s6 (x0 : Int) (x1 : Int) (x2_0 : Int) (x2_1 : Int) (x2_2 : Int) (x2_3 : Int) (x2_4 : Int) (x2_5 : Int) : Bool := bif fNew_s2 x0 != lFrNew_s1 x0 then true else bif fNew_s5 x1 != lFrNew_s3 x1 then true else bif lFrNew_s5 x0 x1 x2_0 x2_1 x2_2 x2_3 x2_4 x2_5 then true else fChk_0 (fNew_s2 x0) (fNew_s5 x1) (fNew_0 x0 x1 x2_0 x2_1 x2_2 x2_3 (IntKind.wrap IntKind.i64 x2_4) x2_5) != (0 : Int)
def lFrNew_s7 (x0 : Int) (x1 : Int) (x2_0 : Int) (x2_1 : Int) (x2_2 : Int) (x2_3 : Int) (x2_4 : Int) (x2_5 : Int) (x3 : Int) (x4 : Int) : Option (X × lFrNew_l253_T) := lrun lFrNew_l253_st (18446744073709551616 : Nat) (lFrNew_l253_T.mk x3 x4 false (Int.ofNat (lFrNew_s4 x0 x1 x2_0 x2_1 x2_2 x2_3 x2_4 x2_5)) (0 : Int) x2_0 x2_1 x2_2 x2_3 x2_4 x2_5 (fNew_s2 x0) (fNew_s5 x1) (fNew_0 x0 x1 x2_0 x2_1 x2_2 x2_3 (IntKind.wrap IntKind.i64 x2_4) x2_5))
def lFrNew_s8 (x0 : Int) (x1 : Int) (x2_0 : Int) (x2_1 : Int) (x2_2 : Int) (x2_3 : Int) (x2_4 : Int) (x2_5 : Int) : List (List Int) := sClone_s0 (fNew_0 x0 x1 x2_0 x2_1 x2_2 x2_3 (IntKind.wrap IntKind.i64 x2_4) x2_5)
def lFrNew_s9 (x0 : Int) (x1 : Int) (x2_0 : Int) (x2_1 : Int) (x2_2 : Int) (x2_3 : Int) (x2_4 : Int) (x2_5 : Int) : Nat := List.length (lFrNew_s8 x0 x1 x2_0 x2_1 x2_2 x2_3 x2_4 x2_5)
def lFrNew_s10 (x0 : Int) (x1 : Int) (x2_0 : Int) (x2_1 : Int) (x2_2 : Int) (x2_3 : Int) (x2_4 : Int) (x2_5 : Int) (x3 : Int) (x4 : Int) : Int := Int.tmod (IntKind.wrap IntKind.i64 (lFrNew_l253_T.a1 (V.valOf (lFrNew_s7 x0 x1 x2_0 x2_1 x2_2 x2_3 x2_4 x2_5 x3 x4)))) (Int.ofNat (lFrNew_s9 x0 x1 x2_0 x2_1 x2_2 x2_3 x2_4 x2_5))
def lFrNew_s11 (x0 : Int) (x1 : Int) (x2_0 : Int) (x2_1 : Int) (x2_2 : Int) (x2_3 : Int) (x2_4 : Int) (x2_5 : Int) (x3 : Int) (x4 : Int) : Int := lFrNew_l253_T.a0 (V.valOf (lFrNew_s7 x0 x1 x2_0 x2_1 x2_2 x2_3 x2_4 x2_5 x3 x4))
def lFrNew_s12 (x0 : Int) (x1 : Int) (x2_0 : Int) (x2_1 : Int) (x2_2 : Int) (x2_3 : Int) (x2_4 : Int) (x2_5 : Int) (x3 : Int) (x4 : Int) : List (List Int) := rset (lFrNew_s8 x0 x1 x2_0 x2_1 x2_2 x2_3 x2_4 x2_5) (Int.toNat (lFrNew_s10 x0 x1 x2_0 x2_1 x2_2 x2_3 x2_4 x2_5 x3 x4)) (4 : Nat) [lFrNew_s11 x0 x1 x2_0 x2_1 x2_2 x2_3 x2_4 x2_5 x3 x4]
def lFrNew_s13 (x0 : Int) (x1 : Int) (x2_0 : Int) (x2_1 : Int) (x2_2 : Int) (x2_3 : Int) (x2_4 : Int) (x2_5 : Int) (x3 : Int) (x4 : Int) : Int := lFrNew_l253_T.a0 (V.valOf (lrun lFrNew_l253_st (18446744073709551616 : Nat) (lFrNew_l253_T.mk x3 x4 false ↑(List.length (Rw.l (Rw.mk (nat_lit 0) [Kd.int IntKind.u8, Kd.int IntKind.u8, Kd.int IntKind.u8, Kd.int IntKind.u8, Kd.int IntKind.i64, Kd.int IntKind.u8] (fNew_0 x0 x1 x2_0 x2_1 x2_2 x2_3 (IntKind.wrap IntKind.i64 x2_4) x2_5) none))) (0 : Int) x2_0 x2_1 x2_2 x2_3 x2_4 x2_5 (fNew_s2 x0) (fNew_s5 x1) (fNew_0 x0 x1 x2_0 x2_1 x2_2 x2_3 (IntKind.wrap IntKind.i64 x2_4) x2_5))))
def lFrNew_s14 (x0 : Int) (x1 : Int) (x2_0 : Int) (x2_1 : Int) (x2_2 : Int) (x2_3 : Int) (x2_4 : Int) (x2_5 : Int) (x3 : Int) (x4 : Int) : Int := bif bif decide (lFrNew_s11 x0 x1 x2_0 x2_1 x2_2 x2_3 x2_4 x2_5 x3 x4 < (0 : Int)) then true else decide ((65535 : Int) < lFrNew_s11 x0 x1 x2_0 x2_1 x2_2 x2_3 x2_4 x2_5 x3 x4) then (2 : Int) else (0 : Int)
def lFrNew_s15 (x0 : Int) (x1 : Int) (x2_0 : Int) (x2_1 : Int) (x2_2 : Int) (x2_3 : Int) (x2_4 : Int) (x2_5 : Int) (x3 : Int) (x4 : Int) : Bool := fChk_0 (fNew_s2 x0) (fNew_s5 x1) (lFrNew_s12 x0 x1 x2_0 x2_1 x2_2 x2_3 x2_4 x2_5 x3 x4) == lFrNew_s14 x0 x1 x2_0 x2_1 x2_2 x2_3 x2_4 x2_5 x3 x4
def lFrNew_s16 (x0 : Int) (x1 : Int) (x2_0 : Int) (x2_1 : Int) (x2_2 : Int) (x2_3 : Int) (x2_4 : Int) (x2_5 : Int) : Nat := Int.toNat (Int.ofNat (lFrNew_s9 x0 x1 x2_0 x2_1 x2_2 x2_3 x2_4 x2_5)) - Int.toNat (1 : Int)
def lFrNew_s17 (x0 : Int) (x1 : Int) (x2_0 : Int) (x2_1 : Int) (x2_2 : Int) (x2_3 : Int) (x2_4 : Int) (x2_5 : Int) : Bool := fChkS_0 (fNew_s2 x0) (fNew_s5 x1) (Int.toNat (1 : Int)) (lFrNew_s16 x0 x1 x2_0 x2_1 x2_2 x2_3 x2_4 x2_5) (lFrNew_s8 x0 x1 x2_0 x2_1 x2_2 x2_3 x2_4 x2_5) == (6 : Int)
def lFrNew_s18 (x0 : Int) (x1 : Int) (x2_0 : Int) (x2_1 : Int) (x2_2 : Int) (x2_3 : Int) (x2_4 : Int) (x2_5 : Int) : Bool := fChk_0 (65 : Int) (fNew_s5 x1) (lFrNew_s8 x0 x1 x2_0 x2_1 x2_2 x2_3 x2_4 x2_5) == (6 : Int)
def lFrNew_s19 (x0 : Int) (x1 : Int) (x2_0 : Int) (x2_1 : Int) (x2_2 : Int) (x2_3 : Int) (x2_4 : Int) (x2_5 : Int) : Bool := ByteArray.toList (fText_0 (65 : Int) (fNew_s5 x1) (lFrNew_s8 x0 x1 x2_0 x2_1 x2_2 x2_3 x2_4 x2_5)) == ByteArray.toList (ByteArray.mk (Array.mk []))
def lFrNew_s20 (x0 : Int) (x1 : Int) (x2_0 : Int) (x2_1 : Int) (x2_2 : Int) (x2_3 : Int) (x2_4 : Int) (x2_5 : Int) (x3 : Int) (x4 : Int) : Bool := lFrNew_s14 x0 x1 x2_0 x2_1 x2_2 x2_3 x2_4 x2_5 x3 x4 == (0 : Int)
def lFrNew_0 (x0 : Int) (x1 : Int) (x2_0 : Int) (x2_1 : Int) (x2_2 : Int) (x2_3 : Int) (x2_4 : Int) (x2_5 : Int) (x3 : Int) (x4 : Int) : Bool := bif !fAwake_0 then false else bif lFrNew_s6 x0 x1 x2_0 x2_1 x2_2 x2_3 x2_4 x2_5 then false else bif isX X.r (lFrNew_s7 x0 x1 x2_0 x2_1 x2_2 x2_3 x2_4 x2_5 x3 x4) then lFrNew_l253_T.a2 (V.valOf (lFrNew_s7 x0 x1 x2_0 x2_1 x2_2 x2_3 x2_4 x2_5 x3 x4)) else bif lFrNew_s15 x0 x1 x2_0 x2_1 x2_2 x2_3 x2_4 x2_5 x3 x4 then bif lFrNew_s17 x0 x1 x2_0 x2_1 x2_2 x2_3 x2_4 x2_5 then bif lFrNew_s18 x0 x1 x2_0 x2_1 x2_2 x2_3 x2_4 x2_5 then bif lFrNew_s19 x0 x1 x2_0 x2_1 x2_2 x2_3 x2_4 x2_5 then bif lFrNew_s20 x0 x1 x2_0 x2_1 x2_2 x2_3 x2_4 x2_5 x3 x4 then true else ByteArray.toList (fText_0 (fNew_s2 x0) (fNew_s5 x1) (lFrNew_s12 x0 x1 x2_0 x2_1 x2_2 x2_3 x2_4 x2_5 x3 x4)) == ByteArray.toList (ByteArray.mk (Array.mk [])) else false else false else false else false
def lFrNew_s21 (x0 : Int) (x1 : Int) : Int := bMul64_0 (IntKind.wrap IntKind.u64 (Int.ofNat (1 : Nat))) (IntKind.wrap IntKind.u64 (fNew_s6 x0 x1))
def lFrNew_s22 (x0 : Int) (x1 : Int) (x2_0 : Int) (x2_1 : Int) (x2_2 : Int) (x2_3 : Int) (x2_4 : Int) (x2_5 : Int) : Nat := sRep_s3 (fNew_s6 x0 x1) x2_0 x2_1 x2_2 x2_3 (IntKind.wrap IntKind.i64 x2_4) x2_5
def lFrNew_o (x0 : Int) (x1 : Int) (x2_0 : Int) (x2_1 : Int) (x2_2 : Int) (x2_3 : Int) (x2_4 : Int) (x2_5 : Int) (x3 : Int) (x4 : Int) : List Prop := [decide (fNew_s6 (2 : Int) (1 : Int) < (0 : Int)) = false, (bif decide ((0 : Int) < fAwake_s2) then true else decide ((9223372036854775807 : Int) < fAwake_s3)) = false, (0 : Int) ≤ IntKind.wrap IntKind.i64 fAwake_s3 ∧ IntKind.wrap IntKind.i64 fAwake_s3 = IntKind.wrap IntKind.i64 fAwake_s3 ∧ IntKind.wrap IntKind.i64 fAwake_s3 * Int.ofNat (24 : Nat) ≤ (70368744177664 : Int), lok sRep_l254_st (18446744073709551616 : Nat) (sRep_l254_T.mk (Int.ofNat (sRep_s3 (fNew_s6 (2 : Int) (1 : Int)) (0 : Int) (0 : Int) (0 : Int) (0 : Int) (0 : Int) (0 : Int))) (List.take (0 : Nat) fAwake_s4 ++ List.take (2 : Nat) (sRep_s0 (0 : Int) (0 : Int) (0 : Int) (0 : Int) (0 : Int) (0 : Int)) ++ List.drop (1 : Nat) fAwake_s4)), (!fChk_s0 (fNew_s2 (2 : Int)) (fNew_s5 (1 : Int)) fAwake_s0) = true → lok fChk_l29_st (18446744073709551616 : Nat) (fChk_l29_T.mk (0 : Int) (Int.ofNat (2 : Nat)) (0 : Int) fAwake_s0), (!fText_s0 (fNew_s2 (2 : Int)) (fNew_s5 (1 : Int)) fAwake_s0) = true → lok fText_l61_st (18446744073709551616 : Nat) (fText_l61_T.mk (ByteArray.mk (Array.mk [])) (fNew_s5 (1 : Int)) (0 : Int) (fNew_s2 (2 : Int)) (fNew_s5 (1 : Int)) fAwake_s0 []), fAwake_s1 = true → (!fChk_s0 (fNew_s2 (2 : Int)) (fNew_s5 (1 : Int)) fAwake_s0) = true → lok fChk_l29_st (18446744073709551616 : Nat) (fChk_l29_T.mk (0 : Int) (Int.ofNat (2 : Nat)) (0 : Int) fAwake_s0), (!!fAwake_0) = true → decide (fNew_s6 x0 x1 < (0 : Int)) = false, (!!fAwake_0) = true → (bif decide ((0 : Int) < lFrNew_s21 x0 x1) then true else decide ((9223372036854775807 : Int) < sRep_s1 (fNew_s6 x0 x1))) = false, (!!fAwake_0) = true → (0 : Int) ≤ IntKind.wrap IntKind.i64 (sRep_s1 (fNew_s6 x0 x1)) ∧ IntKind.wrap IntKind.i64 (sRep_s1 (fNew_s6 x0 x1)) = IntKind.wrap IntKind.i64 (sRep_s1 (fNew_s6 x0 x1)) ∧ IntKind.wrap IntKind.i64 (sRep_s1 (fNew_s6 x0 x1)) * Int.ofNat (24 : Nat) ≤ (70368744177664 : Int), (!!fAwake_0) = true → lok sRep_l254_st (18446744073709551616 : Nat) (sRep_l254_T.mk (Int.ofNat (lFrNew_s22 x0 x1 x2_0 x2_1 x2_2 x2_3 x2_4 x2_5)) (List.take (0 : Nat) (sRep_s2 (fNew_s6 x0 x1)) ++ List.take (List.length (sRep_s2 (fNew_s6 x0 x1))) (sRep_s0 x2_0 x2_1 x2_2 x2_3 (IntKind.wrap IntKind.i64 x2_4) x2_5) ++ List.drop ((0 : Nat) + lFrNew_s22 x0 x1 x2_0 x2_1 x2_2 x2_3 x2_4 x2_5) (sRep_s2 (fNew_s6 x0 x1)))), (!!fAwake_0) = true → (fNew_s2 x0 != lFrNew_s1 x0) = false → (fNew_s5 x1 != lFrNew_s3 x1) = false → lFrNew_s5 x0 x1 x2_0 x2_1 x2_2 x2_3 x2_4 x2_5 = false → (!fChk_s0 (fNew_s2 x0) (fNew_s5 x1) (fNew_0 x0 x1 x2_0 x2_1 x2_2 x2_3 (IntKind.wrap IntKind.i64 x2_4) x2_5)) = true → lok fChk_l29_st (18446744073709551616 : Nat) (fChk_l29_T.mk (0 : Int) (Int.ofNat (lFrNew_s4 x0 x1 x2_0 x2_1 x2_2 x2_3 x2_4 x2_5)) (0 : Int) (fNew_0 x0 x1 x2_0 x2_1 x2_2 x2_3 (IntKind.wrap IntKind.i64 x2_4) x2_5)), (!!fAwake_0) = true → (!lFrNew_s6 x0 x1 x2_0 x2_1 x2_2 x2_3 x2_4 x2_5) = true → lok lFrNew_l253_st (18446744073709551616 : Nat) (lFrNew_l253_T.mk x3 x4 false (Int.ofNat (lFrNew_s4 x0 x1 x2_0 x2_1 x2_2 x2_3 x2_4 x2_5)) (0 : Int) x2_0 x2_1 x2_2 x2_3 x2_4 x2_5 (fNew_s2 x0) (fNew_s5 x1) (fNew_0 x0 x1 x2_0 x2_1 x2_2 x2_3 (IntKind.wrap IntKind.i64 x2_4) x2_5)), (!!fAwake_0) = true → (!lFrNew_s6 x0 x1 x2_0 x2_1 x2_2 x2_3 x2_4 x2_5) = true → isX (X.e (0 : Nat)) (lFrNew_s7 x0 x1 x2_0 x2_1 x2_2 x2_3 x2_4 x2_5 x3 x4) = true → lFrNew_s4 x0 x1 x2_0 x2_1 x2_2 x2_3 x2_4 x2_5 ≠ (0 : Nat), (!!fAwake_0) = true → (!lFrNew_s6 x0 x1 x2_0 x2_1 x2_2 x2_3 x2_4 x2_5) = true → isX (X.e (0 : Nat)) (lFrNew_s7 x0 x1 x2_0 x2_1 x2_2 x2_3 x2_4 x2_5 x3 x4) = true → lFrNew_s9 x0 x1 x2_0 x2_1 x2_2 x2_3 x2_4 x2_5 * (24 : Nat) ≤ (70368744177664 : Nat), (!!fAwake_0) = true → (!lFrNew_s6 x0 x1 x2_0 x2_1 x2_2 x2_3 x2_4 x2_5) = true → isX (X.e (0 : Nat)) (lFrNew_s7 x0 x1 x2_0 x2_1 x2_2 x2_3 x2_4 x2_5 x3 x4) = true → Int.ofNat (lFrNew_s9 x0 x1 x2_0 x2_1 x2_2 x2_3 x2_4 x2_5) ≠ (0 : Int), (!!fAwake_0) = true → (!lFrNew_s6 x0 x1 x2_0 x2_1 x2_2 x2_3 x2_4 x2_5) = true → isX (X.e (0 : Nat)) (lFrNew_s7 x0 x1 x2_0 x2_1 x2_2 x2_3 x2_4 x2_5 x3 x4) = true → (0 : Int) ≤ lFrNew_s10 x0 x1 x2_0 x2_1 x2_2 x2_3 x2_4 x2_5 x3 x4 ∧ lFrNew_s10 x0 x1 x2_0 x2_1 x2_2 x2_3 x2_4 x2_5 x3 x4 < Int.ofNat (lFrNew_s9 x0 x1 x2_0 x2_1 x2_2 x2_3 x2_4 x2_5), (!!fAwake_0) = true → (!lFrNew_s6 x0 x1 x2_0 x2_1 x2_2 x2_3 x2_4 x2_5) = true → isX (X.e (0 : Nat)) (lFrNew_s7 x0 x1 x2_0 x2_1 x2_2 x2_3 x2_4 x2_5 x3 x4) = true → lFrNew_s4 x0 x1 x2_0 x2_1 x2_2 x2_3 x2_4 x2_5 ≠ (0 : Nat), (!!fAwake_0) = true → (!lFrNew_s6 x0 x1 x2_0 x2_1 x2_2 x2_3 x2_4 x2_5) = true → isX (X.e (0 : Nat)) (lFrNew_s7 x0 x1 x2_0 x2_1 x2_2 x2_3 x2_4 x2_5 x3 x4) = true → lFrNew_s9 x0 x1 x2_0 x2_1 x2_2 x2_3 x2_4 x2_5 * (24 : Nat) ≤ (70368744177664 : Nat), (!!fAwake_0) = true → (!lFrNew_s6 x0 x1 x2_0 x2_1 x2_2 x2_3 x2_4 x2_5) = true → isX (X.e (0 : Nat)) (lFrNew_s7 x0 x1 x2_0 x2_1 x2_2 x2_3 x2_4 x2_5 x3 x4) = true → (0 : Int) ≤ (1 : Int) ∧ (1 : Int) ≤ Int.ofNat (lFrNew_s9 x0 x1 x2_0 x2_1 x2_2 x2_3 x2_4 x2_5) ∧ Int.ofNat (lFrNew_s9 x0 x1 x2_0 x2_1 x2_2 x2_3 x2_4 x2_5) ≤ Int.ofNat (lFrNew_s9 x0 x1 x2_0 x2_1 x2_2 x2_3 x2_4 x2_5), (!!fAwake_0) = true → (!lFrNew_s6 x0 x1 x2_0 x2_1 x2_2 x2_3 x2_4 x2_5) = true → isX (X.e (0 : Nat)) (lFrNew_s7 x0 x1 x2_0 x2_1 x2_2 x2_3 x2_4 x2_5 x3 x4) = true → lFrNew_s4 x0 x1 x2_0 x2_1 x2_2 x2_3 x2_4 x2_5 ≠ (0 : Nat), (!!fAwake_0) = true → (!lFrNew_s6 x0 x1 x2_0 x2_1 x2_2 x2_3 x2_4 x2_5) = true → isX (X.e (0 : Nat)) (lFrNew_s7 x0 x1 x2_0 x2_1 x2_2 x2_3 x2_4 x2_5 x3 x4) = true → lFrNew_s9 x0 x1 x2_0 x2_1 x2_2 x2_3 x2_4 x2_5 * (24 : Nat) ≤ (70368744177664 : Nat), (!!fAwake_0) = true → (!lFrNew_s6 x0 x1 x2_0 x2_1 x2_2 x2_3 x2_4 x2_5) = true → isX (X.e (0 : Nat)) (lFrNew_s7 x0 x1 x2_0 x2_1 x2_2 x2_3 x2_4 x2_5 x3 x4) = true → (!fChk_s0 (fNew_s2 x0) (fNew_s5 x1) (lFrNew_s12 x0 x1 x2_0 x2_1 x2_2 x2_3 x2_4 x2_5 x3 x4)) = true → lok fChk_l29_st (18446744073709551616 : Nat) (fChk_l29_T.mk (0 : Int) (Int.ofNat (List.length (lFrNew_s12 x0 x1 x2_0 x2_1 x2_2 x2_3 x2_4 x2_5 x3 x4))) (0 : Int) (lFrNew_s12 x0 x1 x2_0 x2_1 x2_2 x2_3 x2_4 x2_5 x3 x4)), (!!fAwake_0) = true → (!lFrNew_s6 x0 x1 x2_0 x2_1 x2_2 x2_3 x2_4 x2_5) = true → isX (X.e (0 : Nat)) (lFrNew_s7 x0 x1 x2_0 x2_1 x2_2 x2_3 x2_4 x2_5 x3 x4) = true → lFrNew_s15 x0 x1 x2_0 x2_1 x2_2 x2_3 x2_4 x2_5 x3 x4 = true → (!fChkS_s0 (fNew_s2 x0) (fNew_s5 x1) (lFrNew_s16 x0 x1 x2_0 x2_1 x2_2 x2_3 x2_4 x2_5)) = true → lok fChkS_l29_st (18446744073709551616 : Nat) (fChkS_l29_T.mk (0 : Int) (Int.toNat (1 : Int)) (lFrNew_s16 x0 x1 x2_0 x2_1 x2_2 x2_3 x2_4 x2_5) (Int.ofNat (lFrNew_s16 x0 x1 x2_0 x2_1 x2_2 x2_3 x2_4 x2_5)) (0 : Int) (lFrNew_s8 x0 x1 x2_0 x2_1 x2_2 x2_3 x2_4 x2_5)), (!!fAwake_0) = true → (!lFrNew_s6 x0 x1 x2_0 x2_1 x2_2 x2_3 x2_4 x2_5) = true → isX (X.e (0 : Nat)) (lFrNew_s7 x0 x1 x2_0 x2_1 x2_2 x2_3 x2_4 x2_5 x3 x4) = true → lFrNew_s15 x0 x1 x2_0 x2_1 x2_2 x2_3 x2_4 x2_5 x3 x4 = true → lFrNew_s17 x0 x1 x2_0 x2_1 x2_2 x2_3 x2_4 x2_5 = true → (!fChk_s0 (65 : Int) (fNew_s5 x1) (lFrNew_s8 x0 x1 x2_0 x2_1 x2_2 x2_3 x2_4 x2_5)) = true → lok fChk_l29_st (18446744073709551616 : Nat) (fChk_l29_T.mk (0 : Int) (Int.ofNat (lFrNew_s9 x0 x1 x2_0 x2_1 x2_2 x2_3 x2_4 x2_5)) (0 : Int) (lFrNew_s8 x0 x1 x2_0 x2_1 x2_2 x2_3 x2_4 x2_5)), (!!fAwake_0) = true → (!lFrNew_s6 x0 x1 x2_0 x2_1 x2_2 x2_3 x2_4 x2_5) = true → isX (X.e (0 : Nat)) (lFrNew_s7 x0 x1 x2_0 x2_1 x2_2 x2_3 x2_4 x2_5 x3 x4) = true → lFrNew_s15 x0 x1 x2_0 x2_1 x2_2 x2_3 x2_4 x2_5 x3 x4 = true → lFrNew_s17 x0 x1 x2_0 x2_1 x2_2 x2_3 x2_4 x2_5 = true → lFrNew_s18 x0 x1 x2_0 x2_1 x2_2 x2_3 x2_4 x2_5 = true → (!fChk_s0 (65 : Int) (fNew_s5 x1) (lFrNew_s8 x0 x1 x2_0 x2_1 x2_2 x2_3 x2_4 x2_5)) = true → lok fChk_l29_st (18446744073709551616 : Nat) (fChk_l29_T.mk (0 : Int) (Int.ofNat (lFrNew_s9 x0 x1 x2_0 x2_1 x2_2 x2_3 x2_4 x2_5)) (0 : Int) (lFrNew_s8 x0 x1 x2_0 x2_1 x2_2 x2_3 x2_4 x2_5)), (!!fAwake_0) = true → (!lFrNew_s6 x0 x1 x2_0 x2_1 x2_2 x2_3 x2_4 x2_5) = true → isX (X.e (0 : Nat)) (lFrNew_s7 x0 x1 x2_0 x2_1 x2_2 x2_3 x2_4 x2_5 x3 x4) = true → lFrNew_s15 x0 x1 x2_0 x2_1 x2_2 x2_3 x2_4 x2_5 x3 x4 = true → lFrNew_s17 x0 x1 x2_0 x2_1 x2_2 x2_3 x2_4 x2_5 = true → lFrNew_s18 x0 x1 x2_0 x2_1 x2_2 x2_3 x2_4 x2_5 = true → (!fText_s0 (65 : Int) (fNew_s5 x1) (lFrNew_s8 x0 x1 x2_0 x2_1 x2_2 x2_3 x2_4 x2_5)) = true → lok fText_l61_st (18446744073709551616 : Nat) (fText_l61_T.mk (ByteArray.mk (Array.mk [])) (fNew_s5 x1) (0 : Int) (65 : Int) (fNew_s5 x1) (lFrNew_s8 x0 x1 x2_0 x2_1 x2_2 x2_3 x2_4 x2_5) []), (!!fAwake_0) = true → (!lFrNew_s6 x0 x1 x2_0 x2_1 x2_2 x2_3 x2_4 x2_5) = true → isX (X.e (0 : Nat)) (lFrNew_s7 x0 x1 x2_0 x2_1 x2_2 x2_3 x2_4 x2_5 x3 x4) = true → lFrNew_s15 x0 x1 x2_0 x2_1 x2_2 x2_3 x2_4 x2_5 x3 x4 = true → lFrNew_s17 x0 x1 x2_0 x2_1 x2_2 x2_3 x2_4 x2_5 = true → lFrNew_s18 x0 x1 x2_0 x2_1 x2_2 x2_3 x2_4 x2_5 = true → lFrNew_s19 x0 x1 x2_0 x2_1 x2_2 x2_3 x2_4 x2_5 = true → lFrNew_s20 x0 x1 x2_0 x2_1 x2_2 x2_3 x2_4 x2_5 x3 x4 = false → (!fChk_s0 (fNew_s2 x0) (fNew_s5 x1) (lFrNew_s12 x0 x1 x2_0 x2_1 x2_2 x2_3 x2_4 x2_5 x3 x4)) = true → lok fChk_l29_st (18446744073709551616 : Nat) (fChk_l29_T.mk (0 : Int) (Int.ofNat (List.length (lFrNew_s12 x0 x1 x2_0 x2_1 x2_2 x2_3 x2_4 x2_5 x3 x4))) (0 : Int) (lFrNew_s12 x0 x1 x2_0 x2_1 x2_2 x2_3 x2_4 x2_5 x3 x4)), (!!fAwake_0) = true → (!lFrNew_s6 x0 x1 x2_0 x2_1 x2_2 x2_3 x2_4 x2_5) = true → isX (X.e (0 : Nat)) (lFrNew_s7 x0 x1 x2_0 x2_1 x2_2 x2_3 x2_4 x2_5 x3 x4) = true → lFrNew_s15 x0 x1 x2_0 x2_1 x2_2 x2_3 x2_4 x2_5 x3 x4 = true → lFrNew_s17 x0 x1 x2_0 x2_1 x2_2 x2_3 x2_4 x2_5 = true → lFrNew_s18 x0 x1 x2_0 x2_1 x2_2 x2_3 x2_4 x2_5 = true → lFrNew_s19 x0 x1 x2_0 x2_1 x2_2 x2_3 x2_4 x2_5 = true → lFrNew_s20 x0 x1 x2_0 x2_1 x2_2 x2_3 x2_4 x2_5 x3 x4 = false → (!fText_s0 (fNew_s2 x0) (fNew_s5 x1) (lFrNew_s12 x0 x1 x2_0 x2_1 x2_2 x2_3 x2_4 x2_5 x3 x4)) = true → lok fText_l61_st (18446744073709551616 : Nat) (fText_l61_T.mk (ByteArray.mk (Array.mk [])) (fNew_s5 x1) (0 : Int) (fNew_s2 x0) (fNew_s5 x1) (lFrNew_s12 x0 x1 x2_0 x2_1 x2_2 x2_3 x2_4 x2_5 x3 x4) [])]
theorem lFrNew_p (x0 : Int) (x1 : Int) (x2_0 : Int) (x2_1 : Int) (x2_2 : Int) (x2_3 : Int) (x2_4 : Int) (x2_5 : Int) (x3 : Int) (x4 : Int) : evG Try.prog tabFd3 2000 4 [0, 1, 2, 3, 4, 7, 10, 11, 12, 13, 15, 16, 17, 18, 19, 21, 58, 60, 61, 62, 63, 69, 89] [(253, lFrNew_l253_sum)] [] [.a (.int true .i64 x0), .a (.int true .i64 x1), .g [.int true .u8 x2_0, .int true .u8 x2_1, .int true .u8 x2_2, .int true .u8 x2_3, .int true .u16 x2_4, .int true .u8 x2_5], .a (.int true .i64 x3), .a (.int true .u8 x4)] [] = some (lFrNew_o x0 x1 x2_0 x2_1 x2_2 x2_3 x2_4 x2_5 x3 x4, LV.a (At.bool true (lFrNew_0 x0 x1 x2_0 x2_1 x2_2 x2_3 x2_4 x2_5 x3 x4)), []) := by kernel_rfl
def lFrNew_c : Con
  | [.a (.int true .i64 x0), .a (.int true .i64 x1), .g [.int true .u8 x2_0, .int true .u8 x2_1, .int true .u8 x2_2, .int true .u8 x2_3, .int true .u16 x2_4, .int true .u8 x2_5], .a (.int true .i64 x3), .a (.int true .u8 x4)], [] => some (lFrNew_o x0 x1 x2_0 x2_1 x2_2 x2_3 x2_4 x2_5 x3 x4, LV.a (At.bool true (lFrNew_0 x0 x1 x2_0 x2_1 x2_2 x2_3 x2_4 x2_5 x3 x4)), [])
  | _, _ => none
theorem lFrNew_ok : ConOK Try.prog 4 (normC lFrNew_c) := normC_ok (by
  intro args bs obs lv out h ho φ vs w may ha hM
  unfold lFrNew_c at h
  split at h
  · simp only [Option.some.injEq, Prod.mk.injEq] at h
    obtain ⟨rfl, rfl, rfl⟩ := h
    rename_i x0 x1 x2_0 x2_1 x2_2 x2_3 x2_4 x2_5 x3 x4
    exact evG_okL' tabFd3_ok follows (LOK_cons (show subs (bodyOf Try.prog 4) 1 253 = [.block (blockOf (subs (bodyOf Try.prog 4) 1 253)) (.loop lFrNew_l253_code)] from by kernel_rfl) lFrNew_l253_sok (LOK_nil')) _ _ _ _ _ (lFrNew_p x0 x1 x2_0 x2_1 x2_2 x2_3 x2_4 x2_5 x3 x4) ho φ vs w may ha hM
  · cases h)
theorem lFrNew_en : Enters Try.prog 4 := fun args => by kernel_rfl
-- 10356 501 51 ms

def tabFd4 : Tab := (4, normC lFrNew_c) :: tabFd3
theorem tabFd4_ok : TOK Try.prog tabFd4 := TOK.cons lFrNew_en lFrNew_ok (tabFd3_ok)

end Go.Proofs.Ytcdejlgophpdjaa
end

section
namespace Go.Proofs.Ytcdejlgophpdjaa
open Go Go.RowKit Go.Proofs.Ytcdejlgophpdjaa.V
set_option linter.unusedVariables false

/-! azulejo/frame.Same -/
def fSame_s0 (w0 : Int) (h0 : Int) (w1 : Int) (h1 : Int) : Bool := w0 == w1 && h0 == h1
def fSame_0 (w0 : Int) (h0 : Int) (w1 : Int) (h1 : Int) (l : List (List Int)) (m : List (List Int)) : Bool := bif fSame_s0 w0 h0 w1 h1 then sEqual_0 l m else false
def fSame_o (w0 : Int) (h0 : Int) (w1 : Int) (h1 : Int) (r0 : Bool) (l : List (List Int)) (r1 : Bool) (m : List (List Int)) : List Prop := [fSame_s0 w0 h0 w1 h1 = true → (!sEqual_s0 l m) = true → lok sEqual_l29_st (18446744073709551616 : Nat) (sEqual_l29_T.mk false (Int.ofNat (List.length l)) (0 : Int) l m)]
theorem fSame_p (w0 : Int) (h0 : Int) (w1 : Int) (h1 : Int) (r0 : Bool) (l : List (List Int)) (r1 : Bool) (m : List (List Int)) : evG Try.prog tabFd4 2000 69 [0, 1, 2, 3, 4] [] [] [.g [.int true .i64 w0, .int true .i64 h0, .vec 0 0 6], .g [.int true .i64 w1, .int true .i64 h1, .vec 1 0 6]] [⟨⟨0, 0, r0, some ⟨0, [.int .u8, .int .u8, .int .u8, .int .u8, .int .i64, .int .u8], l, none⟩⟩, []⟩, ⟨⟨0, 0, r1, some ⟨0, [.int .u8, .int .u8, .int .u8, .int .u8, .int .i64, .int .u8], m, none⟩⟩, []⟩] = some (fSame_o w0 h0 w1 h1 r0 l r1 m, LV.a (At.bool true (fSame_0 w0 h0 w1 h1 l m)), [none, none]) := by kernel_rfl
def fSame_c : Con
  | [.g [.int true .i64 w0, .int true .i64 h0, .vec 0 0 6], .g [.int true .i64 w1, .int true .i64 h1, .vec 1 0 6]], [⟨⟨0, 0, r0, some ⟨0, [.int .u8, .int .u8, .int .u8, .int .u8, .int .i64, .int .u8], l, none⟩⟩, []⟩, ⟨⟨0, 0, r1, some ⟨0, [.int .u8, .int .u8, .int .u8, .int .u8, .int .i64, .int .u8], m, none⟩⟩, []⟩] => some (fSame_o w0 h0 w1 h1 r0 l r1 m, LV.a (At.bool true (fSame_0 w0 h0 w1 h1 l m)), [none, none])
  | _, _ => none
theorem fSame_ok : ConOK Try.prog 69 (normC fSame_c) := normC_ok (by
  intro args bs obs lv out h ho φ vs w may ha hM
  unfold fSame_c at h
  split at h
  · simp only [Option.some.injEq, Prod.mk.injEq] at h
    obtain ⟨rfl, rfl, rfl⟩ := h
    rename_i w0 h0 w1 h1 r0 l r1 m
    exact evG_ok tabFd4_ok follows _ _ _ _ _ (fSame_p w0 h0 w1 h1 r0 l r1 m) ho φ vs w may ha hM
  · cases h)
theorem fSame_en : Enters Try.prog 69 := fun args => by kernel_rfl
-- 320 9 6 ms

/-! azulejo/frame.SameIn -/
noncomputable def fSameIn_l841_code : Go.Code := loopOf (subs (bodyOf Try.prog 70) 1 841)
structure fSameIn_l841_T where
  a0 : Bool
  a1 : Int
  a2 : Int
  a3 : Bool
  a4 : Int
  a5 : Int
  a6 : List (List Int)
  a7 : Int
  a8 : Int
  a9 : List (List Int)
  a10 : Int
  a11 : Int
  a12 : Int
  a13 : Int
  deriving Inhabited
def fSameIn_l841_hd (v : fSameIn_l841_T) : HS := HS.mk [(nat_lit 3, LV.a (At.ptr (nat_lit 0) (nat_lit 0))), (nat_lit 4, LV.a (At.ptr (nat_lit 2) (nat_lit 0))), (nat_lit 5, LV.a (At.ptr (nat_lit 4) (nat_lit 0))), (nat_lit 6, LV.a (At.bool true (fSameIn_l841_T.a0 v))), (nat_lit 7, LV.a (At.int true IntKind.i64 (fSameIn_l841_T.a1 v))), (nat_lit 8, LV.a (At.int true IntKind.i64 (fSameIn_l841_T.a2 v))), (nat_lit 16, LV.a (At.bool true (fSameIn_l841_T.a3 v)))] [BC.mk (Hd.mk (nat_lit 0) (nat_lit 3) true none) [some (At.int true IntKind.i64 (fSameIn_l841_T.a4 v)), some (At.int true IntKind.i64 (fSameIn_l841_T.a5 v)), some (At.vec (nat_lit 1) (nat_lit 0) (nat_lit 6))], BC.mk (Hd.mk (nat_lit 0) (nat_lit 0) true (some (Rw.mk (nat_lit 0) [Kd.int IntKind.u8, Kd.int IntKind.u8, Kd.int IntKind.u8, Kd.int IntKind.u8, Kd.int IntKind.i64, Kd.int IntKind.u8] (fSameIn_l841_T.a6 v) none))) [], BC.mk (Hd.mk (nat_lit 0) (nat_lit 3) true none) [some (At.int true IntKind.i64 (fSameIn_l841_T.a7 v)), some (At.int true IntKind.i64 (fSameIn_l841_T.a8 v)), some (At.vec (nat_lit 3) (nat_lit 0) (nat_lit 6))], BC.mk (Hd.mk (nat_lit 0) (nat_lit 0) true (some (Rw.mk (nat_lit 0) [Kd.int IntKind.u8, Kd.int IntKind.u8, Kd.int IntKind.u8, Kd.int IntKind.u8, Kd.int IntKind.i64, Kd.int IntKind.u8] (fSameIn_l841_T.a9 v) none))) [], BC.mk (Hd.mk (nat_lit 0) (nat_lit 4) true none) [some (At.int true IntKind.i64 (fSameIn_l841_T.a10 v)), some (At.int true IntKind.i64 (fSameIn_l841_T.a11 v)), some (At.int true IntKind.i64 (fSameIn_l841_T.a12 v)), some (At.int true IntKind.i64 (fSameIn_l841_T.a13 v))]]
def fSameIn_l841_s0 (v : fSameIn_l841_T) : Int := if (64 : Int) < fSameIn_l841_T.a12 v then (64 : Int) else fSameIn_l841_T.a12 v
def fSameIn_l841_s1 (v : fSameIn_l841_T) : Bool := decide (fSameIn_l841_T.a2 v < fSameIn_l841_s0 v)
def fSameIn_l841_s2 (v : fSameIn_l841_T) : Bool := !(fAt_0 (fSameIn_l841_T.a4 v) (fSameIn_l841_T.a5 v) (fSameIn_l841_T.a2 v) (fSameIn_l841_T.a1 v) (fSameIn_l841_T.a6 v) == fAt_0 (fSameIn_l841_T.a7 v) (fSameIn_l841_T.a8 v) (fSameIn_l841_T.a2 v) (fSameIn_l841_T.a1 v) (fSameIn_l841_T.a9 v) && (fAt_1 (fSameIn_l841_T.a4 v) (fSameIn_l841_T.a5 v) (fSameIn_l841_T.a2 v) (fSameIn_l841_T.a1 v) (fSameIn_l841_T.a6 v) == fAt_1 (fSameIn_l841_T.a7 v) (fSameIn_l841_T.a8 v) (fSameIn_l841_T.a2 v) (fSameIn_l841_T.a1 v) (fSameIn_l841_T.a9 v) && (fAt_2 (fSameIn_l841_T.a4 v) (fSameIn_l841_T.a5 v) (fSameIn_l841_T.a2 v) (fSameIn_l841_T.a1 v) (fSameIn_l841_T.a6 v) == fAt_2 (fSameIn_l841_T.a7 v) (fSameIn_l841_T.a8 v) (fSameIn_l841_T.a2 v) (fSameIn_l841_T.a1 v) (fSameIn_l841_T.a9 v) && fAt_3 (fSameIn_l841_T.a4 v) (fSameIn_l841_T.a5 v) (fSameIn_l841_T.a2 v) (fSameIn_l841_T.a1 v) (fSameIn_l841_T.a6 v) == fAt_3 (fSameIn_l841_T.a7 v) (fSameIn_l841_T.a8 v) (fSameIn_l841_T.a2 v) (fSameIn_l841_T.a1 v) (fSameIn_l841_T.a9 v))) && (fAt_4 (fSameIn_l841_T.a4 v) (fSameIn_l841_T.a5 v) (fSameIn_l841_T.a2 v) (fSameIn_l841_T.a1 v) (fSameIn_l841_T.a6 v) == fAt_4 (fSameIn_l841_T.a7 v) (fSameIn_l841_T.a8 v) (fSameIn_l841_T.a2 v) (fSameIn_l841_T.a1 v) (fSameIn_l841_T.a9 v) && fAt_5 (fSameIn_l841_T.a4 v) (fSameIn_l841_T.a5 v) (fSameIn_l841_T.a2 v) (fSameIn_l841_T.a1 v) (fSameIn_l841_T.a6 v) == fAt_5 (fSameIn_l841_T.a7 v) (fSameIn_l841_T.a8 v) (fSameIn_l841_T.a2 v) (fSameIn_l841_T.a1 v) (fSameIn_l841_T.a9 v)))
def fSameIn_l841_st (v : fSameIn_l841_T) : List Prop × List (X × Bool × fSameIn_l841_T) := ([fSameIn_l841_s1 v = true → (!fAt_s1 (fSameIn_l841_T.a4 v) (fSameIn_l841_T.a5 v) (fSameIn_l841_T.a2 v) (fSameIn_l841_T.a1 v) (fSameIn_l841_T.a6 v)) = true → (0 : Int) ≤ fAt_s0 (fSameIn_l841_T.a4 v) (fSameIn_l841_T.a2 v) (fSameIn_l841_T.a1 v) ∧ fAt_s0 (fSameIn_l841_T.a4 v) (fSameIn_l841_T.a2 v) (fSameIn_l841_T.a1 v) < Int.ofNat (List.length (fSameIn_l841_T.a6 v)), fSameIn_l841_s1 v = true → (!fAt_s1 (fSameIn_l841_T.a7 v) (fSameIn_l841_T.a8 v) (fSameIn_l841_T.a2 v) (fSameIn_l841_T.a1 v) (fSameIn_l841_T.a9 v)) = true → (0 : Int) ≤ fAt_s0 (fSameIn_l841_T.a7 v) (fSameIn_l841_T.a2 v) (fSameIn_l841_T.a1 v) ∧ fAt_s0 (fSameIn_l841_T.a7 v) (fSameIn_l841_T.a2 v) (fSameIn_l841_T.a1 v) < Int.ofNat (List.length (fSameIn_l841_T.a9 v))], [(X.e (2 : Nat), !fSameIn_l841_s1 v, fSameIn_l841_T.mk (fSameIn_l841_T.a0 v) (fSameIn_l841_T.a1 v) (fSameIn_l841_T.a2 v) (fSameIn_l841_T.a3 v) (fSameIn_l841_T.a4 v) (fSameIn_l841_T.a5 v) (fSameIn_l841_T.a6 v) (fSameIn_l841_T.a7 v) (fSameIn_l841_T.a8 v) (fSameIn_l841_T.a9 v) (fSameIn_l841_T.a10 v) (fSameIn_l841_T.a11 v) (fSameIn_l841_T.a12 v) (fSameIn_l841_T.a13 v)), (X.r, fSameIn_l841_s1 v && fSameIn_l841_s2 v, fSameIn_l841_T.mk (false) (fSameIn_l841_T.a1 v) (fSameIn_l841_T.a2 v) (fSameIn_l841_T.a3 v) (fSameIn_l841_T.a4 v) (fSameIn_l841_T.a5 v) (fSameIn_l841_T.a6 v) (fSameIn_l841_T.a7 v) (fSameIn_l841_T.a8 v) (fSameIn_l841_T.a9 v) (fSameIn_l841_T.a10 v) (fSameIn_l841_T.a11 v) (fSameIn_l841_T.a12 v) (fSameIn_l841_T.a13 v)), (X.n, fSameIn_l841_s1 v && !fSameIn_l841_s2 v, fSameIn_l841_T.mk (fSameIn_l841_T.a0 v) (fSameIn_l841_T.a1 v) (IntKind.wrap IntKind.i64 (fSameIn_l841_T.a2 v + (1 : Int))) (fSameIn_l841_T.a3 v) (fSameIn_l841_T.a4 v) (fSameIn_l841_T.a5 v) (fSameIn_l841_T.a6 v) (fSameIn_l841_T.a7 v) (fSameIn_l841_T.a8 v) (fSameIn_l841_T.a9 v) (fSameIn_l841_T.a10 v) (fSameIn_l841_T.a11 v) (fSameIn_l841_T.a12 v) (fSameIn_l841_T.a13 v))])
def fSameIn_l841_rd : HS → Option fSameIn_l841_T
  | HS.mk [(3, LV.a (At.ptr 0 0)), (4, LV.a (At.ptr 2 0)), (5, LV.a (At.ptr 4 0)), (6, LV.a (At.bool true a0)), (7, LV.a (At.int true IntKind.i64 a1)), (8, LV.a (At.int true IntKind.i64 a2)), (16, LV.a (At.bool true a3))] [BC.mk (Hd.mk 0 3 true none) [some (At.int true IntKind.i64 a4), some (At.int true IntKind.i64 a5), some (At.vec 1 0 6)], BC.mk (Hd.mk 0 0 true (some (Rw.mk 0 [Kd.int IntKind.u8, Kd.int IntKind.u8, Kd.int IntKind.u8, Kd.int IntKind.u8, Kd.int IntKind.i64, Kd.int IntKind.u8] a6 none))) [], BC.mk (Hd.mk 0 3 true none) [some (At.int true IntKind.i64 a7), some (At.int true IntKind.i64 a8), some (At.vec 3 0 6)], BC.mk (Hd.mk 0 0 true (some (Rw.mk 0 [Kd.int IntKind.u8, Kd.int IntKind.u8, Kd.int IntKind.u8, Kd.int IntKind.u8, Kd.int IntKind.i64, Kd.int IntKind.u8] a9 none))) [], BC.mk (Hd.mk 0 4 true none) [some (At.int true IntKind.i64 a10), some (At.int true IntKind.i64 a11), some (At.int true IntKind.i64 a12), some (At.int true IntKind.i64 a13)]] => some (fSameIn_l841_T.mk a0 a1 a2 a3 a4 a5 a6 a7 a8 a9 a10 a11 a12 a13)
  | _ => none
def fSameIn_l841_sum : V.Sum := loopS fSameIn_l841_hd fSameIn_l841_rd fSameIn_l841_st 18446744073709551616 [X.e (2 : Nat), X.r] [0, 1, 2, 3, 4, 5, 6, 7, 8, 16, 26, 37] [3, 4, 5, 6, 7, 8, 16] [] [] [] 2
theorem fSameIn_l841_E : ∀ v, bodyF Try.prog tabFd4 (ntOf Try.prog 70) [0, 1, 2, 3, 4, 5, 6, 7, 8, 16, 26, 37] [3, 4, 5, 6, 7, 8, 16] [] 2000 [] [] fSameIn_l841_code 3364 (fSameIn_l841_hd v) = some ((fSameIn_l841_st v).1, (fSameIn_l841_st v).2.map fun q => (q.1, q.2.1, fSameIn_l841_hd q.2.2)) := fun v => by kernel_rfl
set_option maxHeartbeats 2000000 in
theorem fSameIn_l841_R : ∀ h v, fSameIn_l841_rd h = some v → h = fSameIn_l841_hd v := by
  intro h v e
  unfold fSameIn_l841_rd at e
  split at e
  · simp only [Option.some.injEq] at e; subst e; rfl
  · cases e
set_option maxRecDepth 100000 in
theorem fSameIn_l841_sok : SumOK Try.prog (ntOf Try.prog 70) [0, 1, 2, 3, 4, 5, 6, 7, 8, 16, 26, 37] (.block (blockOf (subs (bodyOf Try.prog 70) 1 841)) (.loop fSameIn_l841_code)) fSameIn_l841_sum := loopS_ok tabFd4_ok follows fSameIn_l841_E fSameIn_l841_R (fun v => by kernel_rfl) (LOK_of _ _ (LOK_nil'))
noncomputable def fSameIn_l13_code : Go.Code := loopOf (subs (bodyOf Try.prog 70) 1 13)
structure fSameIn_l13_T where
  a0 : Bool
  a1 : Int
  a2 : Int
  a3 : Int
  a4 : List (List Int)
  a5 : Int
  a6 : Int
  a7 : List (List Int)
  a8 : Int
  a9 : Int
  a10 : Int
  a11 : Int
  deriving Inhabited
def fSameIn_l13_hd (v : fSameIn_l13_T) : HS := HS.mk [(nat_lit 3, LV.a (At.ptr (nat_lit 0) (nat_lit 0))), (nat_lit 4, LV.a (At.ptr (nat_lit 2) (nat_lit 0))), (nat_lit 5, LV.a (At.ptr (nat_lit 4) (nat_lit 0))), (nat_lit 6, LV.a (At.bool true (fSameIn_l13_T.a0 v))), (nat_lit 7, LV.a (At.int true IntKind.i64 (fSameIn_l13_T.a1 v)))] [BC.mk (Hd.mk (nat_lit 0) (nat_lit 3) true none) [some (At.int true IntKind.i64 (fSameIn_l13_T.a2 v)), some (At.int true IntKind.i64 (fSameIn_l13_T.a3 v)), some (At.vec (nat_lit 1) (nat_lit 0) (nat_lit 6))], BC.mk (Hd.mk (nat_lit 0) (nat_lit 0) true (some (Rw.mk (nat_lit 0) [Kd.int IntKind.u8, Kd.int IntKind.u8, Kd.int IntKind.u8, Kd.int IntKind.u8, Kd.int IntKind.i64, Kd.int IntKind.u8] (fSameIn_l13_T.a4 v) none))) [], BC.mk (Hd.mk (nat_lit 0) (nat_lit 3) true none) [some (At.int true IntKind.i64 (fSameIn_l13_T.a5 v)), some (At.int true IntKind.i64 (fSameIn_l13_T.a6 v)), some (At.vec (nat_lit 3) (nat_lit 0) (nat_lit 6))], BC.mk (Hd.mk (nat_lit 0) (nat_lit 0) true (some (Rw.mk (nat_lit 0) [Kd.int IntKind.u8, Kd.int IntKind.u8, Kd.int IntKind.u8, Kd.int IntKind.u8, Kd.int IntKind.i64, Kd.int IntKind.u8] (fSameIn_l13_T.a7 v) none))) [], BC.mk (Hd.mk (nat_lit 0) (nat_lit 4) true none) [some (At.int true IntKind.i64 (fSameIn_l13_T.a8 v)), some (At.int true IntKind.i64 (fSameIn_l13_T.a9 v)), some (At.int true IntKind.i64 (fSameIn_l13_T.a10 v)), some (At.int true IntKind.i64 (fSameIn_l13_T.a11 v))]]
def fSameIn_l13_s0 (v : fSameIn_l13_T) : Int := if (64 : Int) < fSameIn_l13_T.a11 v then (64 : Int) else fSameIn_l13_T.a11 v
def fSameIn_l13_s1 (v : fSameIn_l13_T) : Bool := decide (fSameIn_l13_T.a1 v < fSameIn_l13_s0 v)
def fSameIn_l13_s2 (v : fSameIn_l13_T) : Option (X × fSameIn_l841_T) := lrun fSameIn_l841_st (18446744073709551616 : Nat) (fSameIn_l841_T.mk (fSameIn_l13_T.a0 v) (fSameIn_l13_T.a1 v) (if fSameIn_l13_T.a8 v < (0 : Int) then (0 : Int) else fSameIn_l13_T.a8 v) (fSameIn_l13_s1 v) (fSameIn_l13_T.a2 v) (fSameIn_l13_T.a3 v) (fSameIn_l13_T.a4 v) (fSameIn_l13_T.a5 v) (fSameIn_l13_T.a6 v) (fSameIn_l13_T.a7 v) (fSameIn_l13_T.a8 v) (fSameIn_l13_T.a9 v) (fSameIn_l13_T.a10 v) (fSameIn_l13_T.a11 v))
def fSameIn_l13_st (v : fSameIn_l13_T) : List Prop × List (X × Bool × fSameIn_l13_T) := ([fSameIn_l13_s1 v = true → lok fSameIn_l841_st (18446744073709551616 : Nat) (fSameIn_l841_T.mk (fSameIn_l13_T.a0 v) (fSameIn_l13_T.a1 v) (if fSameIn_l13_T.a8 v < (0 : Int) then (0 : Int) else fSameIn_l13_T.a8 v) (fSameIn_l13_s1 v) (fSameIn_l13_T.a2 v) (fSameIn_l13_T.a3 v) (fSameIn_l13_T.a4 v) (fSameIn_l13_T.a5 v) (fSameIn_l13_T.a6 v) (fSameIn_l13_T.a7 v) (fSameIn_l13_T.a8 v) (fSameIn_l13_T.a9 v) (fSameIn_l13_T.a10 v) (fSameIn_l13_T.a11 v))], [(X.e (0 : Nat), !fSameIn_l13_s1 v, fSameIn_l13_T.mk (fSameIn_l13_T.a0 v) (fSameIn_l13_T.a1 v) (fSameIn_l13_T.a2 v) (fSameIn_l13_T.a3 v) (fSameIn_l13_T.a4 v) (fSameIn_l13_T.a5 v) (fSameIn_l13_T.a6 v) (fSameIn_l13_T.a7 v) (fSameIn_l13_T.a8 v) (fSameIn_l13_T.a9 v) (fSameIn_l13_T.a10 v) (fSameIn_l13_T.a11 v)), (X.r, fSameIn_l13_s1 v && isX X.r (fSameIn_l13_s2 v), fSameIn_l13_T.mk (fSameIn_l841_T.a0 (V.valOf (fSameIn_l13_s2 v))) (fSameIn_l841_T.a1 (V.valOf (fSameIn_l13_s2 v))) (fSameIn_l13_T.a2 v) (fSameIn_l13_T.a3 v) (fSameIn_l13_T.a4 v) (fSameIn_l13_T.a5 v) (fSameIn_l13_T.a6 v) (fSameIn_l13_T.a7 v) (fSameIn_l13_T.a8 v) (fSameIn_l13_T.a9 v) (fSameIn_l13_T.a10 v) (fSameIn_l13_T.a11 v)), (X.n, fSameIn_l13_s1 v && isX (X.e (2 : Nat)) (fSameIn_l13_s2 v), fSameIn_l13_T.mk (fSameIn_l841_T.a0 (V.valOf (fSameIn_l13_s2 v))) (IntKind.wrap IntKind.i64 (fSameIn_l841_T.a1 (V.valOf (fSameIn_l13_s2 v)) + (1 : Int))) (fSameIn_l13_T.a2 v) (fSameIn_l13_T.a3 v) (fSameIn_l13_T.a4 v) (fSameIn_l13_T.a5 v) (fSameIn_l13_T.a6 v) (fSameIn_l13_T.a7 v) (fSameIn_l13_T.a8 v) (fSameIn_l13_T.a9 v) (fSameIn_l13_T.a10 v) (fSameIn_l13_T.a11 v))])
def fSameIn_l13_rd : HS → Option fSameIn_l13_T
  | HS.mk [(3, LV.a (At.ptr 0 0)), (4, LV.a (At.ptr 2 0)), (5, LV.a (At.ptr 4 0)), (6, LV.a (At.bool true a0)), (7, LV.a (At.int true IntKind.i64 a1))] [BC.mk (Hd.mk 0 3 true none) [some (At.int true IntKind.i64 a2), some (At.int true IntKind.i64 a3), some (At.vec 1 0 6)], BC.mk (Hd.mk 0 0 true (some (Rw.mk 0 [Kd.int IntKind.u8, Kd.int IntKind.u8, Kd.int IntKind.u8, Kd.int IntKind.u8, Kd.int IntKind.i64, Kd.int IntKind.u8] a4 none))) [], BC.mk (Hd.mk 0 3 true none) [some (At.int true IntKind.i64 a5), some (At.int true IntKind.i64 a6), some (At.vec 3 0 6)], BC.mk (Hd.mk 0 0 true (some (Rw.mk 0 [Kd.int IntKind.u8, Kd.int IntKind.u8, Kd.int IntKind.u8, Kd.int IntKind.u8, Kd.int IntKind.i64, Kd.int IntKind.u8] a7 none))) [], BC.mk (Hd.mk 0 4 true none) [some (At.int true IntKind.i64 a8), some (At.int true IntKind.i64 a9), some (At.int true IntKind.i64 a10), some (At.int true IntKind.i64 a11)]] => some (fSameIn_l13_T.mk a0 a1 a2 a3 a4 a5 a6 a7 a8 a9 a10 a11)
  | _ => none
def fSameIn_l13_sum : V.Sum := loopS fSameIn_l13_hd fSameIn_l13_rd fSameIn_l13_st 18446744073709551616 [X.e (0 : Nat), X.r] [0, 1, 2, 3, 4, 5, 6, 7, 8, 16, 26, 37] [3, 4, 5, 6, 7] [] [] [] 0
theorem fSameIn_l13_E : ∀ v, bodyF Try.prog tabFd4 (ntOf Try.prog 70) [0, 1, 2, 3, 4, 5, 6, 7, 8, 16, 26, 37] [3, 4, 5, 6, 7] [(841, fSameIn_l841_sum)] 2000 [] [] fSameIn_l13_code 52 (fSameIn_l13_hd v) = some ((fSameIn_l13_st v).1, (fSameIn_l13_st v).2.map fun q => (q.1, q.2.1, fSameIn_l13_hd q.2.2)) := fun v => by kernel_rfl
set_option maxHeartbeats 2000000 in
theorem fSameIn_l13_R : ∀ h v, fSameIn_l13_rd h = some v → h = fSameIn_l13_hd v := by
  intro h v e
  unfold fSameIn_l13_rd at e
  split at e
  · simp only [Option.some.injEq] at e; subst e; rfl
  · cases e
set_option maxRecDepth 100000 in
theorem fSameIn_l13_sok : SumOK Try.prog (ntOf Try.prog 70) [0, 1, 2, 3, 4, 5, 6, 7, 8, 16, 26, 37] (.block (blockOf (subs (bodyOf Try.prog 70) 1 13)) (.loop fSameIn_l13_code)) fSameIn_l13_sum := loopS_ok tabFd4_ok follows fSameIn_l13_E fSameIn_l13_R (fun v => by kernel_rfl) (LOK_of _ _ (LOK_cons (show subs fSameIn_l13_code 52 841 = [.block (blockOf (subs (bodyOf Try.prog 70) 1 841)) (.loop fSameIn_l841_code)] from by kernel_rfl) fSameIn_l841_sok (LOK_nil')))
def fSameIn_s0 (w0 : Int) (h0 : Int) (w1 : Int) (h1 : Int) (x2_0 : Int) (x2_1 : Int) (x2_2 : Int) (x2_3 : Int) (l : List (List Int)) (m : List (List Int)) : Option (X × fSameIn_l13_T) := lrun fSameIn_l13_st (18446744073709551616 : Nat) (fSameIn_l13_T.mk false (if x2_1 < (0 : Int) then (0 : Int) else x2_1) w0 h0 l w1 h1 m x2_0 x2_1 x2_2 x2_3)
def fSameIn_0 (w0 : Int) (h0 : Int) (w1 : Int) (h1 : Int) (x2_0 : Int) (x2_1 : Int) (x2_2 : Int) (x2_3 : Int) (l : List (List Int)) (m : List (List Int)) : Bool := bif isX X.r (fSameIn_s0 w0 h0 w1 h1 x2_0 x2_1 x2_2 x2_3 l m) then fSameIn_l13_T.a0 (V.valOf (fSameIn_s0 w0 h0 w1 h1 x2_0 x2_1 x2_2 x2_3 l m)) else true
def fSameIn_o (w0 : Int) (h0 : Int) (w1 : Int) (h1 : Int) (x2_0 : Int) (x2_1 : Int) (x2_2 : Int) (x2_3 : Int) (r0 : Bool) (l : List (List Int)) (r1 : Bool) (m : List (List Int)) : List Prop := [lok fSameIn_l13_st (18446744073709551616 : Nat) (fSameIn_l13_T.mk false (if x2_1 < (0 : Int) then (0 : Int) else x2_1) w0 h0 l w1 h1 m x2_0 x2_1 x2_2 x2_3)]
theorem fSameIn_p (w0 : Int) (h0 : Int) (w1 : Int) (h1 : Int) (x2_0 : Int) (x2_1 : Int) (x2_2 : Int) (x2_3 : Int) (r0 : Bool) (l : List (List Int)) (r1 : Bool) (m : List (List Int)) : evG Try.prog tabFd4 2000 70 [0, 1, 2, 3, 4, 5, 6, 7, 8, 16, 26, 37] [(13, fSameIn_l13_sum), (841, fSameIn_l841_sum)] [] [.g [.int true .i64 w0, .int true .i64 h0, .vec 0 0 6], .g [.int true .i64 w1, .int true .i64 h1, .vec 1 0 6], .g [.int true .i64 x2_0, .int true .i64 x2_1, .int true .i64 x2_2, .int true .i64 x2_3]] [⟨⟨0, 0, r0, some ⟨0, [.int .u8, .int .u8, .int .u8, .int .u8, .int .i64, .int .u8], l, none⟩⟩, []⟩, ⟨⟨0, 0, r1, some ⟨0, [.int .u8, .int .u8, .int .u8, .int .u8, .int .i64, .int .u8], m, none⟩⟩, []⟩] = some (fSameIn_o w0 h0 w1 h1 x2_0 x2_1 x2_2 x2_3 r0 l r1 m, LV.a (At.bool true (fSameIn_0 w0 h0 w1 h1 x2_0 x2_1 x2_2 x2_3 l m)), [none, none]) := by kernel_rfl
def fSameIn_c : Con
  | [.g [.int true .i64 w0, .int true .i64 h0, .vec 0 0 6], .g [.int true .i64 w1, .int true .i64 h1, .vec 1 0 6], .g [.int true .i64 x2_0, .int true .i64 x2_1, .int true .i64 x2_2, .int true .i64 x2_3]], [⟨⟨0, 0, r0, some ⟨0, [.int .u8, .int .u8, .int .u8, .int .u8, .int .i64, .int .u8], l, none⟩⟩, []⟩, ⟨⟨0, 0, r1, some ⟨0, [.int .u8, .int .u8, .int .u8, .int .u8, .int .i64, .int .u8], m, none⟩⟩, []⟩] => some (fSameIn_o w0 h0 w1 h1 x2_0 x2_1 x2_2 x2_3 r0 l r1 m, LV.a (At.bool true (fSameIn_0 w0 h0 w1 h1 x2_0 x2_1 x2_2 x2_3 l m)), [none, none])
  | _, _ => none
theorem fSameIn_ok : ConOK Try.prog 70 (normC fSameIn_c) := normC_ok (by
  intro args bs obs lv out h ho φ vs w may ha hM
  unfold fSameIn_c at h
  split at h
  · simp only [Option.some.injEq, Prod.mk.injEq] at h
    obtain ⟨rfl, rfl, rfl⟩ := h
    rename_i w0 h0 w1 h1 x2_0 x2_1 x2_2 x2_3 r0 l r1 m
    exact evG_okL' tabFd4_ok follows (LOK_cons (show subs (bodyOf Try.prog 70) 1 13 = [.block (blockOf (subs (bodyOf Try.prog 70) 1 13)) (.loop fSameIn_l13_code)] from by kernel_rfl) fSameIn_l13_sok (LOK_cons (show subs (bodyOf Try.prog 70) 1 841 = [.block (blockOf (subs (bodyOf Try.prog 70) 1 841)) (.loop fSameIn_l841_code)] from by kernel_rfl) fSameIn_l841_sok (LOK_nil'))) _ _ _ _ _ (fSameIn_p w0 h0 w1 h1 x2_0 x2_1 x2_2 x2_3 r0 l r1 m) ho φ vs w may ha hM
  · cases h)
theorem fSameIn_en : Enters Try.prog 70 := fun args => by kernel_rfl
-- 3306 33 9 ms

def tabFg1 : Tab := (69, normC fSame_c) :: (70, normC fSameIn_c) :: tabFd4
theorem tabFg1_ok : TOK Try.prog tabFg1 := TOK.cons fSame_en fSame_ok (TOK.cons fSameIn_en fSameIn_ok (tabFd4_ok))

end Go.Proofs.Ytcdejlgophpdjaa
end

