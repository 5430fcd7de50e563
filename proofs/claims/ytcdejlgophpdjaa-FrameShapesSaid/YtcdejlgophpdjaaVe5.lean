/-
  A call: the caller's blocks under the callee's names, and back.
-/
import Derived.Test.YtcdejlgophpdjaaVe4
namespace Go.Proofs.Ytcdejlgophpdjaa.V
open Go Go.RowKit

def cellOf (c : BC) (off : Nat) : Option At := match c.cs[off]? with
  | some (some x) => some x
  | _ => none

def memOf (bs : List BC) : Mem := fun k => match bs[k / 65536]? with
  | some c => cellOf c (k % 65536)
  | none => none

def roH (h : Hd) : Hd := ⟨h.v, h.z, true, h.R⟩

def hdsIn (bs : List BC) (out : List (Option BC)) : Hds := fun b => match bs[b]? with
  | some c => match out[b]? with
    | some none => some (roH c.h)
    | _ => some c.h
  | none => none

def aft (bs : List BC) (out : List (Option BC)) (i : Nat) : Option BC := match out[i]? with
  | some (some c) => some c
  | some none => match bs[i]? with
    | some c => some ⟨roH c.h, c.cs⟩
    | none => none
  | none => none

def memAft (bs : List BC) (out : List (Option BC)) : Mem := fun k => match aft bs out (k / 65536) with
  | some c => cellOf c (k % 65536)
  | none => none

def hdsAft (bs : List BC) (out : List (Option BC)) : Hds := fun b => match aft bs out b with
  | some c => some c.h
  | none => none

/-- What a contract says of a function: what it hands back and what becomes of the blocks that it was handed hangs on these alone; 'none': a block that it does not write. -/
def ConOK (P : Program) (f : Nat) (c : Con) : Prop := ∀ args bs obs lv out, c args bs = some (obs, lv, out) → Alls obs → ∀ (φ : Phi) (vs : Array Value) (w : World) (may : Nat → Prop), All2 (LV.rel φ) args vs.toList →
  MR w may φ (memOf bs) (hdsIn bs out) (fun b => bs.length ≤ b) w →
  Calls P f vs w fun e w' => ∃ v' φ', e = .returned v' ∧ φ.le φ' ∧ lv.rel φ' v' ∧ MR w may φ' (memAft bs out) (hdsAft bs out) (fun b => out.length ≤ b) w'

def Enters (P : Program) (f : Nat) : Prop := ∀ args, calm P (callFunc f args) = some (.enter f args)

def TOK (P : Program) (T : Tab) : Prop := ∀ p ∈ T, Enters P p.1 ∧ ConOK P p.1 p.2

theorem TOK.nil {P : Program} : TOK P [] := by intro p hp; cases hp
theorem TOK.cons {P : Program} {T : Tab} {f : Nat} {c : Con} (he : Enters P f) (hc : ConOK P f c) (h : TOK P T) : TOK P ((f, c) :: T) := by
  intro p hp
  rcases List.mem_cons.1 hp with rfl | hp
  · exact ⟨he, hc⟩
  · exact h p hp

theorem idxOf_spec {b : Nat} : ∀ {l : List Nat} {s i : Nat}, idxOf b l s = some i → s ≤ i ∧ l[i - s]? = some b
  | [], s, i, h => by simp [idxOf] at h
  | c :: r, s, i, h => by
    unfold idxOf at h
    split at h
    · rename_i hb
      have := Nat.eq_of_beq_eq_true hb
      simp only [Option.some.injEq] at h; subst h; subst this
      simp
    · obtain ⟨h1, h2⟩ := idxOf_spec h
      refine ⟨by omega, ?_⟩
      rw [show i - s = (i - (s + 1)) + 1 by omega]; simpa using h2

theorem idxOf_none {b : Nat} : ∀ {l : List Nat} {s : Nat}, idxOf b l s = none → b ∉ l
  | [], s, _ => by simp
  | c :: r, s, h => by
    unfold idxOf at h
    split at h
    · cases h
    · rename_i hb
      have : b ≠ c := fun e => by subst e; simp at hb
      simp [this, idxOf_none h]

theorem nodupB_spec : ∀ {l : List Nat}, nodupB l = true → ∀ {i j : Nat} {b : Nat}, l[i]? = some b → l[j]? = some b → i = j
  | [], _, i, j, b, h, _ => by simp at h
  | c :: r, hn, i, j, b, hi, hj => by
    unfold nodupB at hn
    split at hn
    · cases hn
    · rename_i hno
      have hc := idxOf_none hno
      cases i with
      | zero =>
        cases j with
        | zero => rfl
        | succ j => simp at hi hj; subst hi; exact absurd (List.mem_of_getElem? hj) hc
      | succ i =>
        cases j with
        | zero => simp at hi hj; subst hj; exact absurd (List.mem_of_getElem? hi) hc
        | succ j => simp at hi hj; rw [nodupB_spec hn hi hj]

theorem blksOf_get {μ : Mem} {ρ : Hds} {foot : List Nat} : ∀ {l : List Nat} {bs : List BC}, blksOf μ ρ foot l = some bs → bs.length = l.length ∧ ∀ (i b : Nat), l[i]? = some b → ∃ c, bs[i]? = some c ∧ blkOf μ ρ foot b = some c
  | [], bs, h => by simp only [blksOf, Option.some.injEq] at h; subst h; exact ⟨rfl, fun i b hb => by simp at hb⟩
  | b :: r, bs, h => by
    unfold blksOf at h
    split at h
    · rename_i c l h1 h2
      simp only [Option.some.injEq] at h; subst h
      obtain ⟨g1, g2⟩ := blksOf_get h2
      refine ⟨by simp [g1], fun i b' hb => ?_⟩
      cases i with
      | zero => simp at hb; subst hb; exact ⟨c, by simp, h1⟩
      | succ i => obtain ⟨c', q1, q2⟩ := g2 i b' (by simpa using hb); exact ⟨c', by simpa using q1, q2⟩
    · cases h

theorem blkCells_get {μ : Mem} {ρ : Hds} {foot : List Nat} {b : Nat} : ∀ {n k j : Nat}, j < n → (blkCells μ ρ foot b k n)[j]? = some (renO ρ foot (μ (b * 65536 + (k + j))))
  | 0, k, j, h => by omega
  | n + 1, k, 0, h => by simp [blkCells]
  | n + 1, k, j + 1, h => by
    simp only [blkCells, List.getElem?_cons_succ]
    rw [blkCells_get (by omega), show k + 1 + j = k + (j + 1) by omega]

theorem blkCells_len {μ : Mem} {ρ : Hds} {foot : List Nat} {b : Nat} : ∀ {n k : Nat}, (blkCells μ ρ foot b k n).length = n
  | 0, k => rfl
  | n + 1, k => by simp [blkCells, blkCells_len]

theorem blkOf_spec {μ : Mem} {ρ : Hds} {foot : List Nat} {b : Nat} {c : BC} (h : blkOf μ ρ foot b = some c) : ∃ hd, ρ b = some hd ∧ c.h = ⟨0, hd.z, hd.ro, hd.R⟩ ∧ hd.z ≤ 65536 ∧ c.cs = blkCells μ ρ foot b 0 hd.z := by
  unfold blkOf at h
  split at h
  · rename_i hd hh
    split at h
    · rename_i hz
      simp only [Option.some.injEq] at h; subst h
      exact ⟨hd, hh, rfl, Nat.le_of_ble_eq_true hz, rfl⟩
    · cases h
  · cases h

/-- Looking into a block under another name. -/
theorem vrel_move {φ ψ : Phi} {b c v v' : Nat} {u : Value} {R : Inf → Prop} (hR : ∀ i j : Inf, i.a = j.a → i.z = j.z → i.n = j.n → R i → R j) (h : vrel φ b v u R)
    (hm : ∀ i, φ b = some i → v ≤ i.v → ∃ j, ψ c = some j ∧ v' ≤ j.v ∧ (v' = j.v → v = i.v ∧ i.a = j.a ∧ i.z = j.z ∧ i.n = j.n)) : vrel ψ c v' u R := by
  obtain ⟨h0, i, h1, h2, h3⟩ := h
  obtain ⟨j, g1, g2, g3⟩ := hm i h1 h2
  exact ⟨h0, j, g1, g2, fun e => by obtain ⟨e1, e2, e3, e4⟩ := g3 e; exact hR i j e2 e3 e4 (h3 e1)⟩

theorem ptrR_move {o : Nat} {u : Value} (i j : Inf) (ha : i.a = j.a) (_ : i.z = j.z) (_ : i.n = j.n) : (∃ r o', i.a = some (r, o') ∧ u = .pointer (some ⟨r, o' + o, none⟩)) → ∃ r o', j.a = some (r, o') ∧ u = .pointer (some ⟨r, o' + o, none⟩) := by
  rw [ha]; exact id
theorem vecR_move {e : Nat} {u : Value} (i j : Inf) (ha : i.a = j.a) (hz : i.z = j.z) (hn : i.n = j.n) (h : vecR e u i) : vecR e u j := by
  unfold vecR at *; rw [← ha, ← hz, ← hn]; exact h
theorem slcR_move {st e off len : Nat} {u : Value} (i j : Inf) (ha : i.a = j.a) (_ : i.z = j.z) (hn : i.n = j.n) (h : slcR st e off len u i) : slcR st e off len u j := by
  unfold slcR at *; rw [← ha, ← hn]; exact h
theorem prwR_move {st e p q : Nat} {u : Value} (i j : Inf) (ha : i.a = j.a) (_ : i.z = j.z) (hn : i.n = j.n) (h : prwR st e p q u i) : prwR st e p q u j := by
  unfold prwR at *; rw [← ha, ← hn]; exact h

/-- Names go over into names: what is needed of two maps. -/
def Moves (φ ψ : Phi) (b v c v' : Nat) : Prop := ∀ i, φ b = some i → v ≤ i.v → ∃ j, ψ c = some j ∧ v' ≤ j.v ∧ (v' = j.v → v = i.v ∧ i.a = j.a ∧ i.z = j.z ∧ i.n = j.n)

theorem prel_move {φ ψ : Phi} {b c o : Nat} {u : Value} (h : prel φ (b, o) u) (hm : Moves φ ψ b 0 c 0) : prel ψ (c, o) u := vrel_move ptrR_move h hm

section
variable {P : Program} {w0 : World} {may : Nat → Prop} {φ : Phi} {σ : Sig} {μ : Mem} {ρ : Hds} {fr : Nat → Prop} {w : World} {a : Act} {o : Oper}

theorem renB_spec {foot : List Nat} {b v i : Nat} (h : renB ρ foot b v = some i) : foot[i]? = some b ∧ ∃ hd, ρ b = some hd ∧ hd.v = v := by
  unfold renB at h
  split at h
  · rename_i j hj
    split at h
    · rename_i hd hc
      simp only [Option.some.injEq] at h; subst h
      obtain ⟨_, h2⟩ := idxOf_spec hj
      exact ⟨by simpa using h2, hd, (cur_spec hc).1, (cur_spec hc).2⟩
    · cases h
  · cases h

theorem renC_rel {foot : List Nat} {ψ : Phi} (hm : ∀ b v i, renB ρ foot b v = some i → Moves φ ψ b v i 0) : ∀ {l : List (Nat × Nat)} {l' : List (Nat × Nat)} {vs : List Value}, renC ρ foot l = some l' → All2 (prel φ) l vs → All2 (prel ψ) l' vs
  | [], l', vs, h, hv => by simp only [renC, Option.some.injEq] at h; subst h; cases hv; exact .nil
  | (b, o) :: r, l', vs, h, hv => by
    unfold renC at h
    split at h
    · rename_i i l'' h1 h2
      simp only [Option.some.injEq] at h; subst h
      cases hv with
      | cons x y => exact .cons (prel_move x (hm b 0 i h1)) (renC_rel hm h2 y)
    · cases h

theorem renA_rel {foot : List Nat} {ψ : Phi} (hm : ∀ b v i, renB ρ foot b v = some i → Moves φ ψ b v i 0) {x : At} {v : Value} (h : x.rel φ v) : (renA ρ foot x).rel ψ v := by
  have hu := At.rel_one h
  cases x with
  | bool s b => exact h
  | int s k n => exact h
  | str s y => exact h
  | nil => exact h
  | nils => exact h
  | nilfn => exact h
  | unk => exact h
  | ptr b o =>
    simp only [renA]
    split
    · rename_i i hi; exact prel_move h (hm b 0 i hi)
    · exact hu
  | prw s b ver st e p q =>
    simp only [renA]
    split
    · rename_i i hi; exact vrel_move prwR_move h (hm b ver i hi)
    · exact hu
  | slc s b ver st e off len =>
    simp only [renA]
    split
    · rename_i i hi; exact vrel_move slcR_move h (hm b ver i hi)
    · exact hu
  | vec b ver e =>
    simp only [renA]
    split
    · rename_i i hi; exact vrel_move vecR_move h (hm b ver i hi)
    · exact hu
  | fn f caps =>
    simp only [renA]
    split
    · rename_i l hl
      obtain ⟨cs, e, g⟩ := h
      exact ⟨cs, e, renC_rel hm hl g⟩
    · exact hu

theorem renV_rel {foot : List Nat} {ψ : Phi} (hm : ∀ b v i, renB ρ foot b v = some i → Moves φ ψ b v i 0) {x : LV} {v : Value} (h : x.rel φ v) : (renV ρ foot x).rel ψ v := by
  cases x with
  | a x => exact renA_rel hm h
  | g l =>
    obtain ⟨cs, e, k⟩ := h
    refine ⟨cs, e, ?_⟩
    generalize cs.toList = m at k
    induction k with
    | nil => exact .nil
    | cons r _ ih => exact .cons (renA_rel hm r) ih
  | t l => trivial
  | u => trivial

theorem backB_lt {foot : List Nat} {id i b : Nat} {hd : Hd} (h : foot[i]? = some b) (hh : ρ b = some hd) : backB ρ foot id i = (b, hd.v) := by simp [backB, h, hh]
theorem backB_ge {foot : List Nat} {id i : Nat} (h : foot.length ≤ i) : backB ρ foot id i = (id + (i - foot.length), 0) := by
  have : foot[i]? = none := by simpa using h
  simp [backB, this]

theorem backC_rel {foot : List Nat} {id : Nat} {ψ : Phi} (hm : ∀ i v b u, backB ρ foot id i = (b, u) → Moves φ ψ i v b (u + v)) : ∀ {l : List (Nat × Nat)} {l' : List (Nat × Nat)} {vs : List Value}, backC ρ foot id l = some l' → All2 (prel φ) l vs → All2 (prel ψ) l' vs
  | [], l', vs, h, hv => by simp only [backC, Option.some.injEq] at h; subst h; cases hv; exact .nil
  | (i, o) :: r, l', vs, h, hv => by
    unfold backC at h
    split at h
    · rename_i b u l'' h1 h2
      split at h
      · rename_i hu
        have hu := Nat.eq_of_beq_eq_true hu
        subst hu
        simp only [Option.some.injEq] at h; subst h
        cases hv with
        | cons x y => exact .cons (prel_move x (hm i 0 b 0 h1)) (backC_rel hm h2 y)
      · cases h
    · cases h

theorem backA_rel {foot : List Nat} {id : Nat} {ψ : Phi} (hm : ∀ i v b u, backB ρ foot id i = (b, u) → Moves φ ψ i v b (u + v)) {x : At} {v : Value} (h : x.rel φ v) : (backA ρ foot id x).rel ψ v := by
  have hu := At.rel_one h
  cases x with
  | bool s b => exact h
  | int s k n => exact h
  | str s y => exact h
  | nil => exact h
  | nils => exact h
  | nilfn => exact h
  | unk => exact h
  | ptr i o =>
    simp only [backA]
    cases hb : backB ρ foot id i with
    | mk b u =>
      simp only
      split
      · rename_i hz
        have hz := Nat.eq_of_beq_eq_true hz
        subst hz
        exact prel_move h (hm i 0 b 0 hb)
      · exact hu
  | prw s i ver st e p q =>
    simp only [backA]
    cases hb : backB ρ foot id i with
    | mk b u => exact vrel_move prwR_move h (hm i ver b u hb)
  | slc s i ver st e off len =>
    simp only [backA]
    cases hb : backB ρ foot id i with
    | mk b u => exact vrel_move slcR_move h (hm i ver b u hb)
  | vec i ver e =>
    simp only [backA]
    cases hb : backB ρ foot id i with
    | mk b u => exact vrel_move vecR_move h (hm i ver b u hb)
  | fn f caps =>
    simp only [backA]
    split
    · rename_i l hl
      obtain ⟨cs, e, g⟩ := h
      exact ⟨cs, e, backC_rel hm hl g⟩
    · exact hu

theorem backL_rel {foot : List Nat} {id : Nat} {ψ : Phi} (hm : ∀ i v b u, backB ρ foot id i = (b, u) → Moves φ ψ i v b (u + v)) {l : List At} {m : List Value} (k : All2 (At.rel φ) l m) : All2 (At.rel ψ) (l.map (backA ρ foot id)) m := by
  induction k with
  | nil => exact .nil
  | cons r _ ih => exact .cons (backA_rel hm r) ih

theorem backV_rel {foot : List Nat} {id : Nat} {ψ : Phi} (hm : ∀ i v b u, backB ρ foot id i = (b, u) → Moves φ ψ i v b (u + v)) {x y : LV} {v : Value} (e : backV ρ foot id x = some y) (h : x.rel φ v) : y.rel ψ v ∧ (x.rel1 φ v → y.rel1 ψ v) := by
  cases x with
  | a x => simp only [backV, Option.some.injEq] at e; subst e; exact ⟨backA_rel hm h, fun _ => backA_rel hm h⟩
  | g l =>
    simp only [backV, Option.some.injEq] at e; subst e
    obtain ⟨cs, e, k⟩ := h
    exact ⟨⟨cs, e, backL_rel hm k⟩, fun _ => ⟨cs, e, backL_rel hm k⟩⟩
  | t l => simp [backV] at e
  | u => simp [backV] at e

theorem backVs_rel {foot : List Nat} {id : Nat} {ψ : Phi} (hm : ∀ i v b u, backB ρ foot id i = (b, u) → Moves φ ψ i v b (u + v)) : ∀ {l m : List LV} {vs : List Value}, backVs ρ foot id l = some m → All2 (LV.rel1 φ) l vs → All2 (LV.rel1 ψ) m vs
  | [], m, vs, h, hv => by simp only [backVs, Option.some.injEq] at h; subst h; cases hv; exact .nil
  | x :: r, m, vs, h, hv => by
    unfold backVs at h
    split at h
    · rename_i y l h1 h2
      simp only [Option.some.injEq] at h; subst h
      cases hv with
      | cons p q =>
        refine .cons ((backV_rel hm h1 ?_).2 p) (backVs_rel hm h2 q)
        cases x with
        | a x => exact p
        | g l => exact p
        | t l => exact p.elim
        | u => trivial
    · cases h

theorem backT_rel {foot : List Nat} {id : Nat} {ψ : Phi} (hm : ∀ i v b u, backB ρ foot id i = (b, u) → Moves φ ψ i v b (u + v)) {x y : LV} {v : Value} (e : backT ρ foot id x = some y) (h : x.rel φ v) : y.rel ψ v := by
  cases x with
  | t l =>
    simp only [backT] at e
    split at e
    · rename_i m hm'
      simp only [Option.some.injEq] at e; subst e
      obtain ⟨vs, e, k⟩ := h
      exact ⟨vs, e, backVs_rel hm hm' k⟩
    · cases e
  | a x => exact (backV_rel hm (x := .a x) e h).1
  | g l => exact (backV_rel hm (x := .g l) e h).1
  | u => simp [backT, backV] at e

theorem mem_backCells {foot : List Nat} {id b u : Nat} {key : Nat} {x : At} : ∀ {cs : List (Option At)} {k : Nat}, (key, x) ∈ backCells ρ foot id b u k cs ↔ ∃ j y, cs[j]? = some y ∧ key = b * 65536 + (k + j) ∧ x = (match y, Nat.beq u 0 with
      | some z, true => backA ρ foot id z
      | _, _ => .unk)
  | [], k => by simp [backCells]
  | c :: cs, k => by
    simp only [backCells, List.mem_cons, Prod.mk.injEq, mem_backCells (cs := cs)]
    constructor
    · rintro (⟨rfl, rfl⟩ | ⟨j, y, h1, h2, h3⟩)
      · exact ⟨0, c, by simp, by simp, rfl⟩
      · exact ⟨j + 1, y, by simpa using h1, by omega, h3⟩
    · rintro ⟨j, y, h1, h2, h3⟩
      cases j with
      | zero => simp at h1; subst h1; exact .inl ⟨by omega, h3⟩
      | succ j => exact .inr ⟨j, y, by simpa using h1, by omega, h3⟩

theorem mem_backBlks {foot : List Nat} {id : Nat} : ∀ {out : List (Option BC)} {i : Nat} {cs : List (Nat × At)} {hs : List (Nat × Hd)}, backBlks ρ foot id i out = (cs, hs) →
    (∀ key x, (key, x) ∈ cs ↔ ∃ j c b u, out[j]? = some (some c) ∧ backB ρ foot id (i + j) = (b, u) ∧ (key, x) ∈ backCells ρ foot id b u 0 c.cs) ∧
    (∀ k h, (k, h) ∈ hs ↔ ∃ j c u, out[j]? = some (some c) ∧ backB ρ foot id (i + j) = (k, u) ∧ h = ⟨u + c.h.v, c.h.z, c.h.ro, c.h.R⟩)
  | [], i, cs, hs, h => by
    simp only [backBlks, Prod.mk.injEq] at h
    obtain ⟨rfl, rfl⟩ := h
    simp
  | none :: r, i, cs, hs, h => by
    simp only [backBlks] at h
    obtain ⟨g1, g2⟩ := mem_backBlks h
    constructor
    · intro key x
      rw [g1]
      constructor
      · rintro ⟨j, c, b, u, h1, h2, h3⟩; exact ⟨j + 1, c, b, u, by simpa using h1, by rw [show i + (j + 1) = i + 1 + j by omega]; exact h2, h3⟩
      · rintro ⟨j, c, b, u, h1, h2, h3⟩
        cases j with
        | zero => simp at h1
        | succ j => exact ⟨j, c, b, u, by simpa using h1, by rw [show i + 1 + j = i + (j + 1) by omega]; exact h2, h3⟩
    · intro key x
      rw [g2]
      constructor
      · rintro ⟨j, c, u, h1, h2, h3⟩; exact ⟨j + 1, c, u, by simpa using h1, by rw [show i + (j + 1) = i + 1 + j by omega]; exact h2, h3⟩
      · rintro ⟨j, c, u, h1, h2, h3⟩
        cases j with
        | zero => simp at h1
        | succ j => exact ⟨j, c, u, by simpa using h1, by rw [show i + 1 + j = i + (j + 1) by omega]; exact h2, h3⟩
  | some c0 :: r, i, cs, hs, h => by
    simp only [backBlks] at h
    cases hb : backB ρ foot id i with
    | mk b0 u0 =>
    cases hr : backBlks ρ foot id (i + 1) r with
    | mk cs' hs' =>
    rw [hb, hr] at h
    simp only [Prod.mk.injEq] at h
    obtain ⟨rfl, rfl⟩ := h
    obtain ⟨g1, g2⟩ := mem_backBlks hr
    constructor
    · intro key x
      rw [List.mem_append, g1]
      constructor
      · rintro (h | ⟨j, c, b, u, h1, h2, h3⟩)
        · exact ⟨0, c0, b0, u0, by simp, hb, h⟩
        · exact ⟨j + 1, c, b, u, by simpa using h1, by rw [show i + (j + 1) = i + 1 + j by omega]; exact h2, h3⟩
      · rintro ⟨j, c, b, u, h1, h2, h3⟩
        cases j with
        | zero =>
          simp only [List.getElem?_cons_zero, Option.some.injEq] at h1; subst h1
          rw [Nat.add_zero, hb] at h2
          simp only [Prod.mk.injEq] at h2; obtain ⟨rfl, rfl⟩ := h2
          exact .inl h3
        | succ j => exact .inr ⟨j, c, b, u, by simpa using h1, by rw [show i + 1 + j = i + (j + 1) by omega]; exact h2, h3⟩
    · intro key x
      rw [List.mem_cons, g2]
      constructor
      · rintro (h | ⟨j, c, u, h1, h2, h3⟩)
        · simp only [Prod.mk.injEq] at h; obtain ⟨rfl, rfl⟩ := h
          exact ⟨0, c0, u0, by simp, hb, rfl⟩
        · exact ⟨j + 1, c, u, by simpa using h1, by rw [show i + (j + 1) = i + 1 + j by omega]; exact h2, h3⟩
      · rintro ⟨j, c, u, h1, h2, h3⟩
        cases j with
        | zero =>
          simp only [List.getElem?_cons_zero, Option.some.injEq] at h1; subst h1
          rw [Nat.add_zero, hb] at h2
          simp only [Prod.mk.injEq] at h2; obtain ⟨rfl, rfl⟩ := h2
          exact .inl (by rw [h3])
        | succ j => exact .inr ⟨j, c, u, by simpa using h1, by rw [show i + 1 + j = i + (j + 1) by omega]; exact h2, h3⟩

theorem cellBound_get : ∀ {out : List (Option BC)}, cellBound out = true → ∀ (i : Nat) (c : BC), out[i]? = some (some c) → c.cs.length = c.h.z ∧ c.h.z ≤ 65536 ∧ c.h.ro = false
  | [], _, i, c, h => by simp at h
  | none :: r, hb, i, c, h => by
    cases i with
    | zero => simp at h
    | succ i => exact cellBound_get (out := r) hb i c (by simpa using h)
  | some c0 :: r, hb, i, c, h => by
    unfold cellBound at hb
    split at hb
    · rename_i hc
      simp only [Bool.and_eq_true, Bool.not_eq_true'] at hc
      cases i with
      | zero => simp at h; subst h; exact ⟨Nat.eq_of_beq_eq_true hc.1.1, Nat.le_of_ble_eq_true hc.1.2, hc.2⟩
      | succ i => exact cellBound_get hb i c (by simpa using h)
    · cases hb

theorem zOK_get : ∀ {bs : List BC} {out : List (Option BC)}, zOK bs out = true → bs.length ≤ out.length ∧ ∀ (i : Nat) (b c : BC), bs[i]? = some b → out[i]? = some (some c) → b.h.z ≤ c.cs.length
  | [], out, _ => ⟨by simp, fun i b c h => by simp at h⟩
  | _ :: _, [], h => by simp [zOK] at h
  | b0 :: bs, none :: out, h => by
    obtain ⟨h1, h2⟩ := zOK_get (bs := bs) (out := out) h
    refine ⟨by simp [h1], fun i b c hb hc => ?_⟩
    cases i with
    | zero => simp at hc
    | succ i => exact h2 i b c (by simpa using hb) (by simpa using hc)
  | b0 :: bs, some c0 :: out, h => by
    unfold zOK at h
    split at h
    · rename_i hz
      obtain ⟨h1, h2⟩ := zOK_get h
      refine ⟨by simp [h1], fun i b c hb hc => ?_⟩
      cases i with
      | zero => simp at hb hc; subst hb; subst hc; exact Nat.le_of_ble_eq_true hz
      | succ i => exact h2 i b c (by simpa using hb) (by simpa using hc)
    · cases h

theorem vOK_get {foot : List Nat} {id : Nat} : ∀ {out : List (Option BC)} {k : Nat}, vOK ρ foot id k out = true → ∀ (i : Nat) (c : BC) (b u : Nat), out[i]? = some (some c) → backB ρ foot id (k + i) = (b, u) → u = 0 ∨ c.h.grows = true
  | [], k, _, i, c, b, u, h, _ => by simp at h
  | none :: out, k, h, i, c, b, u, hc, hb => by
    cases i with
    | zero => simp at hc
    | succ i => exact vOK_get (out := out) (k := k + 1) h i c b u (by simpa using hc) (by rw [show k + 1 + i = k + (i + 1) by omega]; exact hb)
  | some c0 :: out, k, h, i, c, b, u, hc, hb => by
    unfold vOK at h
    split at h
    · rename_i hv
      cases i with
      | zero =>
        simp only [List.getElem?_cons_zero, Option.some.injEq] at hc; subst hc
        rw [Nat.add_zero] at hb
        rw [hb] at hv
        simp only [Bool.or_eq_true] at hv
        exact hv.imp (fun e => Nat.eq_of_beq_eq_true e) (fun e => e)
      | succ i => exact vOK_get (out := out) (k := k + 1) h i c b u (by simpa using hc) (by rw [show k + 1 + i = k + (i + 1) by omega]; exact hb)
    · cases h

theorem allSet_get : ∀ {l : List (Option BC)}, allSet l = true → ∀ (i : Nat), i < l.length → ∃ c, l[i]? = some (some c)
  | [], _, i, h => by simp at h
  | none :: _, h, _, _ => by simp [allSet] at h
  | some c :: r, h, i, hi => by
    cases i with
    | zero => exact ⟨c, by simp⟩
    | succ i => obtain ⟨c', h'⟩ := allSet_get (l := r) h i (by simpa using hi); exact ⟨c', by simpa using h'⟩

end
end Go.Proofs.Ytcdejlgophpdjaa.V
