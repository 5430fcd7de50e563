/-
  The local memory against the real one: the relation, and how it is kept by what turns the memory.
-/
import Derived.Test.YtcdejlgophpdjaaVa
namespace Go.Proofs.Ytcdejlgophpdjaa.V
open Go Go.RowKit

/-- The kind of a number or bool in a row. -/
inductive Kd where
  | int (k : IntKind)
  | bool

def Kd.val : Kd → Int → Value
  | .int k, n => .int k n
  | .bool, n => .bool (n != 0)

def Kd.at : Kd → Int → At
  | .int k, n => .int true k n
  | .bool, n => .bool true (n != 0)

def encA : Kd → At → Option Int
  | .int k, .int _ k' n => match decide (k = k') with
    | true => some n
    | false => none
  | .bool, .bool _ b => some (bif b then 1 else 0)
  | _, _ => none

theorem Kd.at_rel (φ : Phi) (k : Kd) (n : Int) : (k.at n).rel φ (k.val n) := by cases k <;> rfl

theorem encA_val {φ : Phi} {k : Kd} {x : At} {n : Int} {v : Value} (h : encA k x = some n) (hv : x.rel φ v) : v = k.val n := by
  unfold encA at h
  split at h
  · split at h
    · rename_i hk
      have := of_decide_eq_true hk
      subst this
      simp only [Option.some.injEq] at h; subst h
      exact hv
    · cases h
  · simp only [Option.some.injEq] at h; subst h
    rename_i b
    have hv' : v = .bool b := hv
    subst hv'
    cases b <;> rfl
  · cases h

/-- Rows of numbers within a block: from where on, of which kinds; how many there are for good, if that is so. -/
structure Rw where
  st : Nat
  sh : List Kd
  l : List (List Int)
  fx : Option Nat

/-- A block's head: its version, how many cells, may it not be written, its rows. -/
structure Hd where
  v : Nat
  z : Nat
  ro : Bool
  R : Option Rw

abbrev Sig := Nat → Option LV
abbrev Mem := Nat → Option At
abbrev Hds := Nat → Option Hd

/-- The rows stand in the cells. -/
def RowsIn (arr : Array Value) (o : Nat) (R : Rw) : Prop :=
  (∀ (p : Nat) row, R.l[p]? = some row → row.length = R.sh.length ∧ ∀ (j : Nat) n k, row[j]? = some n → R.sh[j]? = some k → arr[o + (R.st + p * R.sh.length + j)]? = some (k.val n)) ∧
  R.st + R.l.length * R.sh.length + o ≤ arr.size

/-- May its rows become more? -/
def Hd.grows (h : Hd) : Bool := match h.R with
  | some R => R.fx.isNone
  | none => false

def HdOK (heap : Nat → Option Obj) (i : Inf) (h : Hd) : Prop :=
  i.v = h.v ∧ i.ro = h.ro ∧ (h.grows = false → i.v = 0 ∧ i.z = h.z ∧ (h.R = none → i.n = i.z)) ∧
  ∀ R, h.R = some R → R.l.length = i.n ∧ (∀ N, R.fx = some N → i.n = N) ∧
    ((i.a = none ∧ R.l = [] ∧ R.fx = none) ∨ ∃ r o arr ty fz, i.a = some (r, o) ∧ heap r = some (.cells arr ty fz) ∧ RowsIn arr o R ∧ R.st + R.l.length * R.sh.length ≤ i.z)

def CellOK (heap : Nat → Option Obj) (φ : Phi) (i : Inf) (off : Nat) (x : At) : Prop :=
  i.v = 0 ∧ off < i.z ∧ ∃ r o arr ty fz v, i.a = some (r, o) ∧ heap r = some (.cells arr ty fz) ∧ arr[o + off]? = some v ∧ x.rel φ v

/-- Cells and rows of a block lie apart; what may become more has no cells. -/
def Apart (off : Nat) (h : Hd) : Prop := h.grows = false ∧ ∀ R, h.R = some R → off < R.st ∨ R.st + R.l.length * R.sh.length ≤ off

/-- The local memory stands in the real memory of w at the blocks that φ tells; nothing else of what was there in w0 has turned, but where 'may' allows it. -/
structure MR (w0 : World) (may : Nat → Prop) (φ : Phi) (μ : Mem) (ρ : Hds) (fr : Nat → Prop) (w : World) : Prop where
  cell : ∀ k x, μ k = some x → x = .unk ∨ ∃ i, φ (k / 65536) = some i ∧ CellOK (w.heap[·]?) φ i (k % 65536) x
  hdr : ∀ b h, ρ b = some h → ∃ i, φ b = some i ∧ HdOK (w.heap[·]?) i h
  apart : ∀ k x h, μ k = some x → x ≠ .unk → ρ (k / 65536) = some h → Apart (k % 65536) h
  inj : ∀ b b' i i' r o o', φ b = some i → φ b' = some i' → i.a = some (r, o) → i'.a = some (r, o') → b = b' ∨ (i.ro = true ∧ i'.ro = true)
  own : ∀ b i r o, φ b = some i → i.a = some (r, o) → i.ro = false → (may r ∨ w0.heap.size ≤ r) ∧ o = 0 ∧ ∃ arr, w.heap[r]? = some (.cells arr i.ty (0, 0)) ∧ arr.size = i.z
  keep : ∀ b i r o, φ b = some i → i.a = some (r, o) → i.ro = true → r < w0.heap.size ∧ ¬ may r
  dom : ∀ b, fr b → φ b = none
  big : ∀ b i r o, φ b = some i → i.a = some (r, o) → r < w.heap.size
  os : w.os = w0.os
  tape : w.tape = w0.tape
  output : w.output = w0.output
  size : w0.heap.size ≤ w.heap.size
  block : ∀ k, k < w0.heap.size → ¬ may k → w.heap[k]? = w0.heap[k]?
  frz : ∀ a, w.frozen? a = w0.frozen? a

theorem CellOK.other {heap heap' : Nat → Option Obj} {φ ψ : Phi} {i : Inf} {off : Nat} {x : At} (hle : φ.le ψ) (h : CellOK heap φ i off x) (hh : ∀ r o, i.a = some (r, o) → heap' r = heap r) : CellOK heap' ψ i off x := by
  obtain ⟨h1, h2, r, o, arr, ty, fz, v, h3, h4, h5, h6⟩ := h
  exact ⟨h1, h2, r, o, arr, ty, fz, v, h3, (hh r o h3).trans h4, h5, At.rel_mono hle h6⟩

theorem HdOK.other {heap heap' : Nat → Option Obj} {i : Inf} {h : Hd} (k : HdOK heap i h) (hh : ∀ r o, i.a = some (r, o) → heap' r = heap r) : HdOK heap' i h := by
  obtain ⟨h1, h2, h2', h3⟩ := k
  refine ⟨h1, h2, h2', fun R hR => ?_⟩
  obtain ⟨g1, g2, g3⟩ := h3 R hR
  refine ⟨g1, g2, ?_⟩
  rcases g3 with g3 | ⟨r, o, arr, ty, fz, g4, g5, g6, g7⟩
  · exact .inl g3
  · exact .inr ⟨r, o, arr, ty, fz, g4, (hh r o g4).trans g5, g6, g7⟩

theorem phi_upd_le {φ : Phi} {b : Nat} {j : Inf} (h : φ b = none ∨ ∃ i, φ b = some i ∧ i.le j) : φ.le (fun n => if n = b then some j else φ n) := by
  intro c i e
  by_cases hc : c = b
  · subst hc
    rcases h with h | ⟨i', h1, h2⟩
    · rw [h] at e; cases e
    · rw [h1] at e; simp only [Option.some.injEq] at e; subst e
      exact ⟨j, by simp, h2⟩
  · exact ⟨i, by simp [hc, e], i.le_refl⟩

/-- One block is turned, or placed anew: the general step. -/
theorem MR.step {w0 : World} {may : Nat → Prop} {φ : Phi} {μ μ' : Mem} {ρ ρ' : Hds} {fr : Nat → Prop} {w w' : World} (h : MR w0 may φ μ ρ fr w) {b : Nat} {j : Inf} {r : Nat} {arr : Array Value}
    (hb : φ b = none ∨ ∃ i, φ b = some i ∧ i.le j ∧ i.ro = false) (ja : j.a = some (r, 0)) (jro : j.ro = false) (jz : arr.size = j.z)
    (hr : (∃ i, φ b = some i ∧ i.a = some (r, 0)) ∨ w.heap.size ≤ r) (hheap : w'.heap[r]? = some (.cells arr j.ty (0, 0)))
    (hoth : ∀ k, k < w.heap.size → k ≠ r → w'.heap[k]? = w.heap[k]?) (os : w'.os = w.os) (tape : w'.tape = w.tape) (output : w'.output = w.output) (size : w.heap.size ≤ w'.heap.size) (frz : ∀ a, w'.frozen? a = w.frozen? a)
    (hμ : ∀ k x, μ' k = some x → (k / 65536 ≠ b ∧ μ k = some x) ∨ x = .unk ∨ (k / 65536 = b ∧ CellOK (w'.heap[·]?) (fun n => if n = b then some j else φ n) j (k % 65536) x))
    (hρ : ∀ c g, ρ' c = some g → (c ≠ b ∧ ρ c = some g) ∨ (c = b ∧ HdOK (w'.heap[·]?) j g))
    (hap : ∀ k x g, μ' k = some x → x ≠ .unk → k / 65536 = b → ρ' b = some g → Apart (k % 65536) g) :
    MR w0 may (fun n => if n = b then some j else φ n) μ' ρ' (fun c => fr c ∧ c ≠ b) w' := by
  have hle : φ.le (fun n => if n = b then some j else φ n) := phi_upd_le (hb.imp id fun ⟨i, h1, h2, _⟩ => ⟨i, h1, h2⟩)
  have other : ∀ c i r' o', c ≠ b → φ c = some i → i.a = some (r', o') → r' ≠ r := by
    intro c i r' o' hc hi hia e
    subst e
    rcases hr with ⟨i', h1, h2⟩ | hr
    · have hro : i'.ro = false := by
        rcases hb with hb | ⟨i'', g1, _, g3⟩
        · rw [hb] at h1; cases h1
        · rw [g1] at h1; simp only [Option.some.injEq] at h1; subst h1; exact g3
      rcases h.inj c b i i' r' o' 0 hi h1 hia h2 with e | ⟨_, e⟩
      · exact hc e
      · rw [hro] at e; cases e
    · have := h.big c i r' o' hi hia; omega
  have hsame : ∀ c i, c ≠ b → φ c = some i → ∀ r' o', i.a = some (r', o') → w'.heap[r']? = w.heap[r']? := fun c i hc hi r' o' hia =>
    hoth r' (h.big c i r' o' hi hia) (other c i r' o' hc hi hia)
  have hrw : r < w'.heap.size := (Array.getElem?_eq_some_iff.1 hheap).1
  constructor
  · intro k x hx
    rcases hμ k x hx with ⟨h1, h2⟩ | h1 | ⟨h1, h2⟩
    · rcases h.cell k x h2 with h3 | ⟨i, h3, h4⟩
      · exact .inl h3
      · exact .inr ⟨i, by simp [h1, h3], h4.other hle (hsame _ i h1 h3)⟩
    · exact .inl h1
    · exact .inr ⟨j, by simp [h1], h2⟩
  · intro c g hg
    rcases hρ c g hg with ⟨h1, h2⟩ | ⟨h1, h2⟩
    · obtain ⟨i, h3, h4⟩ := h.hdr c g h2
      exact ⟨i, by simp [h1, h3], h4.other (hsame _ i h1 h3)⟩
    · exact ⟨j, by simp [h1], h2⟩
  · intro k x g hx hne hg
    by_cases hk : k / 65536 = b
    · exact hap k x g hx hne hk (by rw [← hk]; exact hg)
    · rcases hμ k x hx with ⟨_, h2⟩ | h1 | ⟨h1, _⟩
      · rcases hρ _ g hg with ⟨_, h4⟩ | ⟨h3, _⟩
        · exact h.apart k x g h2 hne h4
        · exact absurd h3 hk
      · exact absurd h1 hne
      · exact absurd h1 hk
  · intro c c' i i' r' o o' hc hc' hi hi'
    by_cases e : c = b <;> by_cases e' : c' = b
    · exact .inl (e.trans e'.symm)
    · simp only [e, if_true, Option.some.injEq] at hc; subst hc
      simp only [e', if_false] at hc'
      rw [ja] at hi; simp only [Option.some.injEq, Prod.mk.injEq] at hi
      exact absurd hi.1.symm (other c' i' r' o' e' hc' hi')
    · simp only [e', if_true, Option.some.injEq] at hc'; subst hc'
      simp only [e, if_false] at hc
      rw [ja] at hi'; simp only [Option.some.injEq, Prod.mk.injEq] at hi'
      exact absurd hi'.1.symm (other c i r' o e hc hi)
    · simp only [e, e', if_false] at hc hc'
      exact h.inj c c' i i' r' o o' hc hc' hi hi'
  · intro c i r' o hc hi hro
    by_cases e : c = b
    · simp only [e, if_true, Option.some.injEq] at hc; subst hc
      rw [ja] at hi; simp only [Option.some.injEq, Prod.mk.injEq] at hi
      obtain ⟨rfl, rfl⟩ := hi
      refine ⟨?_, rfl, arr, hheap, jz⟩
      rcases hr with ⟨i', h1, h2⟩ | hr
      · have hro' : i'.ro = false := by
          rcases hb with hb | ⟨i'', g1, _, g3⟩
          · rw [hb] at h1; cases h1
          · rw [g1] at h1; simp only [Option.some.injEq] at h1; subst h1; exact g3
        exact (h.own b i' r 0 h1 h2 hro').1
      · right; have := h.size; omega
    · simp only [e, if_false] at hc
      obtain ⟨h1, h2, ar, h3, h4⟩ := h.own c i r' o hc hi hro
      exact ⟨h1, h2, ar, (hsame c i e hc r' o hi).trans h3, h4⟩
  · intro c i r' o hc hi hro
    by_cases e : c = b
    · simp only [e, if_true, Option.some.injEq] at hc; subst hc; rw [jro] at hro; cases hro
    · simp only [e, if_false] at hc; exact h.keep c i r' o hc hi hro
  · intro c hc
    simp only [hc.2, if_false]; exact h.dom c hc.1
  · intro c i r' o hc hi
    by_cases e : c = b
    · simp only [e, if_true, Option.some.injEq] at hc; subst hc
      rw [ja] at hi; simp only [Option.some.injEq, Prod.mk.injEq] at hi
      obtain ⟨rfl, rfl⟩ := hi; exact hrw
    · simp only [e, if_false] at hc; have := h.big c i r' o hc hi; omega
  · exact os.trans h.os
  · exact tape.trans h.tape
  · exact output.trans h.output
  · have := h.size; omega
  · intro k hk hm
    have hne : k ≠ r := by
      intro e
      subst e
      rcases hr with ⟨i', h1, h2⟩ | hr
      · have hro' : i'.ro = false := by
          rcases hb with hb | ⟨i'', g1, _, g3⟩
          · rw [hb] at h1; cases h1
          · rw [g1] at h1; simp only [Option.some.injEq] at h1; subst h1; exact g3
        rcases (h.own b i' k 0 h1 h2 hro').1 with h3 | h3
        · exact hm h3
        · omega
      · have := h.size; omega
    rw [hoth k (by have := h.size; omega) hne]; exact h.block k hk hm
  · intro a; rw [frz a]; exact h.frz a

theorem MR.drop {w0 : World} {may : Nat → Prop} {φ : Phi} {μ : Mem} {ρ : Hds} {fr fr' : Nat → Prop} {w : World} (h : MR w0 may φ μ ρ fr w) (hf : ∀ b, fr' b → fr b) : MR w0 may φ μ ρ fr' w :=
  ⟨h.cell, h.hdr, h.apart, h.inj, h.own, h.keep, fun b hb => h.dom b (hf b hb), h.big, h.os, h.tape, h.output, h.size, h.block, h.frz⟩

/-- What is not told any more. -/
theorem MR.less {w0 : World} {may : Nat → Prop} {φ : Phi} {μ μ' : Mem} {ρ ρ' : Hds} {fr : Nat → Prop} {w : World} (h : MR w0 may φ μ ρ fr w) (hμ : ∀ k x, μ' k = some x → x = .unk ∨ μ k = some x) (hρ : ∀ b g, ρ' b = some g → ρ b = some g) :
    MR w0 may φ μ' ρ' fr w := by
  refine ⟨fun k x hx => ?_, fun b g hg => h.hdr b g (hρ b g hg), fun k x g hx hne hg => ?_, h.inj, h.own, h.keep, h.dom, h.big, h.os, h.tape, h.output, h.size, h.block, h.frz⟩
  · rcases hμ k x hx with e | e
    · exact .inl e
    · exact h.cell k x e
  · rcases hμ k x hx with e | e
    · exact absurd e hne
    · exact h.apart k x g e hne (hρ _ g hg)

theorem MR.drawn {w0 : World} {may : Nat → Prop} {φ : Phi} {μ : Mem} {ρ : Hds} {fr : Nat → Prop} {w : World} (h : MR w0 may φ μ ρ fr w) (n : Nat) : MR w0 may φ μ ρ fr { w with drawn := n } :=
  ⟨h.cell, h.hdr, h.apart, h.inj, h.own, h.keep, h.dom, h.big, h.os, h.tape, h.output, h.size, h.block, h.frz⟩

theorem frozen_alloc (w : World) (arr : Array Value) (ty : TypeId) (p : Addr) : (w.alloc (.cells arr ty)).frozen? p = w.frozen? p := by
  simp only [World.frozen?]
  by_cases hk : p.block < w.heap.size
  · rw [Below.heap_alloc _ _ _ hk]
  · have e1 : w.heap[p.block]? = none := by simp; omega
    rw [e1]
    by_cases hk2 : p.block = w.heap.size
    · have e2 : (w.alloc (.cells arr ty)).heap[p.block]? = some (.cells arr ty (0, 0)) := by
        rw [hk2]; show (w.heap.push _)[w.heap.size]? = _; simp
      rw [e2]; simp
    · have e2 : (w.alloc (.cells arr ty)).heap[p.block]? = none := by
        show (w.heap.push _)[p.block]? = _
        rw [Array.getElem?_push, if_neg (by omega)]; exact e1
      rw [e2]

theorem frozen_setRow {w : World} {r : Nat} {old arr : Array Value} {ty : TypeId} (ho : w.heap[r]? = some (.cells old ty (0, 0))) (p : Addr) : (w.setRow r arr).frozen? p = w.frozen? p := by
  simp only [World.frozen?]
  by_cases hk : p.block = r
  · rw [hk, setRow_heap w r old arr ty _ ho, ho]
  · rw [setRow_other _ _ _ _ hk]

def TRel (φ : Phi) (σ : Sig) (tmps : Array Value) : Prop := ∀ t lv, σ t = some lv → lv.rel φ (tmps.getD t undef)

theorem TRel.mono {φ ψ : Phi} (h : φ.le ψ) {σ : Sig} {tmps : Array Value} (k : TRel φ σ tmps) : TRel ψ σ tmps := fun t lv e => LV.rel_mono h (k t lv e)

def lev (σ : Sig) : Operand → Option LV
  | .tmp t => σ t
  | .const v => LV.ofVal false v
  | .func f => some (.a (.fn f []))
  | .global _ => none

theorem lev_rel {φ : Phi} {σ : Sig} {a : Act} (h : TRel φ σ a.tmps) {x : Operand} {lv : LV} (e : lev σ x = some lv) : lv.rel φ (a.eval x) := by
  cases x with
  | tmp t => exact h _ _ e
  | const v => exact LV.ofVal_rel e φ
  | func f => simp only [lev, Option.some.injEq] at e; subst e; exact ⟨#[], rfl, .nil⟩
  | global g => simp [lev] at e

def shape (P : Program) (t : TypeId) : Option (Bool × Nat) :=
  match P.underlying t, P.info? t with
  | some (.struct _), some i => some (true, i.size)
  | some (.array _ _), some i => some (true, i.size)
  | some _, some i => some (false, i.size)
  | _, _ => none

theorem shape_run {P : Program} {t : TypeId} {q : Bool} {n : Nat} (h : shape P t = some (q, n)) (w : World) :
    (isAgg t).run P w = .ok q w ∧ (sizeOf t).run P w = .ok n w := by
  unfold shape at h
  cases hu : P.underlying t with
  | none => simp [hu] at h
  | some d =>
    cases hi : P.info? t with
    | none => cases d <;> simp [hu, hi] at h
    | some i =>
      refine ⟨?_, ?_⟩
      · cases d <;> simp [hu, hi] at h <;> (obtain ⟨rfl, rfl⟩ := h; simp [isAgg, run_underlying hu])
      · cases d <;> simp [hu, hi] at h <;> (obtain ⟨rfl, rfl⟩ := h; simp [sizeOf, typeInfo, hi])

end Go.Proofs.Ytcdejlgophpdjaa.V
