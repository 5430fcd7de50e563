/-
  The local memory against the real one: the relation, and each operation that touches memory.
-/
import Derived.Test.YthgjacfikicgnaaKa
namespace Go.Proofs.Ythgjacfikicgnaa.K
open Go Go.RowKit

abbrev Sig := Nat → Option LV
abbrev Loc := Nat → Option (List At)

/-- A call that leaves all that was there: more blocks behind it, none of them frozen. -/
structure Grows (w w' : World) : Prop where
  below : Below w.heap.size w w'
  frz : ∀ a, w'.frozen? a = w.frozen? a

def upd {β : Type} (f : Nat → Option β) (k : Nat) (v : β) : Nat → Option β := fun n => if n = k then some v else f n
theorem upd_same {β : Type} (f : Nat → Option β) (k : Nat) (v : β) : upd f k v k = some v := by simp [upd]
theorem upd_other {β : Type} (f : Nat → Option β) {k n : Nat} (v : β) (h : n ≠ k) : upd f k v n = f n := by simp [upd, h]

/-- The local memory μ stands in the real memory of w at the blocks that φ tells; nothing else of what was there in w0 has turned, but where 'may' allows it. -/
structure MR (w0 : World) (may : Nat → Prop) (φ : Phi) (μ : Loc) (fr : Nat → Prop) (w : World) : Prop where
  mem : ∀ b l, μ b = some l → ∃ r arr ty, φ b = some r ∧ w.heap[r]? = some (.cells arr ty (0, 0)) ∧ All2 (At.rel φ) l arr.toList
  inj : ∀ b b' r, φ b = some r → φ b' = some r → b = b'
  own : ∀ b r, φ b = some r → may r ∨ w0.heap.size ≤ r
  dom : ∀ b, fr b → φ b = none
  big : ∀ b r, φ b = some r → r < w.heap.size
  os : w.os = w0.os
  tape : w.tape = w0.tape
  output : w.output = w0.output
  size : w0.heap.size ≤ w.heap.size
  block : ∀ k, k < w0.heap.size → ¬ may k → w.heap[k]? = w0.heap[k]?
  frz : ∀ a, w.frozen? a = w0.frozen? a

def TRel (φ : Phi) (σ : Sig) (tmps : Array Value) : Prop := ∀ t lv, σ t = some lv → lv.rel φ (tmps.getD t undef)

theorem TRel.mono {φ ψ : Phi} (h : φ.le ψ) {σ : Sig} {tmps : Array Value} (k : TRel φ σ tmps) : TRel ψ σ tmps := fun t lv e => LV.rel_mono h (k t lv e)

def lev (σ : Sig) : Operand → Option LV
  | .tmp t => σ t
  | .const v => LV.ofVal v
  | .func f => some (.a (.fn f []))
  | .global _ => none

theorem lev_rel {φ : Phi} {σ : Sig} {a : Act} (h : TRel φ σ a.tmps) {x : Operand} {lv : LV} (e : lev σ x = some lv) : lv.rel φ (a.eval x) := by
  cases x with
  | tmp t => exact h _ _ e
  | const v => exact LV.ofVal_rel e φ
  | func f => simp only [lev, Option.some.injEq] at e; subst e; exact ⟨#[], rfl, .nil⟩
  | global g => simp [lev] at e

theorem phi_upd_le {φ : Phi} {id r : Nat} (h : φ id = none) : φ.le (upd φ id r) := by
  intro b s e
  unfold upd
  split
  · subst_vars; rw [h] at e; cases e
  · exact e

/-- A new block. -/
theorem MR.new {w0 : World} {may : Nat → Prop} {φ : Phi} {μ : Loc} {fr : Nat → Prop} {w : World} (h : MR w0 may φ μ fr w) {id : Nat} (hid : fr id) {l : List At} {arr : Array Value} (ty : TypeId)
    (hl : All2 (At.rel φ) l arr.toList) : MR w0 may (upd φ id w.heap.size) (upd μ id l) (fun b => fr b ∧ b ≠ id) (w.alloc (.cells arr ty)) := by
  have hn := h.dom id hid
  have hle : φ.le (upd φ id w.heap.size) := phi_upd_le hn
  constructor
  · intro b l' e
    unfold upd at e
    split at e
    · simp only [Option.some.injEq] at e; subst e; subst_vars
      exact ⟨w.heap.size, arr, ty, upd_same _ _ _, by show (w.heap.push _)[w.heap.size]? = _; simp, hl.mono fun _ _ => At.rel_mono hle⟩
    · obtain ⟨r, ar, ty', h1, h2, h3⟩ := h.mem b l' e
      refine ⟨r, ar, ty', hle _ _ h1, ?_, h3.mono fun _ _ => At.rel_mono hle⟩
      rw [Below.heap_alloc _ _ _ (h.big _ _ h1)]; exact h2
  · intro b b' r e e'
    unfold upd at e e'
    split at e <;> split at e'
    · subst_vars; rfl
    · simp only [Option.some.injEq] at e; subst e; exact absurd (h.big _ _ e') (by omega)
    · simp only [Option.some.injEq] at e'; subst e'; exact absurd (h.big _ _ e) (by omega)
    · exact h.inj _ _ _ e e'
  · intro b r e
    unfold upd at e
    split at e
    · simp only [Option.some.injEq] at e; subst e; exact .inr h.size
    · exact h.own _ _ e
  · intro b hb
    rw [upd_other _ _ hb.2]; exact h.dom _ hb.1
  · intro b r e
    have : (w.alloc (.cells arr ty)).heap.size = w.heap.size + 1 := by show (w.heap.push _).size = _; simp
    unfold upd at e
    split at e
    · simp only [Option.some.injEq] at e; omega
    · have := h.big _ _ e; omega
  · exact h.os
  · exact h.tape
  · exact h.output
  · have : (w.alloc (.cells arr ty)).heap.size = w.heap.size + 1 := by show (w.heap.push _).size = _; simp
    have := h.size; omega
  · intro k hk hm
    rw [Below.heap_alloc _ _ _ (by have := h.size; omega)]; exact h.block k hk hm
  · intro p
    rw [← h.frz p]
    simp only [World.frozen?]
    by_cases hk : p.block < w.heap.size
    · rw [Below.heap_alloc _ _ _ hk]
    · have e1 : w.heap[p.block]? = none := by simp; omega
      rw [e1]
      by_cases hk2 : p.block = w.heap.size
      · have e2 : (w.alloc (.cells arr ty)).heap[p.block]? = some (.cells arr ty (0, 0)) := by
          rw [hk2]; show (w.heap.push _)[w.heap.size]? = _; simp
        rw [e2]; simp
      · have e2 : (w.alloc (.cells arr ty)).heap[p.block]? = none := by
          show (w.heap.push _)[p.block]? = _
          rw [Array.getElem?_push, if_neg (by omega)]; exact e1
        rw [e2]

theorem MR.drop {w0 : World} {may : Nat → Prop} {φ : Phi} {μ : Loc} {fr fr' : Nat → Prop} {w : World} (h : MR w0 may φ μ fr w) (hf : ∀ b, fr' b → fr b) : MR w0 may φ μ fr' w :=
  ⟨h.mem, h.inj, h.own, fun b hb => h.dom b (hf b hb), h.big, h.os, h.tape, h.output, h.size, h.block, h.frz⟩

/-- A store into a block of the local memory. -/
theorem MR.put {w0 : World} {may : Nat → Prop} {φ : Phi} {μ : Loc} {fr : Nat → Prop} {w : World} (h : MR w0 may φ μ fr w) {b : Nat} {r : Nat} (hb : φ b = some r) {old : Array Value} {ty : TypeId}
    (ho : w.heap[r]? = some (.cells old ty (0, 0))) {l : List At} {arr : Array Value} (hl : All2 (At.rel φ) l arr.toList) : MR w0 may φ (upd μ b l) fr (w.setRow r arr) := by
  constructor
  · intro b' l' e
    unfold upd at e
    split at e
    · simp only [Option.some.injEq] at e; subst e; subst_vars
      exact ⟨r, arr, ty, hb, setRow_heap w r old arr ty _ ho, hl⟩
    · obtain ⟨r', ar, ty', h1, h2, h3⟩ := h.mem b' l' e
      refine ⟨r', ar, ty', h1, ?_, h3⟩
      have hne : r' ≠ r := fun e' => by subst e'; exact absurd (h.inj _ _ _ h1 hb) (by assumption)
      rw [setRow_other _ _ _ _ hne]; exact h2
  · exact h.inj
  · exact h.own
  · exact h.dom
  · intro b' r' e; rw [size_setRow]; exact h.big _ _ e
  · exact h.os
  · exact h.tape
  · exact h.output
  · rw [size_setRow]; exact h.size
  · intro k hk hm
    have hne : k ≠ r := fun e' => by
      subst e'
      rcases h.own _ _ hb with h1 | h1
      · exact hm h1
      · omega
    rw [setRow_other _ _ _ _ hne]; exact h.block k hk hm
  · intro p
    rw [← h.frz p]
    simp only [World.frozen?]
    by_cases hk : p.block = r
    · rw [hk, setRow_heap w r old arr ty _ ho, ho]
    · rw [setRow_other _ _ _ _ hk]

/-- More of the heap behind a call that leaves all that was there. -/
theorem MR.below {w0 : World} {may : Nat → Prop} {φ : Phi} {μ : Loc} {fr : Nat → Prop} {w w' : World} (h : MR w0 may φ μ fr w) (hg : Grows w w') : MR w0 may φ μ fr w' := by
  have hb := hg.below
  constructor
  · intro b l e
    obtain ⟨r, arr, ty, h1, h2, h3⟩ := h.mem b l e
    exact ⟨r, arr, ty, h1, by rw [hb.block _ (h.big _ _ h1)]; exact h2, h3⟩
  · exact h.inj
  · exact h.own
  · exact h.dom
  · intro b r e; exact Nat.lt_of_lt_of_le (h.big _ _ e) hb.size
  · exact hb.os.trans h.os
  · exact hb.tape.trans h.tape
  · exact hb.output.trans h.output
  · exact Nat.le_trans h.size hb.size
  · intro k hk hm; rw [hb.block _ (by have := h.size; omega)]; exact h.block k hk hm
  · intro p; rw [hg.frz, h.frz]

def vcells : LV → Option (List At)
  | .a x => some [x]
  | .g l => some l
  | .t _ => none

theorem At.rel_one {φ : Phi} {x : At} {v : Value} (h : x.rel φ v) : v.oneCell' = true ∧ v.cells = #[v] := by
  cases x <;> simp only [At.rel, prel] at h
  all_goals first
    | (subst h; exact ⟨rfl, rfl⟩)
    | (obtain ⟨r, _, rfl⟩ := h; exact ⟨rfl, rfl⟩)
    | (obtain ⟨r, rfl, _⟩ := h; exact ⟨rfl, rfl⟩)

theorem vcells_rel {φ : Phi} {lv : LV} {v : Value} {l : List At} (h : lv.rel φ v) (e : vcells lv = some l) : All2 (At.rel φ) l v.cells.toList := by
  cases lv with
  | a x => simp only [vcells, Option.some.injEq] at e; subst e; rw [(At.rel_one h).2]; exact .cons h .nil
  | g m => simp only [vcells, Option.some.injEq] at e; subst e; obtain ⟨cs, rfl, k⟩ := h; exact k
  | t m => simp [vcells] at e

theorem rel_cells_one {φ : Phi} {l : List At} {m : List Value} (h : All2 (At.rel φ) l m) : ∀ v ∈ m, v.oneCell' = true := by
  induction h with
  | nil => simp
  | cons r _ ih => intro v hv; rcases List.mem_cons.1 hv with rfl | hv; exact (At.rel_one r).1; exact ih v hv

/-- How many cells a type has, and whether it is a struct or an array. -/
def shape (P : Program) (t : TypeId) : Option (Bool × Nat) :=
  match P.underlying t, P.info? t with
  | some (.struct _), some i => some (true, i.size)
  | some (.array _ _), some i => some (true, i.size)
  | some _, some i => some (false, i.size)
  | _, _ => none

theorem shape_run {P : Program} {t : TypeId} {q : Bool} {n : Nat} (h : shape P t = some (q, n)) (w : World) :
    (isAgg t).run P w = .ok q w ∧ (sizeOf t).run P w = .ok n w := by
  unfold shape at h
  cases hu : P.underlying t with
  | none => simp [hu] at h
  | some d =>
    cases hi : P.info? t with
    | none => cases d <;> simp [hu, hi] at h
    | some i =>
      refine ⟨?_, ?_⟩
      · cases d <;> simp [hu, hi] at h <;> (obtain ⟨rfl, rfl⟩ := h; simp [isAgg, run_underlying hu])
      · cases d <;> simp [hu, hi] at h <;> (obtain ⟨rfl, rfl⟩ := h; simp [sizeOf, typeInfo, hi])

end Go.Proofs.Ythgjacfikicgnaa.K
