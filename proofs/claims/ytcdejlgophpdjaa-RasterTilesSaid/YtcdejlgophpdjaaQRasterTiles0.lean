/-
  A small local memory on which translated code is run by a function; what it finds holds of the real memory (first part: values, relations, quiet steps).
-/
import Derived.WalkKit
section
namespace Go.Proofs.Ytcdejlgophpdjaa.V
open Go Go.RowKit

inductive All2 {α β : Type} (R : α → β → Prop) : List α → List β → Prop
  | nil : All2 R [] []
  | cons {x y xs ys} : R x y → All2 R xs ys → All2 R (x :: xs) (y :: ys)

namespace All2
variable {α β : Type} {R S : α → β → Prop}
theorem mono (h : ∀ x y, R x y → S x y) {l m} (a : All2 R l m) : All2 S l m := by
  induction a with
  | nil => exact .nil
  | cons r _ ih => exact .cons (h _ _ r) ih
theorem length {l m} (a : All2 R l m) : l.length = m.length := by
  induction a with
  | nil => rfl
  | cons _ _ ih => simp [ih]
theorem take {l m} (a : All2 R l m) (n : Nat) : All2 R (l.take n) (m.take n) := by
  induction a generalizing n with
  | nil => simp; exact .nil
  | cons r _ ih => cases n with
    | zero => simp; exact .nil
    | succ n => simp; exact .cons r (ih n)
theorem drop {l m} (a : All2 R l m) (n : Nat) : All2 R (l.drop n) (m.drop n) := by
  induction a generalizing n with
  | nil => simp; exact .nil
  | cons r t ih => cases n with
    | zero => simp; exact .cons r t
    | succ n => simp; exact ih n
theorem append {l m l' m'} (a : All2 R l m) (b : All2 R l' m') : All2 R (l ++ l') (m ++ m') := by
  induction a with
  | nil => exact b
  | cons r _ ih => exact .cons r ih
theorem get {l m} (a : All2 R l m) {i : Nat} {x : α} (h : l[i]? = some x) : ∃ y, m[i]? = some y ∧ R x y := by
  induction a generalizing i with
  | nil => simp at h
  | cons r _ ih => cases i with
    | zero => simp at h; subst h; exact ⟨_, by simp, r⟩
    | succ i => simp at h; obtain ⟨y, h1, h2⟩ := ih h; exact ⟨y, by simpa using h1, h2⟩
theorem of_mapM {f : β → Option α} (hf : ∀ y x, f y = some x → R x y) : ∀ {m : List β} {l : List α}, m.mapM f = some l → All2 R l m
  | [], l, h => by simp at h; subst h; exact .nil
  | y :: m, l, h => by
    rw [List.mapM_cons] at h
    simp only [bind, Option.bind_eq_some_iff, pure, Option.some.injEq] at h
    obtain ⟨x, hx, l', hl, rfl⟩ := h
    exact .cons (hf _ _ hx) (of_mapM hf hl)
end All2


/-- One cell's content. The mark of a number, a bool, a text: it is not known to the kernel. Block numbers are the local memory's own. -/
inductive At where
  | bool (s : Bool) (b : Bool)
  | int (s : Bool) (k : IntKind) (n : Int)
  | str (s : Bool) (x : ByteArray)
  | ptr (b off : Nat)
  | prw (s : Bool) (b v st e i j : Nat)
  | nil
  | slc (s : Bool) (b v st e off len : Nat)
  | vec (b v e : Nat)
  | nils
  | fn (f : Nat) (caps : List (Nat × Nat))
  | nilfn
  | val (u : Value)
  | unk

/-- A value: a cell's content, a struct or an array by its cells, a tuple. -/
inductive LV where
  | a (x : At)
  | g (l : List At)
  | t (l : List LV)
  | u

/-- Where a block of the local memory stands: block and place (none: a slice that is nil), how many cells, how many rows, its version; whether it may not be written. -/
structure Inf where
  ty : TypeId
  a : Option (Nat × Nat)
  z : Nat
  n : Nat
  v : Nat
  ro : Bool

abbrev Phi := Nat → Option Inf

def Inf.le (i j : Inf) : Prop := i = j ∨ i.v < j.v
def Phi.le (φ ψ : Phi) : Prop := ∀ b i, φ b = some i → ∃ j, ψ b = some j ∧ i.le j
theorem Inf.le_refl (i : Inf) : i.le i := .inl rfl
theorem Inf.le_trans {i j k : Inf} (h : i.le j) (g : j.le k) : i.le k := by
  rcases h with rfl | h
  · exact g
  · rcases g with rfl | g
    · exact .inr h
    · exact .inr (Nat.lt_trans h g)
theorem Phi.le_refl (φ : Phi) : φ.le φ := fun _ i h => ⟨i, h, i.le_refl⟩
theorem Phi.le_trans {φ ψ χ : Phi} (h : φ.le ψ) (k : ψ.le χ) : φ.le χ := fun b i e =>
  let ⟨j, hj, l⟩ := h b i e
  let ⟨m, hm, l'⟩ := k b j hj
  ⟨m, hm, Inf.le_trans l l'⟩

/-- What holds of a value that looks into a block, if it is of the block's version. -/
def vrel (φ : Phi) (b v : Nat) (u : Value) (R : Inf → Prop) : Prop := (u.oneCell' = true ∧ u.cells = #[u]) ∧ ∃ i, φ b = some i ∧ v ≤ i.v ∧ (v = i.v → R i)

theorem vrel.mono {φ ψ : Phi} (h : φ.le ψ) {b v : Nat} {u : Value} {R : Inf → Prop} (k : vrel φ b v u R) : vrel ψ b v u R := by
  obtain ⟨h0, i, h1, h2, h3⟩ := k
  obtain ⟨j, g1, g2⟩ := h b i h1
  rcases g2 with rfl | g2
  · exact ⟨h0, i, g1, h2, h3⟩
  · exact ⟨h0, j, g1, by omega, fun e => by omega⟩

/-- A pointer to a block's cell: blocks that are never moved have version 0. -/
def prel (φ : Phi) (p : Nat × Nat) (u : Value) : Prop := vrel φ p.1 0 u fun i => ∃ r o, i.a = some (r, o) ∧ u = .pointer (some ⟨r, o + p.2, none⟩)

def vecR (e : Nat) (v : Value) (i : Inf) : Prop :=
  (i.a = none ∧ i.n = 0 ∧ v = .slice none 0 0) ∨ ∃ r o cap, i.a = some (r, o) ∧ v = .slice (some ⟨r, o, none⟩) i.n cap ∧ i.n ≤ cap ∧ cap * e = i.z ∧ cap ≤ maxLen

def slcR (st e off len : Nat) (v : Value) (i : Inf) : Prop :=
  off + len ≤ i.n ∧ ∃ a cap, v = .slice a len cap ∧ len ≤ cap ∧ (len = 0 ∨ ∃ r o, i.a = some (r, o) ∧ a = some ⟨r, o + (st + off * e), none⟩)

def prwR (st e p q : Nat) (v : Value) (i : Inf) : Prop :=
  p < i.n ∧ q < e ∧ ∃ r o, i.a = some (r, o) ∧ v = .pointer (some ⟨r, o + (st + p * e + q), none⟩)

def At.rel (φ : Phi) : At → Value → Prop
  | .bool _ b, v => v = .bool b
  | .int _ k n, v => v = .int k n
  | .str _ s, v => v = .string s
  | .ptr b o, v => prel φ (b, o) v
  | .prw _ b ver st e p q, v => vrel φ b ver v (prwR st e p q v)
  | .nil, v => v = .pointer none
  | .slc _ b ver st e off len, v => vrel φ b ver v (slcR st e off len v)
  | .vec b ver e, v => vrel φ b ver v (vecR e v)
  | .nils, v => v = .slice none 0 0
  | .fn f caps, v => ∃ cs : Array Value, v = .func (.func f) #[] cs ∧ All2 (prel φ) caps cs.toList
  | .nilfn, v => v = .nilFunc
  | .val u, v => (v.oneCell' = true ∧ v.cells = #[v]) ∧ v = u
  | .unk, v => v.oneCell' = true ∧ v.cells = #[v]

def LV.rel1 (φ : Phi) : LV → Value → Prop
  | .a x, v => x.rel φ v
  | .g l, v => ∃ cs : Array Value, v = .agg cs ∧ All2 (At.rel φ) l cs.toList
  | .t _, _ => False
  | .u, _ => True

def LV.rel (φ : Phi) : LV → Value → Prop
  | .t l, v => ∃ vs : Array Value, v = .tuple vs ∧ All2 (LV.rel1 φ) l vs.toList
  | x, v => x.rel1 φ v

theorem prel.mono {φ ψ : Phi} (h : φ.le ψ) {p u} (k : prel φ p u) : prel ψ p u := vrel.mono h k

theorem At.rel_mono {φ ψ : Phi} (h : φ.le ψ) {x : At} {v : Value} (k : x.rel φ v) : x.rel ψ v := by
  cases x <;> simp only [At.rel] at * <;> try first | exact k | exact vrel.mono h k | exact prel.mono h k
  obtain ⟨cs, e, f⟩ := k; exact ⟨cs, e, f.mono fun _ _ => prel.mono h⟩

theorem LV.rel1_mono {φ ψ : Phi} (h : φ.le ψ) {x : LV} {v : Value} (k : x.rel1 φ v) : x.rel1 ψ v := by
  cases x <;> simp only [LV.rel1] at *
  · exact At.rel_mono h k
  · obtain ⟨cs, e, f⟩ := k; exact ⟨cs, e, f.mono fun _ _ => At.rel_mono h⟩

theorem LV.rel_mono {φ ψ : Phi} (h : φ.le ψ) {x : LV} {v : Value} (k : x.rel φ v) : x.rel ψ v := by
  cases x with
  | a x => exact LV.rel1_mono (x := .a x) h k
  | g l => exact LV.rel1_mono (x := .g l) h k
  | t l => obtain ⟨vs, e, f⟩ := k; exact ⟨vs, e, f.mono fun _ _ => LV.rel1_mono h⟩
  | u => trivial

theorem At.rel_one {φ : Phi} {x : At} {v : Value} (h : x.rel φ v) : v.oneCell' = true ∧ v.cells = #[v] := by
  cases x <;> simp only [At.rel, prel] at h <;> first | exact h | exact h.1 | (subst h; exact ⟨rfl, rfl⟩) | (obtain ⟨cs, rfl, _⟩ := h; exact ⟨rfl, rfl⟩)

theorem At.rel_unk {φ : Phi} {x : At} {v : Value} (h : x.rel φ v) : At.rel φ .unk v := At.rel_one h

/-- The real value of what bears no address. -/
def At.real0 : At → Value
  | .bool _ b => .bool b
  | .int _ k n => .int k n
  | .str _ s => .string s
  | .nil => .pointer none
  | .nils => .slice none 0 0
  | .nilfn => .nilFunc
  | _ => undef

def At.free : At → Bool
  | .bool .. | .int .. | .str .. | .nil | .nils | .nilfn => true
  | _ => false

/-- Is it not known to the kernel? -/
def At.sym : At → Bool
  | .bool s _ | .int s _ _ | .str s _ => s
  | _ => false

def LV.real0 : LV → Value
  | .a x => x.real0
  | .g l => .agg (l.map At.real0).toArray
  | _ => undef

def LV.free : LV → Bool
  | .a x => x.free
  | .g l => l.all At.free
  | _ => false

def LV.sym : LV → Bool
  | .a x => x.sym
  | .g l => l.any At.sym
  | _ => false

theorem At.of_free {φ : Phi} {x : At} {v : Value} (hf : x.free = true) (h : x.rel φ v) : v = x.real0 := by
  cases x <;> simp_all [At.rel, At.free, At.real0]

theorem LV.of_free {φ : Phi} {x : LV} {v : Value} (hf : x.free = true) (h : x.rel φ v) : v = x.real0 := by
  cases x with
  | a x => exact At.of_free hf h
  | g l =>
    obtain ⟨cs, rfl, k⟩ := h
    simp only [LV.free] at hf
    have e : cs.toList = l.map At.real0 := by
      generalize cs.toList = m at k ⊢
      induction k with
      | nil => rfl
      | cons r _ ih =>
        simp only [List.all_cons, Bool.and_eq_true] at hf
        simp only [List.map_cons, ih hf.2, At.of_free hf.1 r]
    simp [LV.real0, ← e]
  | t l => simp [LV.free] at hf
  | u => simp [LV.free] at hf

/-- A real value without addresses as a local one. -/
def At.ofVal (s : Bool) : Value → Option At
  | .bool b => some (.bool s b)
  | .int k n => some (.int s k n)
  | .string x => some (.str s x)
  | .pointer none => some .nil
  | .slice none 0 0 => some .nils
  | .nilFunc => some .nilfn
  | .func (.func f) ⟨[]⟩ ⟨[]⟩ => some (.fn f [])
  | _ => none

def atsOf (s : Bool) : List Value → Option (List At)
  | [] => some []
  | v :: r => match At.ofVal s v, atsOf s r with
    | some x, some l => some (x :: l)
    | _, _ => none

def LV.ofVal (s : Bool) : Value → Option LV
  | .agg cs => match atsOf s cs.toList with
    | some l => some (.g l)
    | none => none
  | v => match At.ofVal s v with
    | some x => some (.a x)
    | none => none

theorem At.ofVal_rel {s : Bool} {v : Value} {x : At} (h : At.ofVal s v = some x) (φ : Phi) : x.rel φ v := by
  unfold At.ofVal at h
  split at h <;> simp at h <;> subst h <;> simp [At.rel]
  exact .nil

theorem atsOf_rel {s : Bool} (φ : Phi) : ∀ {l : List Value} {m : List At}, atsOf s l = some m → All2 (At.rel φ) m l
  | [], m, h => by simp only [atsOf, Option.some.injEq] at h; subst h; exact .nil
  | v :: r, m, h => by
    unfold atsOf at h
    split at h
    · rename_i x l h1 h2
      simp only [Option.some.injEq] at h; subst h
      exact .cons (At.ofVal_rel h1 φ) (atsOf_rel φ h2)
    · cases h

theorem LV.ofVal_rel {s : Bool} {v : Value} {x : LV} (h : LV.ofVal s v = some x) (φ : Phi) : x.rel φ v := by
  unfold LV.ofVal at h
  split at h
  · split at h
    · rename_i l h1
      simp only [Option.some.injEq] at h; subst h
      exact ⟨_, rfl, atsOf_rel φ h1⟩
    · cases h
  · split at h
    · rename_i x' h1
      simp only [Option.some.injEq] at h; subst h
      exact At.ofVal_rel h1 φ
    · cases h

/-- What a step that neither reads nor writes memory hands back, whatever the world. -/
def calm (P : Program) {α : Type} : Sem α → Option α
  | .pure a => some a
  | .program k => calm P (k P)
  | .mark _ k => calm P k
  | _ => none

theorem calm_run {P : Program} {α : Type} : ∀ (s : Sem α) {a : α}, calm P s = some a → ∀ w, s.run P w = .ok a w
  | .pure a, b, h, w => by simp [calm] at h; subst h; rfl
  | .program k, b, h, w => calm_run (k P) (by simpa [calm] using h) w
  | .mark m k, b, h, w => calm_run k (by simpa [calm] using h) w
  | .load .., b, h, w => by simp [calm] at h
  | .store .., b, h, w => by simp [calm] at h
  | .new .., b, h, w => by simp [calm] at h
  | .shape .., b, h, w => by simp [calm] at h
  | .freeze .., b, h, w => by simp [calm] at h
  | .frozen .., b, h, w => by simp [calm] at h
  | .getObj .., b, h, w => by simp [calm] at h
  | .setObj .., b, h, w => by simp [calm] at h
  | .choose .., b, h, w => by simp [calm] at h
  | .sys .., b, h, w => by simp [calm] at h
  | .halt .., b, h, w => by simp [calm] at h


/-! Finite maps, by lists. -/
def look {β : Type} : List (Nat × β) → Nat → Option β
  | [], _ => none
  | (k, v) :: r, n => match Nat.beq n k with
    | true => some v
    | false => look r n

/-- A list over what was there. -/
def over {β : Type} : List (Nat × β) → (Nat → Option β) → Nat → Option β
  | [], f, n => f n
  | (k, v) :: r, f, n => match Nat.beq n k with
    | true => some v
    | false => over r f n

def upd {β : Type} (f : Nat → Option β) (k : Nat) (v : β) : Nat → Option β := fun n => if n = k then some v else f n
theorem upd_same {β : Type} (f : Nat → Option β) (k : Nat) (v : β) : upd f k v k = some v := by simp [upd]
theorem upd_other {β : Type} (f : Nat → Option β) {k n : Nat} (v : β) (h : n ≠ k) : upd f k v n = f n := by simp [upd, h]

theorem over_nil {β : Type} (f : Nat → Option β) : over [] f = f := rfl
theorem over_cons {β : Type} (k : Nat) (v : β) (r : List (Nat × β)) (f : Nat → Option β) : over ((k, v) :: r) f = upd (over r f) k v := by
  funext n
  simp only [over, upd]
  cases hb : Nat.beq n k
  · have : n ≠ k := fun e => by subst e; simp at hb
    simp [this]
  · have : n = k := Nat.eq_of_beq_eq_true hb
    simp [this]
theorem over_append {β : Type} (l m : List (Nat × β)) (f : Nat → Option β) : over (l ++ m) f = over l (over m f) := by
  induction l with
  | nil => rfl
  | cons p r ih => obtain ⟨k, v⟩ := p; rw [List.cons_append, over_cons, over_cons, ih]

/-- The last one of a list counts. -/
def updL {β : Type} (f : Nat → Option β) : List (Nat × β) → Nat → Option β
  | [] => f
  | (k, v) :: r => updL (upd f k v) r

theorem over_of_updL {β : Type} : ∀ (l : List (Nat × β)) (d : List (Nat × β)) (f : Nat → Option β), over (l.foldl (fun d p => p :: d) d) f = updL (over d f) l
  | [], d, f => rfl
  | (k, v) :: r, d, f => by
    simp only [List.foldl_cons, updL]
    rw [over_of_updL r ((k, v) :: d) f, over_cons]

end Go.Proofs.Ytcdejlgophpdjaa.V
end

section
namespace Go.Proofs.Ytcdejlgophpdjaa.V
open Go Go.RowKit

/-- The kind of a number or bool in a row. -/
inductive Kd where
  | int (k : IntKind)
  | bool

def Kd.val : Kd → Int → Value
  | .int k, n => .int k n
  | .bool, n => .bool (n != 0)

def Kd.at : Kd → Int → At
  | .int k, n => .int true k n
  | .bool, n => .bool true (n != 0)

def encA : Kd → At → Option Int
  | .int k, .int _ k' n => match decide (k = k') with
    | true => some n
    | false => none
  | .bool, .bool _ b => some (bif b then 1 else 0)
  | _, _ => none

theorem Kd.at_rel (φ : Phi) (k : Kd) (n : Int) : (k.at n).rel φ (k.val n) := by cases k <;> rfl

theorem encA_val {φ : Phi} {k : Kd} {x : At} {n : Int} {v : Value} (h : encA k x = some n) (hv : x.rel φ v) : v = k.val n := by
  unfold encA at h
  split at h
  · split at h
    · rename_i hk
      have := of_decide_eq_true hk
      subst this
      simp only [Option.some.injEq] at h; subst h
      exact hv
    · cases h
  · simp only [Option.some.injEq] at h; subst h
    rename_i b
    have hv' : v = .bool b := hv
    subst hv'
    cases b <;> rfl
  · cases h

/-- Rows of numbers within a block: from where on, of which kinds; how many there are for good, if that is so. -/
structure Rw where
  st : Nat
  sh : List Kd
  l : List (List Int)
  fx : Option Nat

/-- A block's head: its version, how many cells, may it not be written, its rows. -/
structure Hd where
  v : Nat
  z : Nat
  ro : Bool
  R : Option Rw

abbrev Sig := Nat → Option LV
abbrev Mem := Nat → Option At
abbrev Hds := Nat → Option Hd

/-- The rows stand in the cells. -/
def RowsIn (arr : Array Value) (o : Nat) (R : Rw) : Prop :=
  (∀ (p : Nat) row, R.l[p]? = some row → row.length = R.sh.length ∧ ∀ (j : Nat) n k, row[j]? = some n → R.sh[j]? = some k → arr[o + (R.st + p * R.sh.length + j)]? = some (k.val n)) ∧
  R.st + R.l.length * R.sh.length + o ≤ arr.size

/-- May its rows become more? -/
def Hd.grows (h : Hd) : Bool := match h.R with
  | some R => R.fx.isNone
  | none => false

def HdOK (heap : Nat → Option Obj) (i : Inf) (h : Hd) : Prop :=
  i.v = h.v ∧ i.ro = h.ro ∧ (h.grows = false → i.v = 0 ∧ i.z = h.z ∧ (h.R = none → i.n = i.z)) ∧
  ∀ R, h.R = some R → R.l.length = i.n ∧ (∀ N, R.fx = some N → i.n = N) ∧
    ((i.a = none ∧ R.l = [] ∧ R.fx = none) ∨ ∃ r o arr ty fz, i.a = some (r, o) ∧ heap r = some (.cells arr ty fz) ∧ RowsIn arr o R ∧ R.st + R.l.length * R.sh.length ≤ i.z)

def CellOK (heap : Nat → Option Obj) (φ : Phi) (i : Inf) (off : Nat) (x : At) : Prop :=
  i.v = 0 ∧ off < i.z ∧ ∃ r o arr ty fz v, i.a = some (r, o) ∧ heap r = some (.cells arr ty fz) ∧ arr[o + off]? = some v ∧ x.rel φ v

/-- Cells and rows of a block lie apart; what may become more has no cells. -/
def Apart (off : Nat) (h : Hd) : Prop := h.grows = false ∧ ∀ R, h.R = some R → off < R.st ∨ R.st + R.l.length * R.sh.length ≤ off

/-- The local memory stands in the real memory of w at the blocks that φ tells; nothing else of what was there in w0 has turned, but where 'may' allows it. -/
structure MR (w0 : World) (may : Nat → Prop) (φ : Phi) (μ : Mem) (ρ : Hds) (fr : Nat → Prop) (w : World) : Prop where
  cell : ∀ k x, μ k = some x → x = .unk ∨ ∃ i, φ (k / 65536) = some i ∧ CellOK (w.heap[·]?) φ i (k % 65536) x
  hdr : ∀ b h, ρ b = some h → ∃ i, φ b = some i ∧ HdOK (w.heap[·]?) i h
  apart : ∀ k x h, μ k = some x → x ≠ .unk → ρ (k / 65536) = some h → Apart (k % 65536) h
  inj : ∀ b b' i i' r o o', φ b = some i → φ b' = some i' → i.a = some (r, o) → i'.a = some (r, o') → b = b' ∨ (i.ro = true ∧ i'.ro = true)
  own : ∀ b i r o, φ b = some i → i.a = some (r, o) → i.ro = false → (may r ∨ w0.heap.size ≤ r) ∧ o = 0 ∧ ∃ arr, w.heap[r]? = some (.cells arr i.ty (0, 0)) ∧ arr.size = i.z
  keep : ∀ b i r o, φ b = some i → i.a = some (r, o) → i.ro = true → r < w0.heap.size ∧ ¬ may r
  dom : ∀ b, fr b → φ b = none
  big : ∀ b i r o, φ b = some i → i.a = some (r, o) → r < w.heap.size
  os : w.os = w0.os
  tape : w.tape = w0.tape
  output : w.output = w0.output
  size : w0.heap.size ≤ w.heap.size
  block : ∀ k, k < w0.heap.size → ¬ may k → w.heap[k]? = w0.heap[k]?
  frz : ∀ a, w.frozen? a = w0.frozen? a

theorem CellOK.other {heap heap' : Nat → Option Obj} {φ ψ : Phi} {i : Inf} {off : Nat} {x : At} (hle : φ.le ψ) (h : CellOK heap φ i off x) (hh : ∀ r o, i.a = some (r, o) → heap' r = heap r) : CellOK heap' ψ i off x := by
  obtain ⟨h1, h2, r, o, arr, ty, fz, v, h3, h4, h5, h6⟩ := h
  exact ⟨h1, h2, r, o, arr, ty, fz, v, h3, (hh r o h3).trans h4, h5, At.rel_mono hle h6⟩

theorem HdOK.other {heap heap' : Nat → Option Obj} {i : Inf} {h : Hd} (k : HdOK heap i h) (hh : ∀ r o, i.a = some (r, o) → heap' r = heap r) : HdOK heap' i h := by
  obtain ⟨h1, h2, h2', h3⟩ := k
  refine ⟨h1, h2, h2', fun R hR => ?_⟩
  obtain ⟨g1, g2, g3⟩ := h3 R hR
  refine ⟨g1, g2, ?_⟩
  rcases g3 with g3 | ⟨r, o, arr, ty, fz, g4, g5, g6, g7⟩
  · exact .inl g3
  · exact .inr ⟨r, o, arr, ty, fz, g4, (hh r o g4).trans g5, g6, g7⟩

theorem phi_upd_le {φ : Phi} {b : Nat} {j : Inf} (h : φ b = none ∨ ∃ i, φ b = some i ∧ i.le j) : φ.le (fun n => if n = b then some j else φ n) := by
  intro c i e
  by_cases hc : c = b
  · subst hc
    rcases h with h | ⟨i', h1, h2⟩
    · rw [h] at e; cases e
    · rw [h1] at e; simp only [Option.some.injEq] at e; subst e
      exact ⟨j, by simp, h2⟩
  · exact ⟨i, by simp [hc, e], i.le_refl⟩

/-- One block is turned, or placed anew: the general step. -/
theorem MR.step {w0 : World} {may : Nat → Prop} {φ : Phi} {μ μ' : Mem} {ρ ρ' : Hds} {fr : Nat → Prop} {w w' : World} (h : MR w0 may φ μ ρ fr w) {b : Nat} {j : Inf} {r : Nat} {arr : Array Value}
    (hb : φ b = none ∨ ∃ i, φ b = some i ∧ i.le j ∧ i.ro = false) (ja : j.a = some (r, 0)) (jro : j.ro = false) (jz : arr.size = j.z)
    (hr : (∃ i, φ b = some i ∧ i.a = some (r, 0)) ∨ w.heap.size ≤ r) (hheap : w'.heap[r]? = some (.cells arr j.ty (0, 0)))
    (hoth : ∀ k, k < w.heap.size → k ≠ r → w'.heap[k]? = w.heap[k]?) (os : w'.os = w.os) (tape : w'.tape = w.tape) (output : w'.output = w.output) (size : w.heap.size ≤ w'.heap.size) (frz : ∀ a, w'.frozen? a = w.frozen? a)
    (hμ : ∀ k x, μ' k = some x → (k / 65536 ≠ b ∧ μ k = some x) ∨ x = .unk ∨ (k / 65536 = b ∧ CellOK (w'.heap[·]?) (fun n => if n = b then some j else φ n) j (k % 65536) x))
    (hρ : ∀ c g, ρ' c = some g → (c ≠ b ∧ ρ c = some g) ∨ (c = b ∧ HdOK (w'.heap[·]?) j g))
    (hap : ∀ k x g, μ' k = some x → x ≠ .unk → k / 65536 = b → ρ' b = some g → Apart (k % 65536) g) :
    MR w0 may (fun n => if n = b then some j else φ n) μ' ρ' (fun c => fr c ∧ c ≠ b) w' := by
  have hle : φ.le (fun n => if n = b then some j else φ n) := phi_upd_le (hb.imp id fun ⟨i, h1, h2, _⟩ => ⟨i, h1, h2⟩)
  have other : ∀ c i r' o', c ≠ b → φ c = some i → i.a = some (r', o') → r' ≠ r := by
    intro c i r' o' hc hi hia e
    subst e
    rcases hr with ⟨i', h1, h2⟩ | hr
    · have hro : i'.ro = false := by
        rcases hb with hb | ⟨i'', g1, _, g3⟩
        · rw [hb] at h1; cases h1
        · rw [g1] at h1; simp only [Option.some.injEq] at h1; subst h1; exact g3
      rcases h.inj c b i i' r' o' 0 hi h1 hia h2 with e | ⟨_, e⟩
      · exact hc e
      · rw [hro] at e; cases e
    · have := h.big c i r' o' hi hia; omega
  have hsame : ∀ c i, c ≠ b → φ c = some i → ∀ r' o', i.a = some (r', o') → w'.heap[r']? = w.heap[r']? := fun c i hc hi r' o' hia =>
    hoth r' (h.big c i r' o' hi hia) (other c i r' o' hc hi hia)
  have hrw : r < w'.heap.size := (Array.getElem?_eq_some_iff.1 hheap).1
  constructor
  · intro k x hx
    rcases hμ k x hx with ⟨h1, h2⟩ | h1 | ⟨h1, h2⟩
    · rcases h.cell k x h2 with h3 | ⟨i, h3, h4⟩
      · exact .inl h3
      · exact .inr ⟨i, by simp [h1, h3], h4.other hle (hsame _ i h1 h3)⟩
    · exact .inl h1
    · exact .inr ⟨j, by simp [h1], h2⟩
  · intro c g hg
    rcases hρ c g hg with ⟨h1, h2⟩ | ⟨h1, h2⟩
    · obtain ⟨i, h3, h4⟩ := h.hdr c g h2
      exact ⟨i, by simp [h1, h3], h4.other (hsame _ i h1 h3)⟩
    · exact ⟨j, by simp [h1], h2⟩
  · intro k x g hx hne hg
    by_cases hk : k / 65536 = b
    · exact hap k x g hx hne hk (by rw [← hk]; exact hg)
    · rcases hμ k x hx with ⟨_, h2⟩ | h1 | ⟨h1, _⟩
      · rcases hρ _ g hg with ⟨_, h4⟩ | ⟨h3, _⟩
        · exact h.apart k x g h2 hne h4
        · exact absurd h3 hk
      · exact absurd h1 hne
      · exact absurd h1 hk
  · intro c c' i i' r' o o' hc hc' hi hi'
    by_cases e : c = b <;> by_cases e' : c' = b
    · exact .inl (e.trans e'.symm)
    · simp only [e, if_true, Option.some.injEq] at hc; subst hc
      simp only [e', if_false] at hc'
      rw [ja] at hi; simp only [Option.some.injEq, Prod.mk.injEq] at hi
      exact absurd hi.1.symm (other c' i' r' o' e' hc' hi')
    · simp only [e', if_true, Option.some.injEq] at hc'; subst hc'
      simp only [e, if_false] at hc
      rw [ja] at hi'; simp only [Option.some.injEq, Prod.mk.injEq] at hi'
      exact absurd hi'.1.symm (other c i r' o e hc hi)
    · simp only [e, e', if_false] at hc hc'
      exact h.inj c c' i i' r' o o' hc hc' hi hi'
  · intro c i r' o hc hi hro
    by_cases e : c = b
    · simp only [e, if_true, Option.some.injEq] at hc; subst hc
      rw [ja] at hi; simp only [Option.some.injEq, Prod.mk.injEq] at hi
      obtain ⟨rfl, rfl⟩ := hi
      refine ⟨?_, rfl, arr, hheap, jz⟩
      rcases hr with ⟨i', h1, h2⟩ | hr
      · have hro' : i'.ro = false := by
          rcases hb with hb | ⟨i'', g1, _, g3⟩
          · rw [hb] at h1; cases h1
          · rw [g1] at h1; simp only [Option.some.injEq] at h1; subst h1; exact g3
        exact (h.own b i' r 0 h1 h2 hro').1
      · right; have := h.size; omega
    · simp only [e, if_false] at hc
      obtain ⟨h1, h2, ar, h3, h4⟩ := h.own c i r' o hc hi hro
      exact ⟨h1, h2, ar, (hsame c i e hc r' o hi).trans h3, h4⟩
  · intro c i r' o hc hi hro
    by_cases e : c = b
    · simp only [e, if_true, Option.some.injEq] at hc; subst hc; rw [jro] at hro; cases hro
    · simp only [e, if_false] at hc; exact h.keep c i r' o hc hi hro
  · intro c hc
    simp only [hc.2, if_false]; exact h.dom c hc.1
  · intro c i r' o hc hi
    by_cases e : c = b
    · simp only [e, if_true, Option.some.injEq] at hc; subst hc
      rw [ja] at hi; simp only [Option.some.injEq, Prod.mk.injEq] at hi
      obtain ⟨rfl, rfl⟩ := hi; exact hrw
    · simp only [e, if_false] at hc; have := h.big c i r' o hc hi; omega
  · exact os.trans h.os
  · exact tape.trans h.tape
  · exact output.trans h.output
  · have := h.size; omega
  · intro k hk hm
    have hne : k ≠ r := by
      intro e
      subst e
      rcases hr with ⟨i', h1, h2⟩ | hr
      · have hro' : i'.ro = false := by
          rcases hb with hb | ⟨i'', g1, _, g3⟩
          · rw [hb] at h1; cases h1
          · rw [g1] at h1; simp only [Option.some.injEq] at h1; subst h1; exact g3
        rcases (h.own b i' k 0 h1 h2 hro').1 with h3 | h3
        · exact hm h3
        · omega
      · have := h.size; omega
    rw [hoth k (by have := h.size; omega) hne]; exact h.block k hk hm
  · intro a; rw [frz a]; exact h.frz a

theorem MR.drop {w0 : World} {may : Nat → Prop} {φ : Phi} {μ : Mem} {ρ : Hds} {fr fr' : Nat → Prop} {w : World} (h : MR w0 may φ μ ρ fr w) (hf : ∀ b, fr' b → fr b) : MR w0 may φ μ ρ fr' w :=
  ⟨h.cell, h.hdr, h.apart, h.inj, h.own, h.keep, fun b hb => h.dom b (hf b hb), h.big, h.os, h.tape, h.output, h.size, h.block, h.frz⟩

/-- What is not told any more. -/
theorem MR.less {w0 : World} {may : Nat → Prop} {φ : Phi} {μ μ' : Mem} {ρ ρ' : Hds} {fr : Nat → Prop} {w : World} (h : MR w0 may φ μ ρ fr w) (hμ : ∀ k x, μ' k = some x → x = .unk ∨ μ k = some x) (hρ : ∀ b g, ρ' b = some g → ρ b = some g) :
    MR w0 may φ μ' ρ' fr w := by
  refine ⟨fun k x hx => ?_, fun b g hg => h.hdr b g (hρ b g hg), fun k x g hx hne hg => ?_, h.inj, h.own, h.keep, h.dom, h.big, h.os, h.tape, h.output, h.size, h.block, h.frz⟩
  · rcases hμ k x hx with e | e
    · exact .inl e
    · exact h.cell k x e
  · rcases hμ k x hx with e | e
    · exact absurd e hne
    · exact h.apart k x g e hne (hρ _ g hg)

theorem MR.drawn {w0 : World} {may : Nat → Prop} {φ : Phi} {μ : Mem} {ρ : Hds} {fr : Nat → Prop} {w : World} (h : MR w0 may φ μ ρ fr w) (n : Nat) : MR w0 may φ μ ρ fr { w with drawn := n } :=
  ⟨h.cell, h.hdr, h.apart, h.inj, h.own, h.keep, h.dom, h.big, h.os, h.tape, h.output, h.size, h.block, h.frz⟩

theorem frozen_alloc (w : World) (arr : Array Value) (ty : TypeId) (p : Addr) : (w.alloc (.cells arr ty)).frozen? p = w.frozen? p := by
  simp only [World.frozen?]
  by_cases hk : p.block < w.heap.size
  · rw [Below.heap_alloc _ _ _ hk]
  · have e1 : w.heap[p.block]? = none := by simp; omega
    rw [e1]
    by_cases hk2 : p.block = w.heap.size
    · have e2 : (w.alloc (.cells arr ty)).heap[p.block]? = some (.cells arr ty (0, 0)) := by
        rw [hk2]; show (w.heap.push _)[w.heap.size]? = _; simp
      rw [e2]; simp
    · have e2 : (w.alloc (.cells arr ty)).heap[p.block]? = none := by
        show (w.heap.push _)[p.block]? = _
        rw [Array.getElem?_push, if_neg (by omega)]; exact e1
      rw [e2]

theorem frozen_setRow {w : World} {r : Nat} {old arr : Array Value} {ty : TypeId} (ho : w.heap[r]? = some (.cells old ty (0, 0))) (p : Addr) : (w.setRow r arr).frozen? p = w.frozen? p := by
  simp only [World.frozen?]
  by_cases hk : p.block = r
  · rw [hk, setRow_heap w r old arr ty _ ho, ho]
  · rw [setRow_other _ _ _ _ hk]

def TRel (φ : Phi) (σ : Sig) (tmps : Array Value) : Prop := ∀ t lv, σ t = some lv → lv.rel φ (tmps.getD t undef)

theorem TRel.mono {φ ψ : Phi} (h : φ.le ψ) {σ : Sig} {tmps : Array Value} (k : TRel φ σ tmps) : TRel ψ σ tmps := fun t lv e => LV.rel_mono h (k t lv e)

def lev (σ : Sig) : Operand → Option LV
  | .tmp t => σ t
  | .const v => LV.ofVal false v
  | .func f => some (.a (.fn f []))
  | .global _ => none

theorem lev_rel {φ : Phi} {σ : Sig} {a : Act} (h : TRel φ σ a.tmps) {x : Operand} {lv : LV} (e : lev σ x = some lv) : lv.rel φ (a.eval x) := by
  cases x with
  | tmp t => exact h _ _ e
  | const v => exact LV.ofVal_rel e φ
  | func f => simp only [lev, Option.some.injEq] at e; subst e; exact ⟨#[], rfl, .nil⟩
  | global g => simp [lev] at e

def shape (P : Program) (t : TypeId) : Option (Bool × Nat) :=
  match P.underlying t, P.info? t with
  | some (.struct _), some i => some (true, i.size)
  | some (.array _ _), some i => some (true, i.size)
  | some _, some i => some (false, i.size)
  | _, _ => none

theorem shape_run {P : Program} {t : TypeId} {q : Bool} {n : Nat} (h : shape P t = some (q, n)) (w : World) :
    (isAgg t).run P w = .ok q w ∧ (sizeOf t).run P w = .ok n w := by
  unfold shape at h
  cases hu : P.underlying t with
  | none => simp [hu] at h
  | some d =>
    cases hi : P.info? t with
    | none => cases d <;> simp [hu, hi] at h
    | some i =>
      refine ⟨?_, ?_⟩
      · cases d <;> simp [hu, hi] at h <;> (obtain ⟨rfl, rfl⟩ := h; simp [isAgg, run_underlying hu])
      · cases d <;> simp [hu, hi] at h <;> (obtain ⟨rfl, rfl⟩ := h; simp [sizeOf, typeInfo, hi])

end Go.Proofs.Ytcdejlgophpdjaa.V
end

section
namespace Go.Proofs.Ytcdejlgophpdjaa.V
open Go Go.RowKit

def Alls : List Prop → Prop
  | [] => True
  | p :: ps => p ∧ Alls ps

theorem Alls.append {l m : List Prop} : Alls (l ++ m) ↔ Alls l ∧ Alls m := by
  induction l with
  | nil => simp [Alls]
  | cons p ps ih => simp [Alls, ih, and_assoc]

/-- A block as a callee is handed it: its head, its cells. -/
structure BC where
  h : Hd
  cs : List (Option At)

abbrev Con := List LV → List BC → Option (List Prop × LV × List (Option BC))
abbrev Tab := List (Nat × Con)

def find : Tab → Nat → List LV → List BC → Option (List Prop × LV × List (Option BC))
  | [], _, _, _ => none
  | (g, c) :: T, f, args, bs => match Nat.beq g f with
    | true => match c args bs with
      | some r => some r
      | none => find T f args bs
    | false => find T f args bs

theorem find_mem {T : Tab} {f : Nat} {args : List LV} {bs : List BC} {r : List Prop × LV × List (Option BC)} (h : find T f args bs = some r) : ∃ c, (f, c) ∈ T ∧ c args bs = some r := by
  induction T with
  | nil => simp [find] at h
  | cons p T ih =>
    obtain ⟨g, c'⟩ := p
    have rest : find T f args bs = some r → ∃ c, (f, c) ∈ (g, c') :: T ∧ c args bs = some r := fun h => by
      obtain ⟨c, h1, h2⟩ := ih h
      exact ⟨c, List.mem_cons_of_mem _ h1, h2⟩
    unfold find at h
    split at h
    · rename_i hb
      have : g = f := Nat.eq_of_beq_eq_true hb
      subst this
      split at h
      · rename_i r' hc
        simp only [Option.some.injEq] at h
        subst h
        exact ⟨c', by simp, hc⟩
      · exact rest h
    · exact rest h

/-! Rows. -/
def rget (l : List (List Int)) (i j : Nat) : Int := (l.getD i []).getD j 0
def wr (row : List Int) : Nat → List Int → List Int
  | _, [] => row
  | j, v :: vs => wr (row.set j v) (j + 1) vs
def rset (l : List (List Int)) (i j : Nat) (vs : List Int) : List (List Int) := l.set i (wr (l.getD i []) j vs)

def encs : List Kd → List At → Option (List Int)
  | [], [] => some []
  | k :: ks, x :: xs => match encA k x, encs ks xs with
    | some n, some l => some (n :: l)
    | _, _ => none
  | _, _ => none

/-- Cells as so many rows. -/
def encRows (sh : List Kd) : Nat → List At → Option (List (List Int))
  | 0, [] => some []
  | 0, _ :: _ => none
  | n + 1, l => match encs sh (l.take sh.length), encRows sh n (l.drop sh.length) with
    | some r, some rs => some (r :: rs)
    | _, _ => none

def kdOf : At → Option Kd
  | .int _ k _ => some (.int k)
  | .bool .. => some .bool
  | _ => none

def kdsOf : List At → Option (List Kd)
  | [] => some []
  | x :: r => match kdOf x, kdsOf r with
    | some k, some ks => some (k :: ks)
    | _, _ => none

def kdEq : Kd → Kd → Bool
  | .int k, .int k' => decide (k = k')
  | .bool, .bool => true
  | _, _ => false

def kdsEq : List Kd → List Kd → Bool
  | [], [] => true
  | k :: ks, k' :: ks' => match kdEq k k' with
    | true => kdsEq ks ks'
    | false => false
  | _, _ => false

def ksAt : List Kd → Nat → List Kd
  | ks, 0 => ks
  | _ :: ks, n + 1 => ksAt ks n
  | [], _ + 1 => []

/-- All of one kind. -/
def oneKd : List Kd → Option Kd
  | [] => none
  | k :: ks => match ks.all (kdEq k) with
    | true => some k
    | false => none

def atRow (l : List (List Int)) (i : Nat) : List Kd → Nat → Nat → Option (List At)
  | _, _, 0 => some []
  | [], _, _ + 1 => none
  | k :: ks, j, n + 1 => match atRow l i ks (j + 1) n with
    | some r => some (k.at (rget l i j) :: r)
    | none => none

/-! Reading a block. -/
def rdr (ρ : Hds) (b k : Nat) : Option At :=
  match ρ b with
  | some h => match h.R with
    | some R => match R.fx with
      | some N => match Nat.ble R.st k && Nat.blt k (R.st + N * R.sh.length) with
        | true => match R.sh[(k - R.st) % R.sh.length]? with
          | some kd => some (kd.at (rget R.l ((k - R.st) / R.sh.length) ((k - R.st) % R.sh.length)))
          | none => none
        | false => none
      | none => none
    | none => none
  | none => none

def rdc (μ : Mem) (ρ : Hds) (b k : Nat) : Option At :=
  match Nat.blt k 65536 with
  | true => match μ (b * 65536 + k) with
    | some .unk => rdr ρ b k
    | some x => some x
    | none => rdr ρ b k
  | false => none

def rdAll (μ : Mem) (ρ : Hds) (b : Nat) : Nat → Nat → Option (List At)
  | _, 0 => some []
  | k, n + 1 => match rdc μ ρ b k, rdAll μ ρ b (k + 1) n with
    | some x, some l => some (x :: l)
    | _, _ => none

/-- Is the block there, of this version? -/
def cur (ρ : Hds) (b v : Nat) : Option Hd :=
  match ρ b with
  | some h => match Nat.beq h.v v with
    | true => some h
    | false => none
  | none => none

def loadP (P : Program) (μ : Mem) (ρ : Hds) (t : TypeId) (b off : Nat) : Option LV :=
  match cur ρ b 0, shape P t with
  | some _, some (true, n) => match rdAll μ ρ b off n with
    | some l => some (.g l)
    | none => none
  | some _, some (false, _) => match rdc μ ρ b off with
    | some x => some (.a x)
    | none => none
  | _, _ => none

def rowsAt (ρ : Hds) (b v st e : Nat) : Option (Hd × Rw) :=
  match cur ρ b v with
  | some h => match h.R with
    | some R => match Nat.beq R.st st && Nat.beq R.sh.length e with
      | true => some (h, R)
      | false => none
    | none => none
  | none => none

def loadR (P : Program) (ρ : Hds) (t : TypeId) (s : Bool) (b v st e i j : Nat) : Option LV :=
  match rowsAt ρ b v st e, shape P t, s with
  | some (_, R), some (true, n), false => match atRow R.l i (ksAt R.sh j) j n with
    | some l => some (.g l)
    | none => none
  | some (_, R), some (false, _), false => match R.sh[j]? with
    | some k => some (.a (k.at (rget R.l i j)))
    | none => none
  | some (_, R), some (false, _), true => match oneKd R.sh with
    | some k => some (.a (k.at (rget R.l i j)))
    | none => none
  | _, _, _ => none

def vcells : LV → Option (List At)
  | .a x => some [x]
  | .g l => some l
  | _ => none

def enum (b : Nat) : Nat → List At → List (Nat × At)
  | _, [] => []
  | k, x :: r => (b * 65536 + k, x) :: enum b (k + 1) r

abbrev Ret := Option (List Prop × LV × List (Nat × At) × List (Nat × Hd))

/-- Does the store lie apart from the block's rows? -/
def apartR (h : Hd) (off n : Nat) : Bool :=
  match h.R with
  | none => true
  | some R => match R.fx with
    | some N => Nat.ble (off + n) R.st || Nat.ble (R.st + N * R.sh.length) off
    | none => false

def allCells (μ : Mem) (b : Nat) : Nat → Nat → Bool
  | _, 0 => true
  | k, n + 1 => match μ (b * 65536 + k) with
    | some _ => allCells μ b (k + 1) n
    | none => false

def withRows (h : Hd) (R : Rw) (l : List (List Int)) : Hd := ⟨h.v, h.z, h.ro, some ⟨R.st, R.sh, l, R.fx⟩⟩

def storeP (P : Program) (ρ : Hds) (t : TypeId) (b off : Nat) (vs : List At) : Ret :=
  match cur ρ b 0, shape P t with
  | some h, some (_, n) => match Nat.beq vs.length n && !h.ro && Nat.ble (off + n) h.z && Nat.ble h.z 65536 with
    | true => match apartR h off n with
      | true => some ([], .t [], enum b off vs, [])
      | false => match h.R with
        | some R => match R.fx with
          | some N => match Nat.ble off R.st && Nat.ble (R.st + N * R.sh.length) (off + n) with
            | true => match encRows R.sh N ((vs.drop (R.st - off)).take (N * R.sh.length)) with
              | some l => some ([], .t [], enum b off (vs.take (R.st - off)) ++ enum b (R.st + N * R.sh.length) (vs.drop (R.st - off + N * R.sh.length)), [(b, withRows h R l)])
              | none => none
            | false => match Nat.ble R.st off && Nat.ble ((off - R.st) % R.sh.length + n) R.sh.length && Nat.ble (off + n) (R.st + N * R.sh.length) with
              | true => match encs ((ksAt R.sh ((off - R.st) % R.sh.length)).take n) vs with
                | some ns => some ([], .t [], [], [(b, withRows h R (rset R.l ((off - R.st) / R.sh.length) ((off - R.st) % R.sh.length) ns))])
                | none => none
              | false => none
          | none => none
        | none => none
    | false => none
  | _, _ => none

def storeR (P : Program) (ρ : Hds) (t : TypeId) (s : Bool) (b v st e i j : Nat) (vs : List At) : Ret :=
  match rowsAt ρ b v st e, shape P t, s with
  | some (h, R), some (_, n), false => match Nat.beq vs.length n && !h.ro, encs ((ksAt R.sh j).take n) vs with
    | true, some ns => match Nat.beq j 0 && Nat.beq n e with
      | true => some ([], .t [], [], [(b, withRows h R (R.l.set i ns))])
      | false => some ([], .t [], [], [(b, withRows h R (rset R.l i j ns))])
    | _, _ => none
  | some (h, R), some (_, n), true => match oneKd R.sh with
    | some k => match Nat.beq vs.length 1 && Nat.beq n 1 && !h.ro, encs [k] vs with
      | true, some ns => some ([], .t [], [], [(b, withRows h R (rset R.l i j ns))])
      | _, _ => none
    | none => none
  | _, _, _ => none

/-! Cells that are found by a number that is not known. -/
def col (μ : Mem) (ρ : Hds) (b e : Nat) : Nat → Nat → Option (List At)
  | _, 0 => some []
  | k, n + 1 => match rdc μ ρ b k, col μ ρ b e (k + e) n with
    | some x, some l => some (x :: l)
    | _, _ => none

/-- All of one kind: their numbers. -/
def oneCol : List At → Option (Kd × List Int)
  | [] => none
  | x :: l => match kdOf x with
    | some k => match encs (List.replicate (l.length + 1) k) (x :: l) with
      | some ns => some (k, ns)
      | none => none
    | none => none

def cols (μ : Mem) (ρ : Hds) (b e i N : Nat) : Nat → Nat → Option (List At)
  | _, 0 => some []
  | k, n + 1 => match (col μ ρ b e k N).bind oneCol, cols μ ρ b e i N (k + 1) n with
    | some (kd, ns), some r => some (kd.at (ns.getD i 0) :: r)
    | _, _ => none

def loadC (P : Program) (μ : Mem) (ρ : Hds) (t : TypeId) (s : Bool) (b v st e i j : Nat) : Option (List Prop × LV) :=
  match cur ρ b 0, shape P t, s, Nat.beq v 0 && Nat.ble 1 e with
  | some h, some (true, n), false, true => match h.R, Nat.ble (j + n) e with
    | none, true => match cols μ ρ b e i ((h.z - st) / e) (st + j) n with
      | some l => some ([i < (h.z - st) / e], .g l)
      | none => none
    | _, _ => none
  | some h, some (false, _), false, true => match h.R with
    | none => match cols μ ρ b e i ((h.z - st) / e) (st + j) 1 with
      | some [x] => some ([i < (h.z - st) / e], .a x)
      | _ => none
    | some _ => none
  | _, _, _, _ => none

def mixA (c : Bool) : At → At → Option At
  | .int _ k n, .int _ k' m => match decide (k = k') with
    | true => some (.int true k (bif c then n else m))
    | false => none
  | .bool _ a, .bool _ b => some (.bool true (bif c then a else b))
  | _, _ => none

def mixCells (μ : Mem) (ρ : Hds) (b : Nat) (c : Bool) : Nat → List At → Option (List (Nat × At))
  | _, [] => some []
  | k, y :: r => match (rdc μ ρ b k).bind (mixA c y), mixCells μ ρ b c (k + 1) r with
    | some x, some l => some ((b * 65536 + k, x) :: l)
    | _, _ => none

def mixRows (μ : Mem) (ρ : Hds) (b e i k : Nat) (vs : List At) : Nat → Option (List (Nat × At))
  | 0 => some []
  | p + 1 => match mixCells μ ρ b (Nat.beq i p) (k + p * e) vs, mixRows μ ρ b e i k vs p with
    | some l, some m => some (l ++ m)
    | _, _ => none

def storeC (P : Program) (μ : Mem) (ρ : Hds) (t : TypeId) (s : Bool) (b v st e i j : Nat) (vs : List At) : Ret :=
  match cur ρ b 0, shape P t, s with
  | some h, some (_, n), false => match h.R, Nat.beq v 0 && Nat.beq vs.length n && !h.ro && Nat.ble (j + n) e && Nat.ble 1 e && Nat.ble st h.z && Nat.ble h.z 65536 with
    | none, true => match mixRows μ ρ b e i (st + j) vs ((h.z - st) / e) with
      | some cs => some ([i < (h.z - st) / e], .t [], cs, [])
      | none => none
    | _, _ => none
  | _, _, _ => none

/-! Numbers that are asked for. -/
def idxOK (s : Bool) (i : Int) (n : Nat) : Option (List Prop) :=
  match s with
  | false => match decide (0 ≤ i ∧ i < (n : Int)) with
    | true => some []
    | false => none
  | true => some [0 ≤ i ∧ i < (n : Int)]

theorem idxOK_spec {s : Bool} {i : Int} {n : Nat} {obs : List Prop} (h : idxOK s i n = some obs) (ho : Alls obs) : 0 ≤ i ∧ i < (n : Int) := by
  unfold idxOK at h
  split at h
  · split at h
    · rename_i hh; exact of_decide_eq_true hh
    · cases h
  · simp only [Option.some.injEq] at h; subst h; exact ho.1

def bndOK (s : Bool) (l h : Int) (n : Nat) : Option (List Prop) :=
  match s with
  | false => match decide (0 ≤ l ∧ l ≤ h ∧ h ≤ (n : Int)) with
    | true => some []
    | false => none
  | true => some [0 ≤ l ∧ l ≤ h ∧ h ≤ (n : Int)]

theorem bndOK_spec {s : Bool} {l h : Int} {n : Nat} {obs : List Prop} (e : bndOK s l h n = some obs) (ho : Alls obs) : 0 ≤ l ∧ l ≤ h ∧ h ≤ (n : Int) := by
  unfold bndOK at e
  split at e
  · split at e
    · rename_i hh; exact of_decide_eq_true hh
    · cases e
  · simp only [Option.some.injEq] at e; subst e; exact ho.1

def divOK (s : Bool) (m : Int) : Option (List Prop) :=
  match s with
  | false => match decide (m = 0) with
    | false => some []
    | true => none
  | true => some [m ≠ 0]

theorem divOK_spec {s : Bool} {m : Int} {obs : List Prop} (h : divOK s m = some obs) (ho : Alls obs) : m ≠ 0 := by
  unfold divOK at h
  split at h
  · split at h
    · rename_i hh; exact of_decide_eq_false hh
    · cases h
  · simp only [Option.some.injEq] at h; subst h; exact ho.1

def shOK (s : Bool) (m : Int) : Option (List Prop) :=
  match s with
  | false => match decide (0 ≤ m) with
    | true => some []
    | false => none
  | true => some [0 ≤ m]

theorem shOK_spec {s : Bool} {m : Int} {obs : List Prop} (h : shOK s m = some obs) (ho : Alls obs) : 0 ≤ m := by
  unfold shOK at h
  split at h
  · split at h
    · rename_i hh; exact of_decide_eq_true hh
    · cases h
  · simp only [Option.some.injEq] at h; subst h; exact ho.1

def rho (σ : Sig) (x : Operand) : Value := match lev σ x with
  | some lv => lv.real0
  | none => undef

def opsFree (σ : Sig) : List Operand → Bool
  | [] => true
  | x :: r => match lev σ x with
    | some lv => match lv.free with
      | true => opsFree σ r
      | false => false
    | none => false

def opsSym (σ : Sig) : List Operand → Bool
  | [] => false
  | x :: r => match lev σ x with
    | some lv => match lv.sym with
      | true => true
      | false => opsSym σ r
    | none => opsSym σ r

theorem rho_eq {φ : Phi} {σ : Sig} {a : Act} (h : TRel φ σ a.tmps) : ∀ {l : List Operand}, opsFree σ l = true → ∀ {x : Operand}, x ∈ l → rho σ x = a.eval x
  | [], _, x, hx => by cases hx
  | y :: r, hf, x, hx => by
    unfold opsFree at hf
    split at hf
    · rename_i lv e
      split at hf
      · rename_i hfr
        rcases List.mem_cons.1 hx with rfl | hx
        · simp only [rho, e]
          exact (LV.of_free hfr (lev_rel h e)).symm
        · exact rho_eq h hf hx
      · cases hf
    · cases hf

def calmOp (P : Program) (σ : Sig) (o : Oper) : Ret :=
  match opsFree σ o.op.operands.toList with
  | true => match calm P (execOp (rho σ) o) with
    | some (.value v) => match LV.ofVal (opsSym σ o.op.operands.toList) v with
      | some lv => some ([], lv, [], [])
      | none => none
    | _ => none
  | false => none

/-- Cells of a struct's part. -/
def lpart (P : Program) (t : TypeId) (l : List At) (off : Nat) : Option LV :=
  match shape P t with
  | some (true, n) => some (.g ((l.drop off).take n))
  | some (false, _) => match l[off]? with
    | some x => some (.a x)
    | none => none
  | none => none

def lfill (place : Nat → Option (Nat × Nat)) : List At → List (Nat × LV) → Option (List At)
  | cells, [] => some cells
  | cells, (i, v) :: rest => match place i, vcells v with
    | some (off, size), some vs => match Nat.beq vs.length size && Nat.ble (off + size) cells.length with
      | true => lfill place (cells.take off ++ vs ++ cells.drop (off + vs.length)) rest
      | false => none
    | _, _ => none

def zeroL (P : Program) (t : TypeId) : Option (List At) :=
  match P.info? t with
  | some i => match i.zero with
    | some z => match LV.ofVal false z with
      | some lv => vcells lv
      | none => none
    | none => none
  | none => none

def lparts (σ : Sig) : List (Nat × Operand) → Option (List (Nat × LV))
  | [] => some []
  | (i, x) :: rest => match lev σ x, lparts σ rest with
    | some v, some r => some ((i, v) :: r)
    | _, _ => none

def lbuild (P : Program) (t : TypeId) (parts : List (Nat × LV)) : Option (List At) :=
  match P.underlying t, zeroL P t with
  | some (.array _ e), some z => match P.info? e with
    | some ie => lfill (fun i => some (i * ie.size, ie.size)) z parts
    | none => none
  | some (.struct fields), some z => match fields.toList.mapM (fun f => (P.info? f.type).map fun i => (f.offset, i.size)) with
    | some places => lfill (places.toArray[·]?) z parts
    | none => none
  | _, _ => none

def lcaps : List LV → Option (List (Nat × Nat))
  | [] => some []
  | .a (.ptr b o) :: r => match lcaps r with
    | some l => some ((b, o) :: l)
    | none => none
  | _ => none

def levs (σ : Sig) : List Operand → Option (List LV)
  | [] => some []
  | x :: r => match lev σ x, levs σ r with
    | some v, some l => some (v :: l)
    | _, _ => none

def lbool (v : LV) : Option (Bool × Bool) := match v with
  | .a (.bool s b) => some (s, b)
  | _ => none

/-! Blocks' names, from the caller's to the callee's and back. -/
def idxOf (b : Nat) : List Nat → Nat → Option Nat
  | [], _ => none
  | c :: r, i => match Nat.beq c b with
    | true => some i
    | false => idxOf b r (i + 1)

def renB (ρ : Hds) (foot : List Nat) (b v : Nat) : Option Nat :=
  match idxOf b foot 0 with
  | some i => match cur ρ b v with
    | some _ => some i
    | none => none
  | none => none

def renC (ρ : Hds) (foot : List Nat) : List (Nat × Nat) → Option (List (Nat × Nat))
  | [] => some []
  | (b, o) :: r => match renB ρ foot b 0, renC ρ foot r with
    | some i, some l => some ((i, o) :: l)
    | _, _ => none

def renA (ρ : Hds) (foot : List Nat) : At → At
  | .ptr b o => match renB ρ foot b 0 with
    | some i => .ptr i o
    | none => .unk
  | .prw s b v st e i j => match renB ρ foot b v with
    | some c => .prw s c 0 st e i j
    | none => .unk
  | .slc s b v st e off len => match renB ρ foot b v with
    | some c => .slc s c 0 st e off len
    | none => .unk
  | .vec b v e => match renB ρ foot b v with
    | some c => .vec c 0 e
    | none => .unk
  | .fn f caps => match renC ρ foot caps with
    | some l => .fn f l
    | none => .unk
  | x => x

def renV (ρ : Hds) (foot : List Nat) : LV → LV
  | .a x => .a (renA ρ foot x)
  | .g l => .g (l.map (renA ρ foot))
  | _ => .u

def renO (ρ : Hds) (foot : List Nat) : Option At → Option At
  | some x => match renA ρ foot x with
    | .unk => none
    | y => some y
  | none => none

/-- Does a cell lie in the block's rows (which are so many for good)? -/
def inReg (h : Hd) (k : Nat) : Bool := match h.R with
  | some R => match R.fx with
    | some N => Nat.ble R.st k && Nat.blt k (R.st + N * R.sh.length)
    | none => false
  | none => false

def blkCells (μ : Mem) (ρ : Hds) (foot : List Nat) (b : Nat) (h : Hd) : Nat → Nat → List (Option At)
  | _, 0 => []
  | k, n + 1 => (match inReg h k with
    | true => none
    | false => renO ρ foot (μ (b * 65536 + k))) :: blkCells μ ρ foot b h (k + 1) n

def blkOf (μ : Mem) (ρ : Hds) (foot : List Nat) (b : Nat) : Option BC :=
  match ρ b with
  | some h => match Nat.ble h.z 65536 with
    | true => some ⟨⟨0, h.z, h.ro, h.R⟩, blkCells μ ρ foot b h 0 h.z⟩
    | false => none
  | none => none

def blksOf (μ : Mem) (ρ : Hds) (foot : List Nat) : List Nat → Option (List BC)
  | [] => some []
  | b :: r => match blkOf μ ρ foot b, blksOf μ ρ foot r with
    | some c, some l => some (c :: l)
    | _, _ => none

/-- Back: a callee's name, and how far its version goes beyond. -/
def backB (ρ : Hds) (foot : List Nat) (id i : Nat) : Nat × Nat :=
  match foot[i]? with
  | some b => match ρ b with
    | some h => (b, h.v)
    | none => (b, 0)
  | none => (id + (i - foot.length), 0)

def backC (ρ : Hds) (foot : List Nat) (id : Nat) : List (Nat × Nat) → Option (List (Nat × Nat))
  | [] => some []
  | (i, o) :: r => match backB ρ foot id i, backC ρ foot id r with
    | (b, v), some l => match Nat.beq v 0 with
      | true => some ((b, o) :: l)
      | false => none
    | _, none => none

def backA (ρ : Hds) (foot : List Nat) (id : Nat) : At → At
  | .ptr i o => match backB ρ foot id i with
    | (b, v) => match Nat.beq v 0 with
      | true => .ptr b o
      | false => .unk
  | .prw s i v st e p q => match backB ρ foot id i with
    | (b, u) => .prw s b (u + v) st e p q
  | .slc s i v st e off len => match backB ρ foot id i with
    | (b, u) => .slc s b (u + v) st e off len
  | .vec i v e => match backB ρ foot id i with
    | (b, u) => .vec b (u + v) e
  | .fn f caps => match backC ρ foot id caps with
    | some l => .fn f l
    | none => .unk
  | x => x

def backV (ρ : Hds) (foot : List Nat) (id : Nat) : LV → Option LV
  | .a x => some (.a (backA ρ foot id x))
  | .g l => some (.g (l.map (backA ρ foot id)))
  | _ => none

def backVs (ρ : Hds) (foot : List Nat) (id : Nat) : List LV → Option (List LV)
  | [] => some []
  | x :: r => match backV ρ foot id x, backVs ρ foot id r with
    | some y, some l => some (y :: l)
    | _, _ => none

def backT (ρ : Hds) (foot : List Nat) (id : Nat) : LV → Option LV
  | .t l => match backVs ρ foot id l with
    | some m => some (.t m)
    | none => none
  | x => backV ρ foot id x

/-- Cells that nobody knows of as it is: those in the rows' place. -/
def skipOf (ρ : Hds) (foot : List Nat) (i : Nat) : Nat → Bool := match foot[i]? with
  | some b => match ρ b with
    | some h => inReg h
    | none => fun _ => false
  | none => fun _ => false

def backCells (sk : Nat → Bool) (ρ : Hds) (foot : List Nat) (id b u : Nat) : Nat → List (Option At) → List (Nat × At)
  | _, [] => []
  | k, x :: r => match sk k with
    | true => backCells sk ρ foot id b u (k + 1) r
    | false => (b * 65536 + k, match x, Nat.beq u 0 with
      | some y, true => backA ρ foot id y
      | _, _ => .unk) :: backCells sk ρ foot id b u (k + 1) r

/-- What the caller's memory becomes: by what the callee says of each block. -/
def backBlks (ρ : Hds) (foot : List Nat) (id : Nat) : Nat → List (Option BC) → List (Nat × At) × List (Nat × Hd)
  | _, [] => ([], [])
  | i, none :: r => backBlks ρ foot id (i + 1) r
  | i, some c :: r => match backB ρ foot id i, backBlks ρ foot id (i + 1) r with
    | (b, u), (cs, hs) => (backCells (skipOf ρ foot i) ρ foot id b u 0 c.cs ++ cs, (b, ⟨u + c.h.v, c.h.z, c.h.ro, c.h.R⟩) :: hs)

def cellBound : List (Option BC) → Bool
  | [] => true
  | none :: r => cellBound r
  | some c :: r => match Nat.beq c.cs.length c.h.z && Nat.ble c.h.z 65536 && !c.h.ro with
    | true => cellBound r
    | false => false

/-- All cells of a written block are told. -/
def zOK : List BC → List (Option BC) → Bool
  | [], _ => true
  | _ :: _, [] => false
  | _ :: bs, none :: out => zOK bs out
  | b :: bs, some c :: out => match Nat.ble b.h.z c.cs.length with
    | true => zOK bs out
    | false => false

/-- A block that was moved may become more. -/
def vOK (ρ : Hds) (foot : List Nat) (id : Nat) : Nat → List (Option BC) → Bool
  | _, [] => true
  | i, none :: out => vOK ρ foot id (i + 1) out
  | i, some c :: out => match Nat.beq (backB ρ foot id i).2 0 || c.h.grows with
    | true => vOK ρ foot id (i + 1) out
    | false => false

def allSet : List (Option BC) → Bool
  | [] => true
  | none :: _ => false
  | some _ :: r => allSet r

def nodupB : List Nat → Bool
  | [] => true
  | b :: r => match idxOf b r 0 with
    | some _ => false
    | none => nodupB r

/-- A call: 'foot' names the caller's blocks that the callee may look into; new ones are named from id on (at most 16). -/
def lcallF (T : Tab) (id : Nat) (foot : List Nat) (σ : Sig) (μ : Mem) (ρ : Hds) (x : Operand) (ags : List Operand) : Ret :=
  match lev σ x, levs σ ags with
  | some (.a (.fn f caps)), some args => match blksOf μ ρ foot foot, nodupB foot with
    | some bs, true => match find T f ((args ++ caps.map fun p => LV.a (.ptr p.1 p.2)).map (renV ρ foot)) bs with
      | some (obs, v, out) => match cellBound out && zOK bs out && vOK ρ foot id 0 out && Nat.ble out.length (foot.length + 16) && allSet (out.drop foot.length), backT ρ foot id v with
        | true, some v' => match backBlks ρ foot id 0 out with
          | (cs, hs) => some (obs, v', cs, hs)
        | _, _ => none
      | none => none
    | _, _ => none
  | _, _ => none

/-! append, make -/
def srcRows (μ : Mem) (ρ : Hds) (sh : List Kd) : LV → Option (List (List Int))
  | .a .nils => some []
  | .a (.vec b v e) => match rowsAt ρ b v 0 e with
    | some (_, R) => match kdsEq R.sh sh with
      | true => some R.l
      | false => none
    | none => none
  | .a (.slc s b v st e off len) => match rowsAt ρ b v st e with
    | some (_, R) => match kdsEq R.sh sh with
      | true => some ((R.l.drop off).take len)
      | false => none
    | none => match s, Nat.beq v 0, cur ρ b 0, rdAll μ ρ b (st + off * e) (len * e) with
      | false, true, some _, some l => match Nat.beq e sh.length with
        | true => encRows sh len l
        | false => none
      | _, _, _, _ => none
  | _ => none

def grow (id : Nat) (ρ : Hds) (bytes : Nat) (z : Nat) (sh : List Kd) (new : List (List Int)) : LV → Ret
  | .a .nils => some ([new.length * bytes ≤ 70368744177664], .a (.vec id 0 z), [], [(id, ⟨0, 0, false, some ⟨0, sh, new, none⟩⟩)])
  | .a (.vec b v e) => match rowsAt ρ b v 0 e with
    | some (h, R) => match kdsEq R.sh sh && !h.ro, R.fx with
      | true, none => some ([(R.l ++ new).length * bytes ≤ 70368744177664], .a (.vec b (v + 1) e), [], [(b, ⟨v + 1, 0, false, some ⟨0, sh, R.l ++ new, none⟩⟩)])
      | _, _ => none
    | none => none
  | _ => none

def lappend (P : Program) (id : Nat) (σ : Sig) (μ : Mem) (ρ : Hds) (x y : Operand) (tx ty : TypeId) : Ret :=
  match P.underlying tx, P.underlying ty, lev σ x, lev σ y with
  | some (.slice e), some (.slice e'), some vx, some vy => match zeroL P e, P.info? e with
    | some zs, some ie => match kdsOf zs, Nat.beq e e' && Nat.beq tx ty && Nat.ble 1 zs.length && Nat.beq zs.length ie.size && Nat.ble 1 ie.bytes with
      | some sh, true => match srcRows μ ρ sh vy with
        | some new => grow id ρ ie.bytes zs.length sh new vx
        | none => none
      | _, _ => none
    | _, _ => none
  | _, _, _, _ => none

/-- Where rows are copied to: block, version, cells of a row, from which row on, how many. -/
def dstOf (ρ : Hds) : At → Option (Nat × Nat × Nat × Nat × Nat)
  | .vec b v e => match rowsAt ρ b v 0 e with
    | some (_, R) => some (b, v, e, 0, R.l.length)
    | none => none
  | .slc _ b v 0 e off n => some (b, v, e, off, n)
  | _ => none

def lcopy (P : Program) (σ : Sig) (μ : Mem) (ρ : Hds) (x y : Operand) (tx : TypeId) : Ret :=
  match P.underlying tx, lev σ x, lev σ y with
  | some (.slice el), some (.a d), some vy => match P.info? el, dstOf ρ d with
    | some ie, some (b, v, e, off, n) => match rowsAt ρ b v 0 e with
      | some (h, R) => match Nat.beq ie.size e && Nat.ble 1 e && !h.ro, R.fx, srcRows μ ρ R.sh vy with
        | true, none, some new => some ([], .a (.int true .i64 (Int.ofNat (Nat.min new.length n))), [], [(b, withRows h R (R.l.take off ++ new.take n ++ R.l.drop (off + Nat.min new.length n)))])
        | _, _, _ => none
      | none => none
    | _, _ => none
  | _, _, _ => none

/-- So many zeros appended. -/
def lappendZ (P : Program) (id : Nat) (σ : Sig) (ρ : Hds) (x y : Operand) (tx ty : TypeId) : Ret :=
  match P.underlying tx, P.underlying ty, lev σ x, lev σ y with
  | some (.slice e), some (.int _), some vx, some (.a (.int _ _ m)) => match zeroL P e, P.info? e with
    | some zs, some ie => match kdsOf zs, Nat.ble 1 zs.length && Nat.beq zs.length ie.size && Nat.ble 1 ie.bytes with
      | some sh, true => match encs sh zs with
        | some row => match grow id ρ ie.bytes zs.length sh (List.replicate m.toNat row) vx with
          | some (obs, r) => some ((0 ≤ m) :: obs, r)
          | none => none
        | none => none
      | _, _ => none
    | _, _ => none
  | _, _, _, _ => none

def lmake (P : Program) (id : Nat) (σ : Sig) (t : TypeId) (x y : Operand) : Ret :=
  match P.underlying t, lev σ x, lev σ y with
  | some (.slice e), some (.a (.int _ .i64 n)), some (.a (.int _ .i64 m)) => match zeroL P e, P.info? e with
    | some zs, some ie => match kdsOf zs, Nat.ble 1 zs.length && Nat.beq zs.length ie.size && Nat.ble 1 ie.bytes with
      | some sh, true => match encs sh zs with
        | some row => some ([0 ≤ n ∧ n = m ∧ n * (ie.bytes : Int) ≤ 70368744177664], .a (.vec id 0 zs.length), [], [(id, ⟨0, 0, false, some ⟨0, sh, List.replicate n.toNat row, none⟩⟩)])
        | none => none
      | _, _ => none
    | _, _ => none
  | _, _, _ => none

def lcall (P : Program) (T : Tab) (id : Nat) (foot : List Nat) (σ : Sig) (μ : Mem) (ρ : Hds) (c : Call) (o : Oper) : Ret :=
  match c.callee with
  | .value x => lcallF T id foot σ μ ρ x c.args.toList
  | .builtin .append => match c.args.toList, c.argTypes.toList with
    | [x, y], [tx, ty] => match lappend P id σ μ ρ x y tx ty with
      | some r => some r
      | none => lappendZ P id σ ρ x y tx ty
    | _, _ => none
  | .builtin .copy => match c.args.toList, c.argTypes.toList with
    | [x, y], [tx, _] => lcopy P σ μ ρ x y tx
    | _, _ => none
  | .builtin .len => match c.args.toList, c.argTypes.toList with
    | [x], [t] => match lev σ x, P.underlying t with
      | some (.a (.slc s b v _ _ _ n)), some (.slice _) => match cur ρ b v with
        | some _ => some ([], .a (.int s .i64 n), [], [])
        | none => none
      | some (.a (.vec b v e)), some (.slice _) => match rowsAt ρ b v 0 e with
        | some (_, R) => some ([], .a (.int true .i64 R.l.length), [], [])
        | none => none
      | some (.a .nils), some (.slice _) => some ([], .a (.int false .i64 0), [], [])
      | some _, some (.array n _) => some ([], .a (.int false .i64 n), [], [])
      | _, _ => calmOp P σ o
    | _, _ => none
  | .builtin _ => calmOp P σ o
  | _ => none

/-- '==' of structs and arrays of numbers, bools, strings. -/
def leqFields (P : Program) (rec : TypeId → LV → LV → Option Bool) (xs ys : List At) : List Field → Option Bool
  | [] => some true
  | f :: fs => match decide (f.name = "_"), lpart P f.type xs f.offset, lpart P f.type ys f.offset with
    | false, some x, some y => match rec f.type x y, fs with
      | some a, [] => some a
      | some a, g :: gs => match leqFields P rec xs ys (g :: gs) with
        | some b => some (a && b)
        | none => none
      | none, _ => none
    | _, _, _ => none

def leqItems (P : Program) (rec : TypeId → LV → LV → Option Bool) (e : TypeId) (n : Nat) (xs ys : List At) : List Nat → Option Bool
  | [] => some true
  | i :: is => match lpart P e xs (i * n), lpart P e ys (i * n) with
    | some x, some y => match rec e x y, is with
      | some a, [] => some a
      | some a, j :: js => match leqItems P rec e n xs ys (j :: js) with
        | some b => some (a && b)
        | none => none
      | none, _ => none
    | _, _ => none

def leq (P : Program) : Nat → TypeId → LV → LV → Option Bool
  | 0, _, _, _ => none
  | d + 1, t, x, y => match P.underlying t, x, y with
    | some (.int _), .a (.int _ k a), .a (.int _ k' b) => match decide (k = k') with
      | true => some (a == b)
      | false => none
    | some .bool, .a (.bool _ a), .a (.bool _ b) => some (a == b)
    | some .string, .a (.str _ a), .a (.str _ b) => some (a.toList == b.toList)
    | some (.struct fs), .g xs, .g ys => match P.stoodInHeld t with
      | false => leqFields P (leq P d) xs ys fs.toList
      | true => none
    | some (.array n e), .g xs, .g ys => match P.info? e with
      | some i => leqItems P (leq P d) e i.size xs ys (List.range n)
      | none => none
    | _, _, _ => none

def leqOp (P : Program) (t : TypeId) (x y : LV) : Option Bool :=
  match P.eqGuardType P.depth t with
  | false => leq P 20 t x y
  | true => none

def isPtr : At → Bool
  | .ptr .. | .prw .. => true
  | _ => false

/-- Is there such a block (not a slice that is nil)? -/
def there (ρ : Hds) : At → Bool
  | .ptr b _ => match cur ρ b 0 with
    | some h => match h.R with
      | none => true
      | some R => match R.fx with
        | some _ => true
        | none => false
    | none => false
  | .prw _ b v _ _ _ _ => match cur ρ b v with
    | some _ => true
    | none => false
  | _ => false

/-- A slice that has elements is not nil. -/
def lnils (P : Program) (ρ : Hds) (op : BinOp) (t : TypeId) : At → Ret
  | .vec b v e => match rowsAt ρ b v 0 e, P.underlying t, op with
    | some (_, R), some (.slice _), .eql => some ([R.l.length ≠ 0], .a (.bool false false), [], [])
    | some (_, R), some (.slice _), .neq => some ([R.l.length ≠ 0], .a (.bool false true), [], [])
    | _, _, _ => none
  | .slc _ b v _ _ _ n => match cur ρ b v, P.underlying t, op with
    | some _, some (.slice _), .eql => some ([n ≠ 0], .a (.bool false false), [], [])
    | some _, some (.slice _), .neq => some ([n ≠ 0], .a (.bool false true), [], [])
    | _, _, _ => none
  | _ => none

def lbin (P : Program) (σ : Sig) (ρ : Hds) (op : BinOp) (t : TypeId) (x y : Operand) (o : Oper) : Ret :=
  match lev σ x, lev σ y with
  | some (.g xs), some (.g ys) => match op with
    | .eql => match leqOp P t (.g xs) (.g ys) with
      | some b => some ([], .a (.bool (LV.sym (.g xs) || LV.sym (.g ys)) b), [], [])
      | none => none
    | .neq => match leqOp P t (.g xs) (.g ys) with
      | some b => some ([], .a (.bool (LV.sym (.g xs) || LV.sym (.g ys)) (!b)), [], [])
      | none => none
    | _ => none
  | some (.a (.int s k n)), some (.a (.int s' k' m)) => match op with
    | .quo => match decide (k = k'), divOK s' m with
      | true, some obs => some (obs, .a (.int (s || s') k (k.wrap (n.tdiv m))), [], [])
      | _, _ => none
    | .rem => match decide (k = k'), divOK s' m with
      | true, some obs => some (obs, .a (.int (s || s') k (n.tmod m)), [], [])
      | _, _ => none
    | .shl => match shOK s' m with
      | some obs => some (obs, .a (.int (s || s') k (k.wrap (n * 2 ^ (min m.toNat k.bits)))), [], [])
      | none => none
    | .shr => match shOK s' m with
      | some obs => some (obs, .a (.int (s || s') k (n.fdiv (2 ^ (min m.toNat k.bits)))), [], [])
      | none => none
    | _ => calmOp P σ o
  | some (.a (.str s a)), some (.a (.str s' b)) => match s || s', op with
    | true, .add => some ([((a.size + b.size : Nat) : Int) ≤ 9223372036854775807], .a (.str true (a ++ b)), [], [])
    | _, _ => calmOp P σ o
  | some (.a p), some (.a .nils) => match lnils P ρ op t p with
    | some r => some r
    | none => calmOp P σ o
  | some (.a p), some (.a .nil) => match there ρ p, op, P.underlying t with
    | true, .eql, some (.pointer _) => some ([], .a (.bool false false), [], [])
    | true, .neq, some (.pointer _) => some ([], .a (.bool false true), [], [])
    | _, _, _ => calmOp P σ o
  | _, _ => calmOp P σ o

def selI (k : IntKind) : List At → Option (List Int)
  | [] => some []
  | .int _ k' n :: r => match decide (k = k'), selI k r with
    | true, some l => some (n :: l)
    | _, _ => none
  | _ :: _ => none

def kindOf : List At → Option IntKind
  | .int _ k _ :: _ => some k
  | _ => none

/-- A bound of a slice, or what stands for it. -/
def bnd (σ : Sig) (x : Option Operand) (n : Nat) : Option (Bool × Int) :=
  match x with
  | none => some (false, n)
  | some y => match lev σ y with
    | some (.a (.int s _ i)) => some (s, i)
    | _ => none

/-- A byte of a text. -/
def byteAt (x : ByteArray) (i : Nat) : Int := match x[i]? with
  | some b => b.toNat
  | none => 0

/-- Bytes as a text. -/
def bytesOf (l : List (List Int)) : ByteArray := (l.map fun r => r.getD 0 0).foldl (fun r n => r.push (UInt8.ofNat n.toNat)) ByteArray.empty

def lconv (P : Program) (σ : Sig) (μ : Mem) (ρ : Hds) (s d : TypeId) (x : Operand) : Ret :=
  match P.underlying s, P.underlying d, lev σ x with
  | some (.slice e), some .string, some v => match P.underlying e with
    | some (.int .u8) => match srcRows μ ρ [.int .u8] v with
      | some l => some ([], .a (.str true (bytesOf l)), [], [])
      | none => none
    | _ => none
  | _, _, _ => none

/-- Are slices that are written out to be rows from the start? (Told by a contract of function 2 that asks for what is never so.) -/
def vecLit (T : Tab) : Bool := match find T 2 [.u] [] with
  | some _ => true
  | none => false

def vecLitC : Con
  | [.u], [] => some ([False], .u, [])
  | _, _ => none

/-- Which way code goes at a place, where it is to be shown afterwards. (Told as 'vecLit' is.) -/
def decC (D : List (Nat × Bool)) : Con
  | [.a (.int false .i64 p)], [] => match look D p.toNat with
    | some d => some ([False], .a (.bool false d), [])
    | none => none
  | _, _ => none

def decAt (T : Tab) (p : Nat) : Option Bool := match find T 2 [.a (.int false .i64 p)] [] with
  | some (_, .a (.bool _ d), _) => some d
  | _ => none

theorem decC_ok {D : List (Nat × Bool)} {args : List LV} {bs : List BC} {obs : List Prop} {lv : LV} {out : List (Option BC)} (h : decC D args bs = some (obs, lv, out)) (ho : Alls obs) : False := by
  unfold decC at h
  split at h
  · split at h
    · simp only [Option.some.injEq, Prod.mk.injEq] at h
      obtain ⟨rfl, rfl, rfl⟩ := h
      exact ho.1
    · cases h
  · cases h

/-- Which part of a new block of a type is rows: from where on, how many cells a row, how many rows. (Told as 'vecLit' is.) -/
def rowC (D : List (Nat × (Nat × Nat × Nat))) : Con
  | [.a (.int false .i64 t), .u], [] => match look D t.toNat with
    | some (st, e, N) => some ([False], .t [.a (.int false .i64 st), .a (.int false .i64 e), .a (.int false .i64 N)], [])
    | none => none
  | _, _ => none

def rowsFor (T : Tab) (t : Nat) : Option (Nat × Nat × Nat) := match find T 2 [.a (.int false .i64 t), .u] [] with
  | some (_, .t [.a (.int _ _ st), .a (.int _ _ e), .a (.int _ _ N)], _) => some (st.toNat, e.toNat, N.toNat)
  | _ => none

theorem rowC_ok {D : List (Nat × (Nat × Nat × Nat))} {args : List LV} {bs : List BC} {obs : List Prop} {lv : LV} {out : List (Option BC)} (h : rowC D args bs = some (obs, lv, out)) (ho : Alls obs) : False := by
  unfold rowC at h
  split at h
  · split at h
    · simp only [Option.some.injEq, Prod.mk.injEq] at h
      obtain ⟨rfl, rfl, rfl⟩ := h
      exact ho.1
    · cases h
  · cases h

/-- A new block: its cells, its head. -/
def newMix (m : Option (Nat × Nat × Nat)) (id : Nat) (l : List At) : Option (List (Nat × At) × Hd) :=
  match m with
  | none => some (enum id 0 l, ⟨0, l.length, false, none⟩)
  | some (st, e, N) => match kdsOf ((l.drop st).take e), Nat.ble (st + N * e) l.length && Nat.ble 1 e with
    | some sh, true => match encRows sh N ((l.drop st).take (N * e)), Nat.beq sh.length e with
      | some rows, true => some (enum id 0 (l.take st) ++ enum id (st + N * e) (l.drop (st + N * e)), ⟨0, l.length, false, some ⟨st, sh, rows, some N⟩⟩)
      | _, _ => none
    | _, _ => none

def lop (P : Program) (T : Tab) (id : Nat) (foot : List Nat) (σ : Sig) (μ : Mem) (ρ : Hds) (o : Oper) : Ret :=
  match o.op with
  | .move x | .assign x => match lev σ x with
    | some v => some ([], v, [], [])
    | none => none
  | .pick c x y => match (lev σ c).bind lbool with
    | some (false, q) => match (match q with
      | true => lev σ x
      | false => lev σ y) with
      | some v => some ([], v, [], [])
      | none => none
    | _ => none
  | .alloc t => match zeroL P t with
    | some l => match Nat.ble 1 l.length && Nat.ble l.length 65536, newMix (rowsFor T t) id l with
      | true, some (cs, hd) => some ([], .a (.ptr id 0), cs, [(id, hd)])
      | _, _ => none
    | none => none
  | .box t x => match (lev σ x).bind vcells with
    | some l => match Nat.ble 1 l.length && Nat.ble l.length 65536, newMix (rowsFor T t) id l with
      | true, some (cs, hd) => some ([], .a (.ptr id 0), cs, [(id, hd)])
      | _, _ => none
    | none => none
  | .build t parts => match lparts σ parts.toList with
    | some ps => match lbuild P t ps with
      | some l => some ([], .g l, [], [])
      | none => none
    | none => none
  | .buildSlice t len parts => match lparts σ parts.toList, P.underlying t with
    | some ps, some (.slice e) => match zeroL P e, P.info? e with
      | some z, some ie => match Nat.beq z.length ie.size && Nat.ble 1 z.length with
        | true => match len with
          | 0 => match kdsOf z, ps with
            | some sh, [] => some ([], .a (.vec id 0 z.length), [], [(id, ⟨0, 0, false, some ⟨0, sh, [], none⟩⟩)])
            | _, _ => none
          | n + 1 => match Nat.ble ((n + 1) * ie.size) 65536 with
            | true => match lfill (fun i => some (i * ie.size, ie.size)) ((List.replicate (n + 1) z).flatten) ps with
              | some l => match vecLit T with
                | false => some ([], .a (.slc false id 0 0 z.length 0 (n + 1)), enum id 0 l, [(id, ⟨0, l.length, false, none⟩)])
                | true => match kdsOf z with
                  | some sh => match encRows sh (n + 1) l with
                    | some rows => some ([], .a (.vec id 0 z.length), [], [(id, ⟨0, 0, false, some ⟨0, sh, rows, none⟩⟩)])
                    | none => none
                  | none => none
              | none => none
            | false => none
        | false => none
      | _, _ => none
    | _, _ => none
  | .load t x => match lev σ x with
    | some (.a (.ptr b off)) => match loadP P μ ρ t b off with
      | some v => some ([], v, [], [])
      | none => none
    | some (.a (.prw s b v st e i j)) => match loadR P ρ t s b v st e i j with
      | some v => some ([], v, [], [])
      | none => match loadC P μ ρ t s b v st e i j with
        | some (obs, v) => some (obs, v, [], [])
        | none => none
    | _ => none
  | .store t x y => match lev σ x, (lev σ y).bind vcells with
    | some (.a (.ptr b off)), some vs => storeP P ρ t b off vs
    | some (.a (.prw s b v st e i j)), some vs => match storeR P ρ t s b v st e i j vs with
      | some r => some r
      | none => storeC P μ ρ t s b v st e i j vs
    | _, _ => none
  | .nilCheck x => match lev σ x with
    | some (.a (.fn f caps)) => some ([], .a (.fn f caps), [], [])
    | some (.a p) => match there ρ p with
      | true => some ([], .a p, [], [])
      | false => none
    | _ => none
  | .fieldAddr s x f => match lev σ x, P.underlying s with
    | some (.a p), some (.struct fields) => match fields[f]? with
      | some fl => match P.info? fl.type with
        | some i => match Nat.ble 1 i.size && there ρ p, p with
          | true, .ptr b off => some ([], .a (.ptr b (off + fl.offset)), [], [])
          | true, .prw false b v st e i j => match Nat.blt (j + fl.offset) e with
            | true => some ([], .a (.prw false b v st e i (j + fl.offset)), [], [])
            | false => none
          | _, _ => none
        | none => none
      | none => none
    | _, _ => none
  | .field s x f => match lev σ x, P.underlying s with
    | some (.g l), some (.struct fields) => match fields[f]? with
      | some fl => match lpart P fl.type l fl.offset with
        | some v => some ([], v, [], [])
        | none => none
      | none => none
    | _, _ => none
  | .indexAddr t x ix => match lev σ x, lev σ ix, P.underlying t with
    | some (.a (.ptr b off)), some (.a (.int s _ i)), some (.array n e) => match P.info? e, idxOK s i n, cur ρ b 0 with
      | some ie, some obs, some h => match s with
        | false => match there ρ (.ptr b off) with
          | true => some (obs, .a (.ptr b (off + i.toNat * ie.size)), [], [])
          | false => none
        | true => match h.R with
          | some R => match Nat.beq R.st off && Nat.beq R.sh.length ie.size && Nat.ble 1 ie.size, R.fx with
            | true, some N => match Nat.beq N n with
              | true => some (obs, .a (.prw false b 0 off ie.size i.toNat 0), [], [])
              | false => none
            | _, _ => none
          | none => match Nat.ble n h.z && Nat.ble 1 ie.size with
            | true => some (obs, .a (.prw false b 0 off ie.size i.toNat 0), [], [])
            | false => none
      | _, _, _ => none
    | some (.a (.prw false b v st e p j)), some (.a (.int s _ i)), some (.array n el) => match P.info? el, idxOK s i n, there ρ (.prw false b v st e p j) with
      | some ie, some obs, true => match s with
        | false => match Nat.blt (j + i.toNat * ie.size) e with
          | true => some (obs, .a (.prw false b v st e p (j + i.toNat * ie.size)), [], [])
          | false => none
        | true => match Nat.beq ie.size 1 && Nat.ble (j + n) e with
          | true => some (obs, .a (.prw true b v st e p (j + i.toNat)), [], [])
          | false => none
      | _, _, _ => none
    | some (.a (.slc s b v st e off n)), some (.a (.int s' _ i)), some (.slice el) => match P.info? el, idxOK (s || s') i n with
      | some ie, some obs => match Nat.beq ie.size e && Nat.ble 1 e, cur ρ b v with
        | true, some h => match h.R with
          | some _ => some (obs, .a (.prw false b v st e (off + i.toNat) 0), [], [])
          | none => match s || s' with
            | false => some (obs, .a (.ptr b (st + (off + i.toNat) * e)), [], [])
            | true => none
        | _, _ => none
      | _, _ => none
    | some (.a (.vec b v e)), some (.a (.int _ _ i)), some (.slice el) => match P.info? el, rowsAt ρ b v 0 e with
      | some ie, some (_, R) => match Nat.beq ie.size e && Nat.ble 1 e, idxOK true i R.l.length with
        | true, some obs => some (obs, .a (.prw false b v 0 e i.toNat 0), [], [])
        | _, _ => none
      | _, _ => none
    | _, _, _ => none
  | .index t x ix => match lev σ x, lev σ ix, P.underlying t with
    | some (.g l), some (.a (.int false _ i)), some (.array n e) => match P.info? e, idxOK false i n with
      | some ie, some obs => match lpart P e l (i.toNat * ie.size) with
        | some v => some (obs, v, [], [])
        | none => none
      | _, _ => none
    | some (.g l), some (.a (.int true _ i)), some (.array n e) => match shape P e, P.info? e, kindOf l with
      | some (false, _), some ie, some k => match selI k l, Nat.beq l.length n && Nat.beq ie.size 1 with
        | some ns, true => some ([0 ≤ i ∧ i < (n : Int)], .a (.int true k (ns.getD i.toNat 0)), [], [])
        | _, _ => none
      | _, _, _ => none
    | some (.a (.str q x)), some (.a (.int s _ i)), some .string => match idxOK (q || s) i x.size with
      | some obs => some (obs, .a (.int (q || s) .u8 (byteAt x i.toNat)), [], [])
      | none => none
    | _, _, _ => none
  | .makeFunc (.func f) first caps => match first.toList, levs σ caps.toList with
    | [], some l => match lcaps l with
      | some ps => some ([], .a (.fn f ps), [], [])
      | none => none
    | _, _ => none
  | .extract x i => match lev σ x with
    | some (.t l) => match l[i]? with
      | some (.a y) => some ([], .a y, [], [])
      | some (.g y) => some ([], .g y, [], [])
      | _ => none
    | _ => none
  | .slice t x lo hi none => match lev σ x, P.underlying t, bnd σ lo 0 with
    | some (.a (.ptr b off)), some (.array n e), some (s, l) => match bnd σ hi n, P.info? e, cur ρ b 0 with
      | some (s', h), some ie, some hd => match s || s', bndOK false l h n with
        | false, some obs => match Nat.ble 1 ie.size && Nat.ble (off + n * ie.size) hd.z && there ρ (.ptr b off), hd.R with
          | true, none => some (obs, .a (.slc false b 0 off ie.size l.toNat (h.toNat - l.toNat)), [], [])
          | _, _ => none
        | _, _ => none
      | _, _, _ => none
    | some (.a (.slc q b v st e off n)), some (.slice el), some (s, l) => match bnd σ hi n, P.info? el, cur ρ b v with
      | some (s', h), some ie, some _ => match Nat.beq ie.size e && Nat.ble 1 e, bndOK (q || s || s') l h n with
        | true, some obs => some (obs, .a (.slc (q || s || s') b v st e (off + l.toNat) (h.toNat - l.toNat)), [], [])
        | _, _ => none
      | _, _, _ => none
    | some (.a (.vec b v e)), some (.slice el), some (_, l) => match P.info? el, rowsAt ρ b v 0 e with
      | some ie, some (_, R) => match bnd σ hi R.l.length, Nat.beq ie.size e && Nat.ble 1 e with
        | some (_, h), true => match bndOK true l h R.l.length with
          | some obs => some (obs, .a (.slc true b v 0 e l.toNat (h.toNat - l.toNat)), [], [])
          | none => none
        | _, _ => none
      | _, _ => none
    | some (.a (.str q x)), some .string, some (s, l) => match bnd σ hi x.size with
      | some (s', h) => match bndOK (q || s || s') l h x.size with
        | some obs => some (obs, .a (.str (q || s || s') (x.extract l.toNat h.toNat)), [], [])
        | none => none
      | none => none
    | _, _, _ => none
  | .makeSlice t x y => lmake P id σ t x y
  | .binOp op t x y _ => lbin P σ ρ op t x y o
  | .convert s d x => match lconv P σ μ ρ s d x with
    | some r => some r
    | none => calmOp P σ o
  | .unOp .. => calmOp P σ o
  | .call c => lcall P T id foot σ μ ρ c o
  | _ => none

end Go.Proofs.Ytcdejlgophpdjaa.V
end

section
namespace Go.Proofs.Ytcdejlgophpdjaa.V
open Go Go.RowKit

section
variable {P : Program} {w0 : World} {may : Nat → Prop} {φ : Phi} {σ : Sig} {μ : Mem} {ρ : Hds} {fr : Nat → Prop} {w : World} {a : Act} {o : Oper}

theorem wp_value {v : Value} {w' : World} (h : (execOp a.eval o).run P w = .ok (.value v) w') {next : Act → World → Prop} {Q : Exit → Act → World → Prop} (hn : next (a.put o.dst v) w') : o.wp P a w next Q := by
  unfold Oper.wp; rw [h]; exact hn

theorem wp_skip' {w' : World} (h : (execOp a.eval o).run P w = .ok .skip w') {next : Act → World → Prop} {Q : Exit → Act → World → Prop} (hn : next (a.put o.dst undef) w') : o.wp P a w next Q := by
  unfold Oper.wp; rw [h]; exact hn

theorem wp_enter {f : Nat} {args : Array Value} {w' : World} (h : (execOp a.eval o).run P w = .ok (.enter f args) w') {next : Act → World → Prop} {Q : Exit → Act → World → Prop} {R : Ending → World → Prop}
    (hc : Calls P f args w' R) (hn : ∀ e w'', R e w'' → ∃ v, e = .returned v ∧ next (a.put o.dst v) w'') : o.wp P a w next Q := by
  unfold Oper.wp; rw [h]
  refine hc.mono fun e w'' hR => ?_
  obtain ⟨v, rfl, hv⟩ := hn e w'' hR
  exact hv

theorem run_pure' {α : Type} (x : α) : (pure x : Sem α).run P w = .ok x w := rfl

/-- The steps that turn no memory. -/
theorem calm_exec (h : TRel φ σ a.tmps) (hf : opsFree σ o.op.operands.toList = true) (hk : (∃ p t x y t2, o.op = .binOp p t x y t2) ∨ (∃ p t x, o.op = .unOp p t x) ∨ (∃ s d x, o.op = .convert s d x) ∨ (∃ b ags ts, o.op = .call ⟨.builtin b, ags, ts⟩)) :
    execOp (rho σ) o = execOp a.eval o := by
  have hr := fun (x : Operand) (hx : x ∈ o.op.operands.toList) => rho_eq h hf hx
  rcases hk with ⟨p, t, x, y, t2, e⟩ | ⟨p, t, x, e⟩ | ⟨s, d, x, e⟩ | ⟨b, ags, ts, e⟩
  · have hx := hr x (by simp [e, Op.operands])
    have hy := hr y (by simp [e, Op.operands])
    simp only [execOp, e, hx, hy]
  · have hx := hr x (by simp [e, Op.operands])
    simp only [execOp, e, hx]
  · have hx := hr x (by simp [e, Op.operands])
    simp only [execOp, e, hx]
  · have hm : ags.map (rho σ) = ags.map a.eval := by
      apply Array.map_congr_left
      intro x hx
      exact hr x (by simp [e, Op.operands, Call.operands, hx])
    simp only [execOp, e, resolve, hm]

theorem calmOp_run {obs : List Prop} {lv : LV} {cs : List (Nat × At)} {hs : List (Nat × Hd)} (hc : calmOp P σ o = some (obs, lv, cs, hs)) (h : TRel φ σ a.tmps)
    (hk : (∃ p t x y t2, o.op = .binOp p t x y t2) ∨ (∃ p t x, o.op = .unOp p t x) ∨ (∃ s d x, o.op = .convert s d x) ∨ (∃ b ags ts, o.op = .call ⟨.builtin b, ags, ts⟩)) :
    ∃ v, (execOp a.eval o).run P w = .ok (.value v) w ∧ lv.rel φ v ∧ cs = [] ∧ hs = [] := by
  unfold calmOp at hc
  split at hc
  · rename_i hf
    rw [calm_exec h hf hk] at hc
    split at hc
    · rename_i v hv
      split at hc
      · rename_i lv' he
        simp only [Option.some.injEq, Prod.mk.injEq] at hc
        obtain ⟨_, rfl, rfl, rfl⟩ := hc
        exact ⟨v, calm_run _ hv w, LV.ofVal_rel he φ, rfl, rfl⟩
      · cases hc
    · cases hc
  · cases hc

theorem part_run {t : TypeId} {l : List At} {cs : Array Value} {off : Nat} {lv : LV} (h : lpart P t l off = some lv) (hl : All2 (At.rel φ) l cs.toList) :
    ∃ v, (part t cs off).run P w = .ok v w ∧ lv.rel φ v := by
  unfold lpart at h
  split at h
  · rename_i n hs
    simp only [Option.some.injEq] at h; subst h
    obtain ⟨h1, h2⟩ := shape_run hs w
    refine ⟨.agg (cs.extract off (off + n)), by simp [part, h1, h2], _, rfl, ?_⟩
    have := (hl.drop off).take n
    simpa [Array.toList_extract, List.extract_eq_take_drop] using this
  · rename_i n hs
    obtain ⟨h1, h2⟩ := shape_run hs w
    split at h
    · rename_i x hx
      simp only [Option.some.injEq] at h; subst h
      obtain ⟨v, hv, hr⟩ := hl.get hx
      refine ⟨v, ?_, hr⟩
      have : cs[off]? = some v := by simpa using hv
      simp [part, h1, this]
    · cases h
  · cases h

theorem add_eq (r off n : Nat) : (⟨r, off, none⟩ : Addr).add n = ⟨r, off + n, none⟩ := by unfold Addr.add; split <;> simp_all

theorem cur_spec {b v : Nat} {h : Hd} (e : cur ρ b v = some h) : ρ b = some h ∧ h.v = v := by
  unfold cur at e
  split at e
  · rename_i h' hh
    split at e
    · rename_i hb
      simp only [Option.some.injEq] at e; subst e
      exact ⟨hh, Nat.eq_of_beq_eq_true hb⟩
    · cases e
  · cases e

theorem rowsAt_spec {b v st e : Nat} {h : Hd} {R : Rw} (k : rowsAt ρ b v st e = some (h, R)) : ρ b = some h ∧ h.v = v ∧ h.R = some R ∧ R.st = st ∧ R.sh.length = e := by
  unfold rowsAt at k
  split at k
  · rename_i h' hc
    split at k
    · rename_i R' hR
      split at k
      · rename_i hb
        simp only [Option.some.injEq, Prod.mk.injEq] at k
        obtain ⟨rfl, rfl⟩ := k
        simp only [Bool.and_eq_true] at hb
        obtain ⟨h1, h2⟩ := cur_spec hc
        exact ⟨h1, h2, hR, Nat.eq_of_beq_eq_true hb.1, Nat.eq_of_beq_eq_true hb.2⟩
      · cases k
    · cases k
  · cases k

theorem rget_eq {l : List (List Int)} {i j : Nat} {row : List Int} {n : Int} (h : l[i]? = some row) (h' : row[j]? = some n) : rget l i j = n := by
  simp [rget, List.getD_eq_getElem?_getD, h, h']

theorem key_div (b k : Nat) (h : k < 65536) : (b * 65536 + k) / 65536 = b := by omega
theorem key_mod (b k : Nat) (h : k < 65536) : (b * 65536 + k) % 65536 = k := by omega

/-- A row's number, in the real block. -/
theorem row_cell {arr : Array Value} {o' : Nat} {R : Rw} (hR : RowsIn arr o' R) {p j : Nat} {k : Kd} (hp : p < R.l.length) (hk : R.sh[j]? = some k) : arr[o' + (R.st + p * R.sh.length + j)]? = some (k.val (rget R.l p j)) := by
  have hrow : R.l[p]? = some R.l[p] := by simp [hp]
  obtain ⟨h1, h2⟩ := hR.1 p _ hrow
  have hj : j < R.sh.length := (List.getElem?_eq_some_iff.1 hk).1
  have hn : R.l[p][j]? = some (R.l[p][j]'(by omega)) := by simp [h1, hj]
  rw [h2 j _ k hn hk, rget_eq hrow hn]

/-- What a pointer's cell holds, as the local memory has it. -/
theorem rdc_run (hM : MR w0 may φ μ ρ fr w) {b k r o' : Nat} {x : At} {i : Inf} (h : rdc μ ρ b k = some x) (hi : φ b = some i) (hia : i.a = some (r, o')) : ∃ v, w.cell? ⟨r, o' + k, none⟩ = some v ∧ x.rel φ v := by
  unfold rdc at h
  split at h
  case h_2 => cases h
  rename_i hk
  have hk' : k < 65536 := Nat.le_of_ble_eq_true hk
  have rows : rdr ρ b k = some x → ∃ v, w.cell? ⟨r, o' + k, none⟩ = some v ∧ x.rel φ v := by
    intro h
    unfold rdr at h
    split at h
    · rename_i hd hhd
      split at h
      · rename_i R hR
        split at h
        · rename_i N hN
          split at h
          · rename_i hb
            simp only [Bool.and_eq_true] at hb
            have b1 := Nat.le_of_ble_eq_true hb.1
            have b2 : k < R.st + N * R.sh.length := Nat.le_of_ble_eq_true hb.2
            split at h
            · rename_i kd hkd
              simp only [Option.some.injEq] at h; subst h
              obtain ⟨i', g1, g2, g3, _, g4⟩ := hM.hdr b hd hhd
              rw [hi] at g1; simp only [Option.some.injEq] at g1; subst g1
              obtain ⟨g5, g6, g7⟩ := g4 R hR
              have hpos : 0 < R.sh.length := by
                have := (List.getElem?_eq_some_iff.1 hkd).1; omega
              rcases g7 with ⟨g7, _⟩ | ⟨r2, o2, arr, ty, fz, q1, q2, q3, q4⟩
              · rw [hia] at g7; cases g7
              · rw [hia] at q1; simp only [Option.some.injEq, Prod.mk.injEq] at q1
                obtain ⟨rfl, rfl⟩ := q1
                have hp : (k - R.st) / R.sh.length < R.l.length := by
                  rw [g5, g6 N hN, Nat.div_lt_iff_lt_mul hpos]; omega
                have hc := row_cell q3 hp hkd
                have e : R.st + (k - R.st) / R.sh.length * R.sh.length + (k - R.st) % R.sh.length = k := by
                  have := Nat.div_add_mod (k - R.st) R.sh.length
                  rw [Nat.mul_comm] at this; omega
                rw [e] at hc
                exact ⟨_, by simp [World.cell?, q2, hc], Kd.at_rel φ _ _⟩
            · cases h
          · cases h
        · cases h
      · cases h
    · cases h
  split at h
  · exact rows h
  · rename_i y hne hy
    simp only [Option.some.injEq] at h; subst h
    rcases hM.cell _ _ hy with e | ⟨i', h1, h2, h3, r2, o2, arr, ty, fz, v, q1, q2, q3, q4⟩
    · exact absurd e hne
    · rw [key_div _ _ hk'] at h1
      rw [hi] at h1; simp only [Option.some.injEq] at h1; subst h1
      rw [hia] at q1; simp only [Option.some.injEq, Prod.mk.injEq] at q1
      obtain ⟨rfl, rfl⟩ := q1
      rw [key_mod _ _ hk'] at q3
      exact ⟨v, by simp [World.cell?, q2, q3], q4⟩
  · exact rows h

theorem rdAll_run (hM : MR w0 may φ μ ρ fr w) {b r o' : Nat} {i : Inf} (hi : φ b = some i) (hia : i.a = some (r, o')) : ∀ (n k : Nat) {l : List At}, rdAll μ ρ b k n = some l →
    ∃ vs : List Value, vs.length = n ∧ (∀ j v, vs[j]? = some v → w.cell? ⟨r, o' + k + j, none⟩ = some v) ∧ All2 (At.rel φ) l vs
  | 0, k, l, h => by simp only [rdAll, Option.some.injEq] at h; subst h; exact ⟨[], rfl, by simp, .nil⟩
  | n + 1, k, l, h => by
    unfold rdAll at h
    split at h
    · rename_i x l' hx hl
      simp only [Option.some.injEq] at h; subst h
      obtain ⟨v, v1, v2⟩ := rdc_run hM hx hi hia
      obtain ⟨vs, s1, s2, s3⟩ := rdAll_run hM hi hia n (k + 1) hl
      refine ⟨v :: vs, by simp [s1], fun j u hj => ?_, .cons v2 s3⟩
      cases j with
      | zero => simp at hj; subst hj; simpa using v1
      | succ j =>
        have := s2 j u (by simpa using hj)
        rw [show o' + k + (j + 1) = o' + (k + 1) + j by omega]; exact this
    · cases h

theorem loadP_run (hM : MR w0 may φ μ ρ fr w) {t : TypeId} {b off : Nat} {lv : LV} {v : Value} (h : loadP P μ ρ t b off = some lv) (hv : prel φ (b, off) v) :
    ∃ r o' u, v = .pointer (some ⟨r, o', none⟩) ∧ (loadVar t ⟨r, o', none⟩).run P w = .ok u w ∧ lv.rel φ u := by
  obtain ⟨_, i, hi, _, hR⟩ := hv
  have ver : ∀ hd, cur ρ b 0 = some hd → ∃ r o', i.a = some (r, o') ∧ v = .pointer (some ⟨r, o' + off, none⟩) := by
    intro hd hc
    obtain ⟨h1, h2⟩ := cur_spec hc
    obtain ⟨i', g1, g2, _⟩ := hM.hdr b hd h1
    have g1 : φ b = some i' := g1
    rw [hi] at g1; simp only [Option.some.injEq] at g1; subst g1
    exact hR (by rw [g2, h2])
  unfold loadP at h
  split at h
  · rename_i hd n hc hs
    obtain ⟨r, o', ha, hv⟩ := ver hd hc
    obtain ⟨s1, s2⟩ := shape_run hs w
    split at h
    · rename_i l hl
      simp only [Option.some.injEq] at h; subst h
      obtain ⟨vs, q1, q2, q3⟩ := rdAll_run hM hi ha n off hl
      have hc := run_loadCells_list (P := P) w ⟨r, o' + off, none⟩ vs (by
        intro j u hj
        rw [add_eq]; exact q2 j u hj)
      rw [q1] at hc
      exact ⟨r, o' + off, .agg vs.toArray, hv, by simp [loadVar, s1, s2, hc], _, rfl, by simpa using q3⟩
    · cases h
  · rename_i hd n hc hs
    obtain ⟨r, o', ha, hv⟩ := ver hd hc
    obtain ⟨s1, s2⟩ := shape_run hs w
    split at h
    · rename_i x hx
      simp only [Option.some.injEq] at h; subst h
      obtain ⟨u, q1, q2⟩ := rdc_run hM hx hi ha
      exact ⟨r, o' + off, u, hv, by simp [loadVar, s1, q1], q2⟩
    · cases h
  · cases h

theorem col_run (hM : MR w0 may φ μ ρ fr w) {b e r o' : Nat} {inf : Inf} (hi : φ b = some inf) (hia : inf.a = some (r, o')) : ∀ (n k : Nat) {l : List At}, col μ ρ b e k n = some l →
    l.length = n ∧ ∃ vs : List Value, vs.length = n ∧ (∀ p v, vs[p]? = some v → w.cell? ⟨r, o' + (k + p * e), none⟩ = some v) ∧ All2 (At.rel φ) l vs
  | 0, k, l, h => by simp only [col, Option.some.injEq] at h; subst h; exact ⟨rfl, [], rfl, by simp, .nil⟩
  | n + 1, k, l, h => by
    unfold col at h
    split at h
    · rename_i x l' hx hl
      simp only [Option.some.injEq] at h; subst h
      obtain ⟨v, v1, v2⟩ := rdc_run hM hx hi hia
      obtain ⟨s0, vs, s1, s2, s3⟩ := col_run hM hi hia n (k + e) hl
      refine ⟨by simp [s0], v :: vs, by simp [s1], fun p u hp => ?_, .cons v2 s3⟩
      cases p with
      | zero => simp at hp; subst hp; simpa using v1
      | succ p =>
        have := s2 p u (by simpa using hp)
        rw [show k + (p + 1) * e = k + e + p * e by rw [Nat.succ_mul]; omega]; exact this
    · cases h

theorem encs_val' : ∀ {ks : List Kd} {xs : List At} {ns : List Int} {vs : List Value}, encs ks xs = some ns → All2 (At.rel φ) xs vs → ∀ (j : Nat) v k, vs[j]? = some v → ks[j]? = some k → v = k.val (ns.getD j 0)
  | [], [], ns, vs, h, hv, j, v, k, hn, hk => by simp at hk
  | k0 :: ks, x :: xs, ns, vs, h, hv, j, v, k, hn, hk => by
    simp only [encs] at h
    split at h
    · rename_i n l h1 h2
      simp only [Option.some.injEq] at h; subst h
      cases hv with
      | cons r t =>
        cases j with
        | zero =>
          simp at hn hk; subst hn hk
          simpa using encA_val h1 r
        | succ j => simpa using encs_val' h2 t j v k (by simpa using hn) (by simpa using hk)
    · cases h
  | [], _ :: _, ns, vs, h, hv, j, v, k, hn, hk => by simp at hk
  | _ :: _, [], ns, vs, h, hv, j, v, k, hn, hk => by simp [encs] at h

theorem oneCol_rel {l : List At} {kd : Kd} {ns : List Int} {vs : List Value} (h : oneCol l = some (kd, ns)) (hv : All2 (At.rel φ) l vs) {i : Nat} {v : Value} (hi : vs[i]? = some v) : (kd.at (ns.getD i 0)).rel φ v := by
  have hl := hv.length
  unfold oneCol at h
  split at h
  · cases h
  · rename_i x l
    split at h
    · rename_i k hk
      split at h
      · rename_i ns' hn
        simp only [Option.some.injEq, Prod.mk.injEq] at h
        obtain ⟨rfl, rfl⟩ := h
        have hil : i < vs.length := (List.getElem?_eq_some_iff.1 hi).1
        simp only [List.length_cons] at hl
        rw [encs_val' hn hv i v _ hi (by rw [List.getElem?_replicate, if_pos (by omega)])]
        exact Kd.at_rel φ _ _
      · cases h
    · cases h

theorem cols_run (hM : MR w0 may φ μ ρ fr w) {b e r o' i N : Nat} {inf : Inf} (hi : φ b = some inf) (hia : inf.a = some (r, o')) (hiN : i < N) : ∀ (n k : Nat) {l : List At}, cols μ ρ b e i N k n = some l →
    ∃ vs : List Value, vs.length = n ∧ (∀ m v, vs[m]? = some v → w.cell? ⟨r, o' + (k + i * e) + m, none⟩ = some v) ∧ All2 (At.rel φ) l vs
  | 0, k, l, h => by simp only [cols, Option.some.injEq] at h; subst h; exact ⟨[], rfl, by simp, .nil⟩
  | n + 1, k, l, h => by
    unfold cols at h
    split at h
    · rename_i kd ns r' h1 h2
      simp only [Option.some.injEq] at h; subst h
      obtain ⟨c, hc, ho⟩ := Option.bind_eq_some_iff.1 h1
      obtain ⟨c0, us, c1, c2, c3⟩ := col_run hM hi hia N k hc
      have hu : us[i]? = some us[i] := by simp [c1, hiN]
      obtain ⟨vs, s1, s2, s3⟩ := cols_run hM hi hia hiN n (k + 1) h2
      refine ⟨us[i] :: vs, by simp [s1], fun m u hm => ?_, .cons (oneCol_rel ho c3 hu) s3⟩
      cases m with
      | zero => simp at hm; subst hm; simpa using c2 i _ hu
      | succ m =>
        have := s2 m u (by simpa using hm)
        rw [show o' + (k + i * e) + (m + 1) = o' + (k + 1 + i * e) + m by omega]; exact this
    · cases h

/-- Where a pointer into cells stands. -/
theorem prc_place (hM : MR w0 may φ μ ρ fr w) {s : Bool} {b st e i j : Nat} {x : Value} {h : Hd} (hx : At.rel φ (.prw s b 0 st e i j) x) (hc : cur ρ b 0 = some h) :
    ∃ inf r o', φ b = some inf ∧ inf.a = some (r, o') ∧ j < e ∧ x = .pointer (some ⟨r, o' + (st + i * e + j), none⟩) := by
  obtain ⟨h1, h2⟩ := cur_spec hc
  obtain ⟨_, inf, g1, g2, g3⟩ := hx
  obtain ⟨inf', k1, k2, _⟩ := hM.hdr b h h1
  rw [g1] at k1; simp only [Option.some.injEq] at k1; subst k1
  obtain ⟨p1, p2, r, o', p3, p4⟩ := g3 (by rw [k2, h2])
  exact ⟨inf, r, o', g1, p3, p2, p4⟩

theorem loadC_run (hM : MR w0 may φ μ ρ fr w) {t : TypeId} {s : Bool} {b v st e i j : Nat} {obs : List Prop} {lv : LV} {x : Value} (h : loadC P μ ρ t s b v st e i j = some (obs, lv)) (ho : Alls obs) (hx : At.rel φ (.prw s b v st e i j) x) :
    ∃ r o' u, x = .pointer (some ⟨r, o', none⟩) ∧ (loadVar t ⟨r, o', none⟩).run P w = .ok u w ∧ lv.rel φ u := by
  unfold loadC at h
  split at h
  · rename_i hd n hc hs hb
    simp only [Bool.and_eq_true] at hb
    have hv0 := Nat.eq_of_beq_eq_true hb.1
    subst hv0
    obtain ⟨inf, r, o', g1, g2, g3, g4⟩ := prc_place hM hx hc
    obtain ⟨s1, s2⟩ := shape_run hs w
    split at h
    · split at h
      · rename_i l hl
        simp only [Option.some.injEq, Prod.mk.injEq] at h
        obtain ⟨rfl, rfl⟩ := h
        obtain ⟨vs, q1, q2, q3⟩ := cols_run hM g1 g2 ho.1 n (st + j) hl
        have hc := run_loadCells_list (P := P) w ⟨r, o' + (st + i * e + j), none⟩ vs (by
          intro m u hm
          rw [add_eq]
          have := q2 m u hm
          rw [show o' + (st + i * e + j) + m = o' + (st + j + i * e) + m by omega]; exact this)
        rw [q1] at hc
        exact ⟨r, _, .agg vs.toArray, g4, by simp [loadVar, s1, s2, hc], _, rfl, by simpa using q3⟩
      · cases h
    · cases h
  · rename_i hd n hc hs hb
    simp only [Bool.and_eq_true] at hb
    have hv0 := Nat.eq_of_beq_eq_true hb.1
    subst hv0
    obtain ⟨inf, r, o', g1, g2, g3, g4⟩ := prc_place hM hx hc
    obtain ⟨s1, s2⟩ := shape_run hs w
    split at h
    · split at h
      · rename_i y hl
        simp only [Option.some.injEq, Prod.mk.injEq] at h
        obtain ⟨rfl, rfl⟩ := h
        obtain ⟨vs, q1, q2, q3⟩ := cols_run hM g1 g2 ho.1 1 (st + j) hl
        cases q3 with
        | cons q3 t =>
          rename_i u us
          have := q2 0 u (by simp)
          refine ⟨r, _, u, g4, ?_, q3⟩
          rw [show o' + (st + j + i * e) + 0 = o' + (st + i * e + j) by omega] at this
          simp [loadVar, s1, this]
      · cases h
    · cases h
  · cases h

theorem ksAt_get : ∀ (ks : List Kd) (j m : Nat), (ksAt ks j)[m]? = ks[j + m]?
  | ks, 0, m => by simp [ksAt]
  | k :: ks, j + 1, m => by simp only [ksAt]; rw [ksAt_get ks j m, show j + 1 + m = (j + m) + 1 by omega]; simp
  | [], j + 1, m => by simp [ksAt]

theorem atRow_run {l : List (List Int)} {i : Nat} (φ : Phi) (f : Nat → Option Value) : ∀ (n : Nat) (ks : List Kd) (j : Nat) {xs : List At}, atRow l i ks j n = some xs → (∀ m k, ks[m]? = some k → f (j + m) = some (k.val (rget l i (j + m)))) →
    ∃ vs : List Value, vs.length = n ∧ (∀ m v, vs[m]? = some v → f (j + m) = some v) ∧ All2 (At.rel φ) xs vs
  | 0, ks, j, xs, h, hf => by
    simp only [atRow, Option.some.injEq] at h; subst h; exact ⟨[], rfl, by simp, .nil⟩
  | n + 1, [], j, xs, h, hf => by simp [atRow] at h
  | n + 1, k :: ks, j, xs, h, hf => by
    unfold atRow at h
    split at h
    · rename_i r hr
      simp only [Option.some.injEq] at h; subst h
      obtain ⟨vs, v1, v2, v3⟩ := atRow_run φ f n ks (j + 1) hr (fun m k' hm => by
        have := hf (m + 1) k' (by simpa using hm)
        rw [show j + 1 + m = j + (m + 1) by omega]; exact this)
      refine ⟨k.val (rget l i j) :: vs, by simp [v1], fun m v hm => ?_, .cons (Kd.at_rel φ _ _) v3⟩
      cases m with
      | zero => simp at hm; subst hm; have := hf 0 k (by simp); simpa using this
      | succ m => have := v2 m v (by simpa using hm); rw [show j + (m + 1) = j + 1 + m by omega]; exact this
    · cases h

theorem kdEq_spec {k k' : Kd} (h : kdEq k k' = true) : k = k' := by
  cases k <;> cases k' <;> simp [kdEq] at h <;> simp_all

theorem oneKd_spec {ks : List Kd} {k : Kd} (h : oneKd ks = some k) {j : Nat} (hj : j < ks.length) : ks[j]? = some k := by
  cases ks with
  | nil => simp at hj
  | cons k0 r =>
    simp only [oneKd] at h
    split at h
    · rename_i hall
      simp only [Option.some.injEq] at h; subst h
      cases j with
      | zero => simp
      | succ j =>
        have hj' : j < r.length := by simpa using hj
        have := List.all_eq_true.1 hall r[j] (by simp)
        simp [hj', kdEq_spec this]
    · cases h

/-- A row's place in the real memory. -/
theorem prw_place (hM : MR w0 may φ μ ρ fr w) {s : Bool} {b v st e i j : Nat} {x : Value} {h : Hd} {R : Rw} (hx : At.rel φ (.prw s b v st e i j) x) (hr : rowsAt ρ b v st e = some (h, R)) :
    ∃ inf r o' arr ty fz, φ b = some inf ∧ inf.ro = h.ro ∧ inf.v = v ∧ inf.n = R.l.length ∧ inf.a = some (r, o') ∧ w.heap[r]? = some (.cells arr ty fz) ∧ RowsIn arr o' R ∧ i < R.l.length ∧ j < R.sh.length ∧ R.st + R.l.length * R.sh.length ≤ inf.z ∧ x = .pointer (some ⟨r, o' + (R.st + i * R.sh.length + j), none⟩) := by
  obtain ⟨h1, h2, h3, h4, h5⟩ := rowsAt_spec hr
  obtain ⟨_, inf, g1, g2, g3⟩ := hx
  obtain ⟨inf', k1, k2, k3, _, k4⟩ := hM.hdr b h h1
  rw [g1] at k1; simp only [Option.some.injEq] at k1; subst k1
  obtain ⟨k5, k6, k7⟩ := k4 R h3
  obtain ⟨p1, p2, r, o', p3, p4⟩ := g3 (by rw [k2, h2])
  rcases k7 with ⟨k7, _⟩ | ⟨r2, o2, arr, ty, fz, q1, q2, q3, q4⟩
  · rw [p3] at k7; cases k7
  · rw [p3] at q1; simp only [Option.some.injEq, Prod.mk.injEq] at q1
    obtain ⟨rfl, rfl⟩ := q1
    subst h4 h5
    exact ⟨inf, r, o', arr, ty, fz, g1, k3, by rw [k2, h2], k5.symm, p3, q2, q3, by omega, p2, q4, p4⟩

theorem loadR_run (hM : MR w0 may φ μ ρ fr w) {t : TypeId} {s : Bool} {b v st e i j : Nat} {lv : LV} {x : Value} (h : loadR P ρ t s b v st e i j = some lv) (hx : At.rel φ (.prw s b v st e i j) x) :
    ∃ r o' u, x = .pointer (some ⟨r, o', none⟩) ∧ (loadVar t ⟨r, o', none⟩).run P w = .ok u w ∧ lv.rel φ u := by
  unfold loadR at h
  have scalar : ∀ {R : Rw} {hd : Hd} {q : Bool} {n : Nat} {k : Kd}, rowsAt ρ b v st e = some (hd, R) → shape P t = some (false, n) → R.sh[j]? = some k → lv = .a (k.at (rget R.l i j)) →
      ∃ r o' u, x = .pointer (some ⟨r, o', none⟩) ∧ (loadVar t ⟨r, o', none⟩).run P w = .ok u w ∧ lv.rel φ u := by
    intro R hd q n k hr hs hk he
    obtain ⟨inf, r, o', arr, ty, fz, g1, _, _, _, g3, g4, g5, g6, g7, g8, g9⟩ := prw_place hM hx hr
    obtain ⟨s1, s2⟩ := shape_run hs w
    have hc := row_cell g5 g6 hk
    refine ⟨r, _, k.val (rget R.l i j), g9, by simp [loadVar, s1, World.cell?, g4, hc], ?_⟩
    rw [he]; exact Kd.at_rel φ _ _
  split at h
  · rename_i hd R n hr hs
    obtain ⟨inf, r, o', arr, ty, fz, g1, _, _, _, g3, g4, g5, g6, g7, g8, g9⟩ := prw_place hM hx hr
    obtain ⟨s1, s2⟩ := shape_run hs w
    split at h
    · rename_i l hl
      simp only [Option.some.injEq] at h; subst h
      obtain ⟨vs, v1, v2, v3⟩ := atRow_run φ (fun q => arr[o' + (R.st + i * R.sh.length + q)]?) n (ksAt R.sh j) j hl (fun m k hm => by
        rw [ksAt_get] at hm
        exact row_cell g5 g6 hm)
      have hc := run_loadCells_list (P := P) w ⟨r, o' + (R.st + i * R.sh.length + j), none⟩ vs (by
        intro m u hm
        rw [add_eq]
        have := v2 m u hm
        simp only [World.cell?, g4]
        rw [show o' + (R.st + i * R.sh.length + j) + m = o' + (R.st + i * R.sh.length + (j + m)) by omega]
        simpa using this)
      rw [v1] at hc
      exact ⟨r, _, .agg vs.toArray, g9, by simp [loadVar, s1, s2, hc], _, rfl, by simpa using v3⟩
    · cases h
  · rename_i hd R n hr hs
    split at h
    · rename_i k hk
      simp only [Option.some.injEq] at h
      exact scalar (q := false) hr hs hk h.symm
    · cases h
  · rename_i hd R n hr hs
    split at h
    · rename_i k hk
      simp only [Option.some.injEq] at h
      obtain ⟨inf, r, o', arr, ty, fz, g1, _, _, _, g3, g4, g5, g6, g7, g8, g9⟩ := prw_place hM hx hr
      exact scalar (q := false) hr hs (oneKd_spec hk g7) h.symm
    · cases h
  · cases h

end
end Go.Proofs.Ytcdejlgophpdjaa.V
end

section
namespace Go.Proofs.Ytcdejlgophpdjaa.V
open Go Go.RowKit

theorem updL_spec {β : Type} {k : Nat} {x : β} : ∀ {l : List (Nat × β)} {f : Nat → Option β}, updL f l k = some x → (k, x) ∈ l ∨ (f k = some x ∧ ∀ y, (k, y) ∉ l)
  | [], f, h => .inr ⟨h, fun _ h => by cases h⟩
  | (k', v) :: r, f, h => by
    rcases updL_spec (l := r) h with h1 | ⟨h1, h2⟩
    · exact .inl (List.mem_cons_of_mem _ h1)
    · by_cases e : k = k'
      · subst e
        rw [upd_same] at h1
        simp only [Option.some.injEq] at h1; subst h1
        exact .inl (by simp)
      · rw [upd_other _ _ e] at h1
        refine .inr ⟨h1, fun y hy => ?_⟩
        rcases List.mem_cons.1 hy with hy | hy
        · simp only [Prod.mk.injEq] at hy; exact e hy.1
        · exact h2 y hy

theorem mem_enum {b key : Nat} {x : At} : ∀ {vs : List At} {k : Nat}, (key, x) ∈ enum b k vs ↔ ∃ j, vs[j]? = some x ∧ key = b * 65536 + (k + j)
  | [], k => by simp [enum]
  | v :: vs, k => by
    simp only [enum, List.mem_cons, Prod.mk.injEq, mem_enum (vs := vs)]
    constructor
    · rintro (⟨rfl, rfl⟩ | ⟨j, h1, h2⟩)
      · exact ⟨0, by simp, by simp⟩
      · exact ⟨j + 1, by simpa using h1, by omega⟩
    · rintro ⟨j, h1, h2⟩
      cases j with
      | zero => simp at h1; exact .inl ⟨by omega, h1.symm⟩
      | succ j => exact .inr ⟨j, by simpa using h1, by omega⟩

theorem splice_get {α : Type} (L : List α) (off : Nat) (vs : List α) (h : off + vs.length ≤ L.length) (j : Nat) : (L.take off ++ vs ++ L.drop (off + vs.length))[j]? = if off ≤ j ∧ j < off + vs.length then vs[j - off]? else L[j]? := by
  have hl : (L.take off).length = off := by simp; omega
  rw [List.append_assoc, List.getElem?_append, hl]
  by_cases h1 : j < off
  · rw [if_pos h1, if_neg (by omega), List.getElem?_take, if_pos h1]
  · rw [if_neg h1, List.getElem?_append]
    by_cases h2 : j - off < vs.length
    · rw [if_pos h2, if_pos (by omega)]
    · rw [if_neg h2, if_neg (by omega), List.getElem?_drop]
      congr 1; omega

theorem splice_size {α : Type} (L : List α) (off : Nat) (vs : List α) (h : off + vs.length ≤ L.length) : (L.take off ++ vs ++ L.drop (off + vs.length)).length = L.length := by
  simp; omega

theorem rel_cells_one {φ : Phi} {l : List At} {m : List Value} (h : All2 (At.rel φ) l m) : ∀ v ∈ m, v.oneCell' = true := by
  induction h with
  | nil => simp
  | cons r _ ih => intro v hv; rcases List.mem_cons.1 hv with rfl | hv; exact (At.rel_one r).1; exact ih v hv

theorem vcells_rel {φ : Phi} {lv : LV} {v : Value} {l : List At} (h : lv.rel φ v) (e : vcells lv = some l) : All2 (At.rel φ) l v.cells.toList := by
  cases lv with
  | a x => simp only [vcells, Option.some.injEq] at e; subst e; rw [(At.rel_one h).2]; exact .cons h .nil
  | g m => simp only [vcells, Option.some.injEq] at e; subst e; obtain ⟨cs, rfl, k⟩ := h; exact k
  | t m => simp [vcells] at e
  | u => simp [vcells] at e

theorem RowsIn.congr {arr arr' : Array Value} {o : Nat} {R : Rw} (h : RowsIn arr o R) (hs : arr'.size = arr.size) (he : ∀ k, R.st ≤ k → k < R.st + R.l.length * R.sh.length → arr'[o + k]? = arr[o + k]?) : RowsIn arr' o R := by
  refine ⟨fun p row hp => ?_, by rw [hs]; exact h.2⟩
  obtain ⟨h1, h2⟩ := h.1 p row hp
  refine ⟨h1, fun j n k hj hk => ?_⟩
  rw [he _ (by omega) ?_]
  · exact h2 j n k hj hk
  · have hpl : p < R.l.length := (List.getElem?_eq_some_iff.1 hp).1
    have hjl : j < R.sh.length := (List.getElem?_eq_some_iff.1 hk).1
    have : (p + 1) * R.sh.length ≤ R.l.length * R.sh.length := Nat.mul_le_mul_right _ hpl
    rw [Nat.succ_mul] at this; omega

theorem encs_len : ∀ {ks : List Kd} {xs : List At} {ns : List Int}, encs ks xs = some ns → ns.length = ks.length ∧ xs.length = ks.length
  | [], [], ns, h => by simp only [encs, Option.some.injEq] at h; subst h; exact ⟨rfl, rfl⟩
  | k :: ks, x :: xs, ns, h => by
    simp only [encs] at h
    split at h
    · rename_i n l h1 h2
      simp only [Option.some.injEq] at h; subst h
      obtain ⟨a, b⟩ := encs_len h2
      exact ⟨by simp [a], by simp [b]⟩
    · cases h
  | [], _ :: _, ns, h => by simp [encs] at h
  | _ :: _, [], ns, h => by simp [encs] at h

theorem encs_val {φ : Phi} : ∀ {ks : List Kd} {xs : List At} {ns : List Int} {vs : List Value}, encs ks xs = some ns → All2 (At.rel φ) xs vs → ∀ (j : Nat) n k, ns[j]? = some n → ks[j]? = some k → vs[j]? = some (k.val n)
  | [], [], ns, vs, h, hv, j, n, k, hn, hk => by simp at hk
  | k0 :: ks, x :: xs, ns, vs, h, hv, j, n, k, hn, hk => by
    simp only [encs] at h
    split at h
    · rename_i n0 l h1 h2
      simp only [Option.some.injEq] at h; subst h
      cases hv with
      | cons a b =>
        cases j with
        | zero =>
          simp at hn hk; subst hn; subst hk
          simp [encA_val h1 a]
        | succ j => simpa using encs_val h2 b j n k (by simpa using hn) (by simpa using hk)
    · cases h
  | [], _ :: _, ns, vs, h, hv, j, n, k, hn, hk => by simp at hk
  | _ :: _, [], ns, vs, h, hv, j, n, k, hn, hk => by simp [encs] at h

theorem encRows_spec {φ : Phi} {sh : List Kd} : ∀ {n : Nat} {xs : List At} {l : List (List Int)} {vs : List Value}, encRows sh n xs = some l → All2 (At.rel φ) xs vs →
    l.length = n ∧ xs.length = n * sh.length ∧ ∀ (p : Nat) row, l[p]? = some row → row.length = sh.length ∧ ∀ (j : Nat) m k, row[j]? = some m → sh[j]? = some k → vs[p * sh.length + j]? = some (k.val m)
  | 0, [], l, vs, h, hv => by simp only [encRows, Option.some.injEq] at h; subst h; simp
  | 0, _ :: _, l, vs, h, hv => by simp [encRows] at h
  | n + 1, xs, l, vs, h, hv => by
    simp only [encRows] at h
    split at h
    · rename_i r rs h1 h2
      simp only [Option.some.injEq] at h; subst h
      obtain ⟨a1, a2⟩ := encs_len h1
      obtain ⟨b1, b2, b3⟩ := encRows_spec h2 (hv.drop sh.length)
      have hxl : sh.length ≤ xs.length := by
        have : (xs.take sh.length).length = sh.length := a2
        simp at this; omega
      refine ⟨by simp [b1], ?_, fun p row hp => ?_⟩
      · have : (xs.drop sh.length).length = xs.length - sh.length := by simp
        rw [Nat.succ_mul]; omega
      · cases p with
        | zero =>
          simp at hp; subst hp
          refine ⟨a1, fun j m k hj hk => ?_⟩
          have := encs_val h1 (hv.take sh.length) j m k hj hk
          rw [List.getElem?_take] at this
          split at this
          · simpa using this
          · cases this
        | succ p =>
          obtain ⟨c1, c2⟩ := b3 p row (by simpa using hp)
          refine ⟨c1, fun j m k hj hk => ?_⟩
          have := c2 j m k hj hk
          rw [List.getElem?_drop] at this
          rw [← this]; congr 1; rw [Nat.succ_mul]; omega
    · cases h

section
variable {P : Program} {w0 : World} {may : Nat → Prop} {φ : Phi} {σ : Sig} {μ : Mem} {ρ : Hds} {fr : Nat → Prop} {w : World}

theorem phi_same {φ : Phi} {b : Nat} {i : Inf} (h : φ b = some i) : (fun n => if n = b then some i else φ n) = φ := by
  funext n; by_cases e : n = b <;> simp [e, h]

/-- Cells of a block are written: what the local memory says then of them. -/
theorem MR.write (hM : MR w0 may φ μ ρ fr w) {b r : Nat} {i : Inf} (hi : φ b = some i) (hia : i.a = some (r, 0)) (hro : i.ro = false) {arr arr' : Array Value} (harr : w.heap[r]? = some (.cells arr i.ty (0, 0))) (hsz : arr'.size = arr.size)
    {h0 : Hd} (hh0 : ρ b = some h0) {cs : List (Nat × At)} {hs : List (Nat × Hd)}
    (hcs : ∀ key x, (key, x) ∈ cs → ∃ k, k < 65536 ∧ key = b * 65536 + k ∧ i.v = 0 ∧ k < i.z ∧ ∃ v, arr'[k]? = some v ∧ x.rel φ v)
    (hhs : ∀ c g, (c, g) ∈ hs → c = b ∧ HdOK ((w.setRow r arr').heap[·]?) i g)
    (hkeep : ∀ k, arr'[k]? = arr[k]? ∨ (∃ x, (b * 65536 + k, x) ∈ cs) ∨ (∃ h R, ρ b = some h ∧ h.R = some R ∧ R.st ≤ k ∧ k < R.st + R.l.length * R.sh.length))
    (hrows : hs = [] → ∀ h R, ρ b = some h → h.R = some R → ∀ k, R.st ≤ k → k < R.st + R.l.length * R.sh.length → arr'[k]? = arr[k]?)
    (hap : ∀ key x g, (key, x) ∈ cs → updL ρ hs b = some g → Apart (key % 65536) g)
    (hap2 : ∀ c g, (c, g) ∈ hs → ∀ k, Apart k h0 → Apart k g) :
    MR w0 may φ (updL μ cs) (updL ρ hs) fr (w.setRow r arr') := by
  have hst := hM.step (b := b) (j := i) (r := r) (arr := arr') (w' := w.setRow r arr') (μ' := updL μ cs) (ρ' := updL ρ hs) (.inr ⟨i, hi, i.le_refl, hro⟩) hia hro
    (by obtain ⟨_, _, ar, h1, h2⟩ := hM.own b i r 0 hi hia hro; rw [harr] at h1; simp only [Option.some.injEq, Obj.cells.injEq] at h1; rw [hsz, h1.1, h2]) (.inl ⟨i, hi, hia⟩) (setRow_heap w r arr arr' _ _ harr)
    (fun k _ hk => setRow_other _ _ _ _ hk) rfl rfl rfl (by rw [size_setRow]; exact Nat.le_refl _) (frozen_setRow harr)
    (by
      intro k x hx
      rw [phi_same hi]
      rcases updL_spec hx with h1 | ⟨h1, h2⟩
      · obtain ⟨k', e1, e2, e3, e4, v, e5, e6⟩ := hcs k x h1
        right; right
        subst e2
        rw [key_div _ _ e1, key_mod _ _ e1]
        exact ⟨rfl, e3, e4, r, 0, arr', i.ty, (0, 0), v, hia, setRow_heap w r arr arr' _ _ harr, by simpa using e5, e6⟩
      · by_cases hk : k / 65536 = b
        · rcases hM.cell k x h1 with h3 | ⟨i', h3, h4, h5, r2, o2, ar, ty, fz, v, h6, h7, h8, h9⟩
          · exact .inr (.inl h3)
          · rw [hk, hi] at h3; simp only [Option.some.injEq] at h3; subst h3
            rw [hia] at h6; simp only [Option.some.injEq, Prod.mk.injEq] at h6
            obtain ⟨rfl, rfl⟩ := h6
            have h7 : w.heap[r]? = _ := h7
            rw [harr] at h7; simp only [Option.some.injEq, Obj.cells.injEq] at h7
            obtain ⟨rfl, rfl, _⟩ := h7
            right
            by_cases hu : x = .unk
            · exact .inl hu
            right
            refine ⟨hk, h4, h5, r, 0, arr', i.ty, (0, 0), v, hia, setRow_heap w r arr arr' _ _ harr, ?_, h9⟩
            rcases hkeep (k % 65536) with e | ⟨y, hy⟩ | ⟨h, R, g1, g2, g3, g4⟩
            · rw [Nat.zero_add, e]; simpa using h8
            · exfalso
              apply h2 y
              have : k = b * 65536 + k % 65536 := by rw [← hk]; omega
              rw [this]; exact hy
            · exfalso
              have := (hM.apart k x h h1 hu (by rw [hk]; exact g1)).2 R g2
              omega
        · exact .inl ⟨hk, h1⟩)
    (by
      intro c g hg
      rcases updL_spec hg with h1 | ⟨h1, h2⟩
      · obtain ⟨rfl, h3⟩ := hhs c g h1
        exact .inr ⟨rfl, h3⟩
      · by_cases hc : c = b
        · subst hc
          right
          refine ⟨rfl, ?_⟩
          have hnil : hs = [] := by
            cases hs with
            | nil => rfl
            | cons p q =>
              obtain ⟨c', g'⟩ := p
              obtain ⟨rfl, _⟩ := hhs c' g' (by simp)
              exact absurd (by simp) (h2 g')
          obtain ⟨i', h3, h4, h5, h6, h7⟩ := hM.hdr c g h1
          rw [hi] at h3; simp only [Option.some.injEq] at h3; subst h3
          refine ⟨h4, h5, h6, fun R hR => ?_⟩
          obtain ⟨q1, q2, q3⟩ := h7 R hR
          refine ⟨q1, q2, ?_⟩
          rcases q3 with q3 | ⟨r2, o2, ar, ty, fz, q4, q5, q6, q7⟩
          · exact .inl q3
          · rw [hia] at q4; simp only [Option.some.injEq, Prod.mk.injEq] at q4
            obtain ⟨rfl, rfl⟩ := q4
            have q5 : w.heap[r]? = _ := q5
            rw [harr] at q5; simp only [Option.some.injEq, Obj.cells.injEq] at q5
            obtain ⟨rfl, rfl, _⟩ := q5
            exact .inr ⟨r, 0, arr', i.ty, (0, 0), hia, setRow_heap w r arr arr' _ _ harr, q6.congr hsz fun k k1 k2 => by simpa using hrows hnil g R h1 hR k k1 k2, q7⟩
        · exact .inl ⟨hc, h1⟩)
    (by
      intro k x g hx hne hk hg
      rcases updL_spec hx with h1 | ⟨h1, _⟩
      · exact hap k x g h1 hg
      · rcases updL_spec hg with h2 | ⟨h2, _⟩
        · exact hap2 b g h2 _ (hM.apart k x h0 h1 hne (by rw [hk]; exact hh0))
        · exact hM.apart k x g h1 hne (by rw [hk]; exact h2))
  rw [phi_same hi] at hst
  exact hst.drop fun c hc => ⟨hc, fun e => by
    subst e
    have := hM.dom c hc
    rw [hi] at this; cases this⟩
end
end Go.Proofs.Ytcdejlgophpdjaa.V
end

section
namespace Go.Proofs.Ytcdejlgophpdjaa.V
open Go Go.RowKit

theorem wr_spec : ∀ {vs : List Int} {row : List Int} {j : Nat}, j + vs.length ≤ row.length → (wr row j vs).length = row.length ∧ ∀ m, (wr row j vs)[m]? = if j ≤ m ∧ m < j + vs.length then vs[m - j]? else row[m]?
  | [], row, j, h => ⟨rfl, fun m => by rw [if_neg (by simp)]; rfl⟩
  | v :: vs, row, j, h => by
    simp only [List.length_cons] at h
    obtain ⟨h1, h2⟩ := wr_spec (vs := vs) (row := row.set j v) (j := j + 1) (by simp; omega)
    refine ⟨by simp only [wr]; rw [h1]; simp, fun m => ?_⟩
    simp only [wr, List.length_cons]
    rw [h2]
    by_cases h3 : j + 1 ≤ m ∧ m < j + 1 + vs.length
    · rw [if_pos h3, if_pos (by omega)]
      rw [show m - j = (m - (j + 1)) + 1 by omega]; simp
    · rw [if_neg h3]
      by_cases h4 : m = j
      · subst h4; rw [if_pos (by omega)]; simp [List.getElem?_set]; omega
      · rw [if_neg (by omega), List.getElem?_set_ne (by omega)]

theorem grows_rows {h : Hd} {R : Rw} (hR : h.R = some R) : (withRows h R []).grows = h.grows ∧ True := ⟨by simp [Hd.grows, withRows, hR], trivial⟩

/-- A row is turned, in part. -/
theorem RowsIn.put {arr arr' : Array Value} {o : Nat} {R : Rw} (h : RowsIn arr o R) (hs : arr'.size = arr.size) {p j : Nat} {ns : List Int} (hp : p < R.l.length) (hj : j + ns.length ≤ R.sh.length)
    (hin : ∀ m n k, ns[m]? = some n → R.sh[j + m]? = some k → arr'[o + (R.st + p * R.sh.length + (j + m))]? = some (k.val n))
    (hout : ∀ k, ¬ (R.st + p * R.sh.length + j ≤ k ∧ k < R.st + p * R.sh.length + j + ns.length) → arr'[o + k]? = arr[o + k]?) {l' : List (List Int)}
    (hl : l' = rset R.l p j ns ∨ (j = 0 ∧ ns.length = R.sh.length ∧ l' = R.l.set p ns)) : RowsIn arr' o ⟨R.st, R.sh, l', R.fx⟩ := by
  have hrow : R.l[p]? = some R.l[p] := by simp [hp]
  obtain ⟨g1, g2⟩ := h.1 p _ hrow
  have hw := wr_spec (vs := ns) (row := R.l[p]) (j := j) (by omega)
  have hD : R.l.getD p [] = R.l[p] := by simp [List.getD_eq_getElem?_getD, hp]
  have key : ∃ row', l' = R.l.set p row' ∧ row'.length = R.sh.length ∧ ∀ m, row'[m]? = if j ≤ m ∧ m < j + ns.length then ns[m - j]? else R.l[p][m]? := by
    rcases hl with rfl | ⟨rfl, e, rfl⟩
    · exact ⟨wr R.l[p] j ns, by rw [rset, hD], by rw [hw.1, g1], hw.2⟩
    · refine ⟨ns, rfl, e, fun m => ?_⟩
      by_cases hm : m < ns.length
      · rw [if_pos ⟨by omega, by omega⟩]; simp
      · rw [if_neg (by omega)]
        rw [List.getElem?_eq_none (by omega), List.getElem?_eq_none (by omega)]
  obtain ⟨row', e1, e2, e3⟩ := key
  subst e1
  refine ⟨fun q row hq => ?_, by simp only [List.length_set]; rw [hs]; exact h.2⟩
  have hql : q < R.l.length := by have := (List.getElem?_eq_some_iff.1 hq).1; simpa using this
  by_cases hpq : q = p
  · subst hpq
    have hq' : row = row' := by simp [hql] at hq; exact hq.symm
    subst hq'
    refine ⟨e2, fun m n k hn hk => ?_⟩
    simp only at hk ⊢
    rw [e3 m] at hn
    have hml : m < R.sh.length := (List.getElem?_eq_some_iff.1 hk).1
    split at hn
    · rename_i hm
      have := hin (m - j) n k hn (by rw [show j + (m - j) = m by omega]; exact hk)
      rw [show j + (m - j) = m by omega] at this; exact this
    · rename_i hm
      rw [hout _ (by omega)]
      exact g2 m n k hn hk
  · have hq' : R.l[q]? = some row := by rw [List.getElem?_set_ne (by omega)] at hq; exact hq
    obtain ⟨f1, f2⟩ := h.1 q row hq'
    refine ⟨f1, fun m n k hn hk => ?_⟩
    have hml : m < R.sh.length := (List.getElem?_eq_some_iff.1 hk).1
    simp only at hk ⊢
    rw [hout _ ?_]
    · exact f2 m n k hn hk
    · intro hc
      rcases Nat.lt_or_gt_of_ne hpq with hlt | hlt
      · have := Nat.mul_le_mul_right R.sh.length (show q + 1 ≤ p by omega)
        rw [Nat.succ_mul] at this; omega
      · have := Nat.mul_le_mul_right R.sh.length (show p + 1 ≤ q by omega)
        rw [Nat.succ_mul] at this; omega

section
variable {P : Program} {w0 : World} {may : Nat → Prop} {φ : Phi} {σ : Sig} {μ : Mem} {ρ : Hds} {fr : Nat → Prop} {w : World}

theorem apart_of {h : Hd} {off n : Nat} {i : Inf} (ha : apartR h off n = true) (hR : ∀ R, h.R = some R → R.l.length = i.n ∧ ∀ N, R.fx = some N → i.n = N) {R : Rw} (hr : h.R = some R) : h.grows = false ∧ (off + n ≤ R.st ∨ R.st + R.l.length * R.sh.length ≤ off) := by
  unfold apartR at ha
  simp only [hr] at ha
  split at ha
  · rename_i N hN
    obtain ⟨a, b⟩ := hR R hr
    rw [a, b N hN]
    simp only [Bool.or_eq_true] at ha
    refine ⟨by simp [Hd.grows, hr, hN], ?_⟩
    rcases ha with ha | ha
    · exact .inl (Nat.le_of_ble_eq_true ha)
    · exact .inr (Nat.le_of_ble_eq_true ha)
  · cases ha

theorem storeCells_go (hM : MR w0 may φ μ ρ fr w) {t : TypeId} {r off : Nat} {i : Inf} {b : Nat} (hi : φ b = some i) (hia : i.a = some (r, 0)) (hro : i.ro = false) {q : Bool} {n : Nat} (hs : shape P t = some (q, n)) {vs : List At} {v : Value}
    (hv : All2 (At.rel φ) vs v.cells.toList) (hn : vs.length = n) (hle : off + n ≤ i.z) :
    ∃ arr, w.heap[r]? = some (.cells arr i.ty (0, 0)) ∧ arr.size = i.z ∧ ∃ arr' : Array Value, arr'.size = arr.size ∧ (∀ j, arr'[j]? = if off ≤ j ∧ j < off + n then v.cells.toList[j - off]? else arr[j]?) ∧
      (storeVar t ⟨r, off, none⟩ v).run P w = .ok () (w.setRow r arr') := by
  obtain ⟨_, _, arr, h1, h2⟩ := hM.own b i r 0 hi hia hro
  have hvl := hv.length
  obtain ⟨_, s2⟩ := shape_run hs w
  have hfit : off + v.cells.toList.length ≤ arr.toList.length := by simp at hvl ⊢; omega
  have hst := run_storeCells_at (P := P) r off i.ty v.cells.toList 0 arr w h1 (by simpa using hfit) (rel_cells_one hv)
  refine ⟨arr, h1, h2, (arr.toList.take (off + 0) ++ v.cells.toList ++ arr.toList.drop (off + 0 + v.cells.toList.length)).toArray, ?_, ?_, ?_⟩
  · simp only [Nat.add_zero, List.size_toArray]
    rw [splice_size _ _ _ hfit]; simp
  · intro j
    simp only [Nat.add_zero, List.getElem?_toArray]
    rw [splice_get _ _ _ hfit j, ← hvl, hn]
    split <;> simp
  · have hsz : v.cells.size = n := by simp at hvl; omega
    simp only [storeVar, Sem.run_bind, s2, Result.andThen_ok, hsz]
    simp only [ne_eq, not_true_eq_false, if_false]
    exact hst

theorem storeP_run (hM : MR w0 may φ μ ρ fr w) {t : TypeId} {b off : Nat} {vs : List At} {obs : List Prop} {lv : LV} {cs : List (Nat × At)} {hs : List (Nat × Hd)} (h : storeP P ρ t b off vs = some (obs, lv, cs, hs)) {x v : Value} (hx : prel φ (b, off) x)
    (hv : All2 (At.rel φ) vs v.cells.toList) : ∃ r o' w', x = .pointer (some ⟨r, o', none⟩) ∧ (storeVar t ⟨r, o', none⟩ v).run P w = .ok () w' ∧ lv = .t [] ∧ MR w0 may φ (updL μ cs) (updL ρ hs) fr w' := by
  obtain ⟨_, i, hi, _, hP⟩ := hx
  unfold storeP at h
  split at h
  case h_2 => cases h
  rename_i hd q n hc hsh
  obtain ⟨c1, c2⟩ := cur_spec hc
  obtain ⟨i', k1, k2, k3, k4, k5⟩ := hM.hdr b hd c1
  have k1 : φ b = some i' := k1
  have hi : φ b = some i := hi
  rw [hi] at k1; simp only [Option.some.injEq] at k1; subst k1
  obtain ⟨r, o', ha, hxv⟩ := hP (by rw [k2, c2])
  split at h
  case h_2 => cases h
  rename_i hb
  simp only [Bool.and_eq_true, Bool.not_eq_true'] at hb
  obtain ⟨⟨⟨b1, b2⟩, b3⟩, b4⟩ := hb
  have b1 := Nat.eq_of_beq_eq_true b1
  have b3 := Nat.le_of_ble_eq_true b3
  have b4 := Nat.le_of_ble_eq_true b4
  have hro : i.ro = false := by rw [k3, b2]
  have ho0 : o' = 0 := (hM.own b i r o' hi ha hro).2.1
  subst ho0
  rw [Nat.zero_add] at hxv
  have kR : ∀ R, hd.R = some R → R.l.length = i.n ∧ ∀ N, R.fx = some N → i.n = N := fun R hR => ⟨(k5 R hR).1, (k5 R hR).2.1⟩
  have hvl := hv.length
  -- rows of the block, as they stand in the old array
  have oldrows : ∀ R, hd.R = some R → R.fx ≠ none → ∀ arr, w.heap[r]? = some (.cells arr i.ty (0, 0)) → RowsIn arr 0 R ∧ R.st + R.l.length * R.sh.length ≤ i.z := by
    intro R hR hfx arr harr
    rcases (k5 R hR).2.2 with ⟨e, _⟩ | ⟨r2, o2, ar, ty, fz, q1, q2, q3, q4⟩
    · rw [ha] at e; cases e
    · rw [ha] at q1; simp only [Option.some.injEq, Prod.mk.injEq] at q1
      obtain ⟨rfl, rfl⟩ := q1
      have q2 : w.heap[r]? = _ := q2
      rw [harr] at q2; simp only [Option.some.injEq, Obj.cells.injEq] at q2
      obtain ⟨rfl, _, _⟩ := q2
      exact ⟨q3, q4⟩
  split at h
  · -- apart from the rows
    rename_i hap
    simp only [Option.some.injEq, Prod.mk.injEq] at h
    obtain ⟨_, rfl, rfl, rfl⟩ := h
    have hgr : hd.grows = false := by
      cases hR : hd.R with
      | none => simp [Hd.grows, hR]
      | some R => exact (apart_of hap kR hR).1
    obtain ⟨hv0, hz, hnz⟩ := k4 hgr
    obtain ⟨arr, a1, a2, arr', a3, a4, a5⟩ := storeCells_go (off := off) hM hi ha hro hsh hv b1 (by omega)
    refine ⟨r, off, _, hxv, a5, rfl, ?_⟩
    refine hM.write hi ha hro a1 a3 c1 ?_ ?_ ?_ ?_ ?_ ?_
    · intro key y hy
      obtain ⟨j, j1, j2⟩ := mem_enum.1 hy
      have hjl : j < vs.length := (List.getElem?_eq_some_iff.1 j1).1
      obtain ⟨u, u1, u2⟩ := hv.get j1
      refine ⟨off + j, by omega, j2, hv0, by omega, u, ?_, u2⟩
      rw [a4, if_pos (by omega), show off + j - off = j by omega]; exact u1
    · intro c g hg; cases hg
    · intro k
      by_cases hk : off ≤ k ∧ k < off + n
      · right; left
        have hkl : k - off < vs.length := by omega
        exact ⟨vs[k - off], mem_enum.2 ⟨k - off, by simp [hkl], by omega⟩⟩
      · left; rw [a4, if_neg hk]
    · intro _ g R hg hR k k1' k2'
      rw [c1] at hg; simp only [Option.some.injEq] at hg; subst hg
      have := (apart_of hap kR hR).2
      rw [a4, if_neg (by omega)]
    · intro key y g hy hg
      simp only [updL] at hg
      rw [c1] at hg; simp only [Option.some.injEq] at hg; subst hg
      refine ⟨hgr, fun R hR => ?_⟩
      obtain ⟨j, j1, j2⟩ := mem_enum.1 hy
      have hjl : j < vs.length := (List.getElem?_eq_some_iff.1 j1).1
      have := (apart_of hap kR hR).2
      rw [j2, key_mod _ _ (by omega)]; omega
    · intro c g hg; cases hg
  · rename_i hap
    split at h
    case h_2 => cases h
    rename_i R hR
    split at h
    case h_2 => cases h
    rename_i N hN
    have hgr : hd.grows = false := by simp [Hd.grows, hR, hN]
    obtain ⟨hv0, hz, hnz⟩ := k4 hgr
    obtain ⟨kn, kN⟩ := kR R hR
    have kN := kN N hN
    obtain ⟨arr, a1, a2, arr', a3, a4, a5⟩ := storeCells_go (off := off) hM hi ha hro hsh hv b1 (by omega)
    obtain ⟨old1, old2⟩ := oldrows R hR (by rw [hN]; simp) arr a1
    have hgr' : ∀ l, (withRows hd R l).grows = false := fun l => by simp [Hd.grows, withRows, hN]
    split at h
    · -- all rows are within
      rename_i hcov
      simp only [Bool.and_eq_true] at hcov
      have c3 := Nat.le_of_ble_eq_true hcov.1
      have c4 := Nat.le_of_ble_eq_true hcov.2
      split at h
      case h_2 => cases h
      rename_i l hl
      simp only [Option.some.injEq, Prod.mk.injEq] at h
      obtain ⟨_, rfl, rfl, rfl⟩ := h
      have hsub : All2 (At.rel φ) ((vs.drop (R.st - off)).take (N * R.sh.length)) ((v.cells.toList.drop (R.st - off)).take (N * R.sh.length)) := (hv.drop _).take _
      obtain ⟨e1, e2, e3⟩ := encRows_spec hl hsub
      refine ⟨r, off, _, hxv, a5, rfl, ?_⟩
      have memcs : ∀ key y, (key, y) ∈ enum b off (vs.take (R.st - off)) ++ enum b (R.st + N * R.sh.length) (vs.drop (R.st - off + N * R.sh.length)) →
          ∃ k, vs[k - off]? = some y ∧ off ≤ k ∧ k < off + n ∧ key = b * 65536 + k ∧ (k < R.st ∨ R.st + N * R.sh.length ≤ k) := by
        intro key y hy
        rcases List.mem_append.1 hy with hy | hy
        · obtain ⟨j, j1, j2⟩ := mem_enum.1 hy
          rw [List.getElem?_take] at j1
          split at j1
          · have hjl : j < vs.length := (List.getElem?_eq_some_iff.1 j1).1
            exact ⟨off + j, by rw [show off + j - off = j by omega]; exact j1, by omega, by omega, j2, by omega⟩
          · cases j1
        · obtain ⟨j, j1, j2⟩ := mem_enum.1 hy
          rw [List.getElem?_drop] at j1
          have hjl : R.st - off + N * R.sh.length + j < vs.length := (List.getElem?_eq_some_iff.1 j1).1
          exact ⟨R.st + N * R.sh.length + j, by rw [show R.st + N * R.sh.length + j - off = R.st - off + N * R.sh.length + j by omega]; exact j1, by omega, by omega, j2, by omega⟩
      refine hM.write hi ha hro a1 a3 c1 ?_ ?_ ?_ ?_ ?_ ?_
      · intro key y hy
        obtain ⟨k, q1, q2, q3, q4, _⟩ := memcs key y hy
        obtain ⟨u, u1, u2⟩ := hv.get q1
        exact ⟨k, by omega, q4, hv0, by omega, u, by rw [a4, if_pos (by omega)]; exact u1, u2⟩
      · intro c g hg
        simp only [List.mem_singleton, Prod.mk.injEq] at hg
        obtain ⟨rfl, rfl⟩ := hg
        refine ⟨rfl, k2, k3, fun _ => ⟨hv0, hz, fun e => by simp [withRows] at e⟩, fun R' hR' => ?_⟩
        simp only [withRows, Option.some.injEq] at hR'; subst hR'
        refine ⟨by rw [e1, kN], fun N' hN' => by rw [hN] at hN'; simp only [Option.some.injEq] at hN'; omega, .inr ⟨r, 0, arr', i.ty, (0, 0), ha, setRow_heap w r arr arr' _ _ a1, ⟨fun p row hp => ?_, ?_⟩, ?_⟩⟩
        · obtain ⟨f1, f2⟩ := e3 p row hp
          refine ⟨f1, fun j m k hj hk => ?_⟩
          have hpl : p < l.length := (List.getElem?_eq_some_iff.1 hp).1
          have hjl : j < R.sh.length := (List.getElem?_eq_some_iff.1 hk).1
          have := f2 j m k hj hk
          rw [List.getElem?_take] at this
          split at this
          · rw [List.getElem?_drop] at this
            simp only [Nat.zero_add]
            rw [a4, if_pos ?_]
            · rw [← this]; congr 1; omega
            · have := Nat.mul_le_mul_right R.sh.length (show p + 1 ≤ N by omega)
              rw [Nat.succ_mul] at this; omega
          · cases this
        · simp only; rw [e1, a3, a2]; omega
        · simp only; rw [e1]; omega
      · intro k
        by_cases hk : off ≤ k ∧ k < off + n
        · by_cases hk2 : k < R.st
          · right; left
            exact ⟨vs[k - off], List.mem_append_left _ (mem_enum.2 ⟨k - off, by rw [List.getElem?_take, if_pos (by omega)]; simp <;> omega, by omega⟩)⟩
          · by_cases hk3 : R.st + N * R.sh.length ≤ k
            · right; left
              exact ⟨vs[k - off], List.mem_append_right _ (mem_enum.2 ⟨k - (R.st + N * R.sh.length), by rw [List.getElem?_drop, show R.st - off + N * R.sh.length + (k - (R.st + N * R.sh.length)) = k - off by omega]; simp <;> omega, by omega⟩)⟩
            · right; right; exact ⟨hd, R, c1, hR, by omega, by rw [kn, kN]; omega⟩
        · left; rw [a4, if_neg hk]
      · intro e; cases e
      · intro key y g hy hg
        simp only [updL, upd_same, Option.some.injEq] at hg
        subst hg
        refine ⟨hgr' _, fun R' hR' => ?_⟩
        simp only [withRows, Option.some.injEq] at hR'; subst hR'
        obtain ⟨k, q1, q2, q3, q4, q5⟩ := memcs key y hy
        rw [q4, key_mod _ _ (by omega)]; simp only; rw [e1]; omega
      · intro c g hg k hk
        simp only [List.mem_singleton, Prod.mk.injEq] at hg
        obtain ⟨rfl, rfl⟩ := hg
        refine ⟨hgr' _, fun R' hR' => ?_⟩
        simp only [withRows, Option.some.injEq] at hR'; subst hR'
        have := hk.2 R hR
        simp only; rw [e1]; rw [kn, kN] at this; exact this
    · split at h
      case h_2 => cases h
      rename_i hin
      simp only [Bool.and_eq_true] at hin
      have c3 := Nat.le_of_ble_eq_true hin.1.1
      have c4 := Nat.le_of_ble_eq_true hin.1.2
      have c5 := Nat.le_of_ble_eq_true hin.2
      split at h
      case h_2 => cases h
      rename_i ns hns
      simp only [Option.some.injEq, Prod.mk.injEq] at h
      obtain ⟨_, rfl, rfl, rfl⟩ := h
      obtain ⟨n1, n2⟩ := encs_len hns
      have hdm := Nat.div_add_mod (off - R.st) R.sh.length
      rw [Nat.mul_comm] at hdm
      refine ⟨r, off, _, hxv, a5, rfl, ?_⟩
      by_cases hn0 : n = 0
      · -- nothing is written
        subst hn0
        have hns0 : ns = [] := List.eq_nil_of_length_eq_zero (by rw [n1, ← n2, b1])
        have harr : arr' = arr := by
          apply Array.ext_getElem?
          intro j; rw [a4, if_neg (by omega)]
        have hl : ∀ (p j : Nat), rset R.l p j ([] : List Int) = R.l := by
          intro p j
          simp only [rset, wr]
          by_cases hp : p < R.l.length
          · apply List.ext_getElem?
            intro q
            rw [List.getElem?_set]
            split
            · rename_i e; subst e; simp [List.getD_eq_getElem?_getD, hp]
            · rfl
          · rw [List.set_eq_of_length_le (by omega)]
        refine hM.write hi ha hro a1 a3 c1 ?_ ?_ ?_ ?_ ?_ ?_
        · intro key y hy; cases hy
        · intro c g hg
          simp only [List.mem_singleton, Prod.mk.injEq] at hg
          obtain ⟨rfl, rfl⟩ := hg
          refine ⟨rfl, k2, k3, fun _ => ⟨hv0, hz, fun e => by simp [withRows] at e⟩, fun R' hR' => ?_⟩
          simp only [withRows, Option.some.injEq] at hR'; subst hR'
          subst hns0
          rw [hl]
          exact ⟨kn, fun N' hN' => by rw [hN] at hN'; simp only [Option.some.injEq] at hN'; omega, .inr ⟨r, 0, arr', i.ty, (0, 0), ha, setRow_heap w r arr arr' _ _ a1, by rw [harr]; exact old1, old2⟩⟩
        · intro k; left; rw [a4, if_neg (by omega)]
        · intro e; cases e
        · intro key y g hy; cases hy
        · intro c g hg k hk
          simp only [List.mem_singleton, Prod.mk.injEq] at hg
          obtain ⟨rfl, rfl⟩ := hg
          refine ⟨hgr' _, fun R' hR' => ?_⟩
          simp only [withRows, Option.some.injEq] at hR'; subst hR'
          subst hns0
          simp only [hl]
          exact hk.2 R hR
      have hpos : 0 < R.sh.length := by omega
      have hp : (off - R.st) / R.sh.length < R.l.length := by
        rw [kn, kN, Nat.div_lt_iff_lt_mul hpos]; omega
      have hnsl : ns.length = n := by rw [n1, ← n2, b1]
      have hnew : RowsIn arr' 0 ⟨R.st, R.sh, rset R.l ((off - R.st) / R.sh.length) ((off - R.st) % R.sh.length) ns, R.fx⟩ := by
        refine old1.put a3 hp (by omega) (fun m x k hm hk => ?_) (fun k hk => ?_) (.inl rfl)
        · have hml : m < ns.length := (List.getElem?_eq_some_iff.1 hm).1
          have hkk : ((ksAt R.sh ((off - R.st) % R.sh.length)).take n)[m]? = some k := by
            rw [List.getElem?_take, if_pos (by omega), ksAt_get]; exact hk
          have := encs_val hns hv m x k hm hkk
          rw [Nat.zero_add, a4, if_pos (by omega), ← this]
          congr 1; omega
        · rw [Nat.zero_add, a4, if_neg (by omega)]
      refine hM.write hi ha hro a1 a3 c1 ?_ ?_ ?_ ?_ ?_ ?_
      · intro key y hy; cases hy
      · intro c g hg
        simp only [List.mem_singleton, Prod.mk.injEq] at hg
        obtain ⟨rfl, rfl⟩ := hg
        refine ⟨rfl, k2, k3, fun _ => ⟨hv0, hz, fun e => by simp [withRows] at e⟩, fun R' hR' => ?_⟩
        simp only [withRows, Option.some.injEq] at hR'; subst hR'
        exact ⟨by simp only [rset, List.length_set]; exact kn, fun N' hN' => by rw [hN] at hN'; simp only [Option.some.injEq] at hN'; omega, .inr ⟨r, 0, arr', i.ty, (0, 0), ha, setRow_heap w r arr arr' _ _ a1, hnew, by simp only [rset, List.length_set]; exact old2⟩⟩
      · intro k
        by_cases hk : off ≤ k ∧ k < off + n
        · right; right; exact ⟨hd, R, c1, hR, by omega, by rw [kn, kN]; omega⟩
        · left; rw [a4, if_neg hk]
      · intro e; cases e
      · intro key y g hy; cases hy
      · intro c g hg k hk
        simp only [List.mem_singleton, Prod.mk.injEq] at hg
        obtain ⟨rfl, rfl⟩ := hg
        refine ⟨hgr' _, fun R' hR' => ?_⟩
        simp only [withRows, Option.some.injEq] at hR'; subst hR'
        have := hk.2 R hR
        simp only [rset, List.length_set]; exact this

theorem mixA_rel {c : Bool} {y o x : At} {v : Value} (h : mixA c y o = some x) (hv : (bif c then y else o).rel φ v) : x.rel φ v := by
  unfold mixA at h
  split at h
  · split at h
    · rename_i hk
      have hk := of_decide_eq_true hk
      subst hk
      simp only [Option.some.injEq] at h; subst h
      cases c <;> exact hv
    · cases h
  · simp only [Option.some.injEq] at h; subst h
    cases c <;> exact hv
  · cases h

theorem mixCells_spec {b : Nat} {c : Bool} : ∀ {vs : List At} {k : Nat} {l : List (Nat × At)}, mixCells μ ρ b c k vs = some l →
    (∀ key x, (key, x) ∈ l → ∃ m y o, m < vs.length ∧ vs[m]? = some y ∧ key = b * 65536 + (k + m) ∧ rdc μ ρ b (k + m) = some o ∧ mixA c y o = some x) ∧ ∀ m, m < vs.length → ∃ x, (b * 65536 + (k + m), x) ∈ l
  | [], k, l, h => by
    simp only [mixCells, Option.some.injEq] at h; subst h
    exact ⟨fun _ _ h => (List.not_mem_nil h).elim, fun m hm => by simp at hm⟩
  | y :: r, k, l, h => by
    unfold mixCells at h
    split at h
    · rename_i x l' h1 h2
      simp only [Option.some.injEq] at h; subst h
      obtain ⟨o, o1, o2⟩ := Option.bind_eq_some_iff.1 h1
      obtain ⟨g1, g2⟩ := mixCells_spec h2
      refine ⟨fun key z hz => ?_, fun m hm => ?_⟩
      · rcases List.mem_cons.1 hz with e | hz
        · simp only [Prod.mk.injEq] at e; obtain ⟨rfl, rfl⟩ := e
          exact ⟨0, y, o, by simp, by simp, rfl, o1, o2⟩
        · obtain ⟨m, y', o', q1, q2, q3, q4, q5⟩ := g1 key z hz
          exact ⟨m + 1, y', o', by simp; omega, by simpa using q2, by rw [q3]; omega, by rw [show k + (m + 1) = k + 1 + m by omega]; exact q4, q5⟩
      · cases m with
        | zero => exact ⟨x, by simp⟩
        | succ m =>
          obtain ⟨z, hz⟩ := g2 m (by simp at hm; omega)
          exact ⟨z, List.mem_cons_of_mem _ (by rw [show k + (m + 1) = k + 1 + m by omega]; exact hz)⟩
    · cases h

theorem mixRows_spec {b e i k : Nat} {vs : List At} : ∀ {N : Nat} {l : List (Nat × At)}, mixRows μ ρ b e i k vs N = some l →
    (∀ key x, (key, x) ∈ l → ∃ p m y o, p < N ∧ m < vs.length ∧ vs[m]? = some y ∧ key = b * 65536 + (k + p * e + m) ∧ rdc μ ρ b (k + p * e + m) = some o ∧ mixA (Nat.beq i p) y o = some x) ∧
      ∀ p m, p < N → m < vs.length → ∃ x, (b * 65536 + (k + p * e + m), x) ∈ l
  | 0, l, h => by
    simp only [mixRows, Option.some.injEq] at h; subst h
    exact ⟨fun _ _ h => (List.not_mem_nil h).elim, fun p m hp => by omega⟩
  | N + 1, l, h => by
    unfold mixRows at h
    split at h
    · rename_i l1 l2 h1 h2
      simp only [Option.some.injEq] at h; subst h
      obtain ⟨f1, f2⟩ := mixCells_spec h1
      obtain ⟨g1, g2⟩ := mixRows_spec h2
      refine ⟨fun key z hz => ?_, fun p m hp hm => ?_⟩
      · rcases List.mem_append.1 hz with hz | hz
        · obtain ⟨m, y, o, q1, q2, q3, q4, q5⟩ := f1 key z hz
          exact ⟨N, m, y, o, by omega, q1, q2, q3, q4, q5⟩
        · obtain ⟨p, m, y, o, q0, q1, q2, q3, q4, q5⟩ := g1 key z hz
          exact ⟨p, m, y, o, by omega, q1, q2, q3, q4, q5⟩
      · by_cases hpN : p = N
        · subst hpN
          obtain ⟨z, hz⟩ := f2 m hm
          exact ⟨z, List.mem_append_left _ hz⟩
        · obtain ⟨z, hz⟩ := g2 p m (by omega) hm
          exact ⟨z, List.mem_append_right _ hz⟩
    · cases h

theorem storeC_run (hM : MR w0 may φ μ ρ fr w) {t : TypeId} {s : Bool} {b v st e i j : Nat} {vs : List At} {obs : List Prop} {lv : LV} {cs : List (Nat × At)} {hs : List (Nat × Hd)} (h : storeC P μ ρ t s b v st e i j vs = some (obs, lv, cs, hs)) (ho : Alls obs) {x y : Value} (hx : At.rel φ (.prw s b v st e i j) x)
    (hv : All2 (At.rel φ) vs y.cells.toList) : ∃ r o' w', x = .pointer (some ⟨r, o', none⟩) ∧ (storeVar t ⟨r, o', none⟩ y).run P w = .ok () w' ∧ lv = .t [] ∧ MR w0 may φ (updL μ cs) (updL ρ hs) fr w' := by
  unfold storeC at h
  split at h
  case h_2 => cases h
  rename_i hd q n hc hsh
  split at h
  case h_2 => cases h
  rename_i hR hb
  split at h
  case h_2 => cases h
  rename_i cs' hm
  simp only [Option.some.injEq, Prod.mk.injEq] at h
  obtain ⟨rfl, rfl, rfl, rfl⟩ := h
  simp only [Bool.and_eq_true, Bool.not_eq_true'] at hb
  obtain ⟨⟨⟨⟨⟨⟨b0, b1⟩, b2⟩, b3⟩, b4⟩, b5⟩, b6⟩ := hb
  have b0 := Nat.eq_of_beq_eq_true b0
  have b1 := Nat.eq_of_beq_eq_true b1
  have b3 := Nat.le_of_ble_eq_true b3
  have b4 := Nat.le_of_ble_eq_true b4
  have b5 := Nat.le_of_ble_eq_true b5
  have b6 := Nat.le_of_ble_eq_true b6
  subst b0
  obtain ⟨inf, r, o', g1, g2, g3, g4⟩ := prc_place hM hx hc
  obtain ⟨c1, c2⟩ := cur_spec hc
  obtain ⟨inf', k1, k2, k3, k4, _⟩ := hM.hdr b hd c1
  rw [g1] at k1; simp only [Option.some.injEq] at k1; subst k1
  have hgr : hd.grows = false := by simp [Hd.grows, hR]
  obtain ⟨hv0, hz, _⟩ := k4 hgr
  have hro : inf.ro = false := by rw [k3, b2]
  have ho0 : o' = 0 := (hM.own b inf r o' g1 g2 hro).2.1
  subst ho0
  have hi := ho.1
  have hdiv : (hd.z - st) / e * e ≤ hd.z - st := Nat.div_mul_le_self _ _
  have row : ∀ p, p < (hd.z - st) / e → st + p * e + e ≤ hd.z := fun p hp => by
    have := Nat.mul_le_mul_right e (show p + 1 ≤ (hd.z - st) / e by omega)
    rw [Nat.succ_mul] at this; omega
  have hri := row i hi
  obtain ⟨arr, a1, a2, arr', a3, a4, a5⟩ := storeCells_go (off := st + i * e + j) hM g1 g2 hro hsh hv b1 (by omega)
  rw [Nat.zero_add] at g4
  refine ⟨r, _, _, g4, a5, rfl, ?_⟩
  obtain ⟨m1, m2⟩ := mixRows_spec hm
  refine hM.write g1 g2 hro a1 a3 c1 ?_ ?_ ?_ ?_ ?_ ?_
  · intro key z hz'
    obtain ⟨p, m, y', o, q0, q1, q2, q3, q4, q5⟩ := m1 key z hz'
    have hrp := row p q0
    refine ⟨st + j + p * e + m, by omega, q3, hv0, by omega, ?_⟩
    obtain ⟨u, u1, u2⟩ := hv.get q2
    obtain ⟨ov, v1, v2⟩ := rdc_run hM q4 g1 g2
    by_cases hpi : i = p
    · subst hpi
      refine ⟨u, ?_, mixA_rel q5 (by simpa using u2)⟩
      rw [a4, if_pos (by omega), show st + j + i * e + m - (st + i * e + j) = m by omega]; exact u1
    · have hbq : Nat.beq i p = false := by
        cases hq : Nat.beq i p
        · rfl
        · exact absurd (Nat.eq_of_beq_eq_true hq) hpi
      rw [hbq] at q5
      refine ⟨ov, ?_, mixA_rel q5 (by simpa using v2)⟩
      have hne : ¬ (st + i * e + j ≤ st + j + p * e + m ∧ st + j + p * e + m < st + i * e + j + n) := by
        rcases Nat.lt_or_gt_of_ne hpi with hlt | hlt
        · have := Nat.mul_le_mul_right e (show i + 1 ≤ p by omega)
          rw [Nat.succ_mul] at this; omega
        · have := Nat.mul_le_mul_right e (show p + 1 ≤ i by omega)
          rw [Nat.succ_mul] at this; omega
      rw [a4, if_neg hne]
      simpa [World.cell?, a1] using v1
  · intro c g hg; cases hg
  · intro k
    by_cases hk : st + i * e + j ≤ k ∧ k < st + i * e + j + n
    · right; left
      obtain ⟨z, hz'⟩ := m2 i (k - (st + i * e + j)) hi (by omega)
      refine ⟨z, ?_⟩
      rw [show k = st + j + i * e + (k - (st + i * e + j)) by omega]; exact hz'
    · left; rw [a4, if_neg hk]
  · intro _ g R hg hR' k _ _
    rw [c1] at hg; simp only [Option.some.injEq] at hg; subst hg
    rw [hR] at hR'; cases hR'
  · intro key z g _ hg
    simp only [updL] at hg
    rw [c1] at hg; simp only [Option.some.injEq] at hg; subst hg
    exact ⟨hgr, fun R hR' => by rw [hR] at hR'; cases hR'⟩
  · intro c g hg; cases hg

theorem encs_one {k : Kd} {vs : List At} {ns : List Int} (h : encs [k] vs = some ns) : ns.length = 1 := (encs_len h).1

theorem storeR_run (hM : MR w0 may φ μ ρ fr w) {t : TypeId} {s : Bool} {b v st e i j : Nat} {vs : List At} {obs : List Prop} {lv : LV} {cs : List (Nat × At)} {hs : List (Nat × Hd)} (h : storeR P ρ t s b v st e i j vs = some (obs, lv, cs, hs)) {x y : Value} (hx : At.rel φ (.prw s b v st e i j) x)
    (hv : All2 (At.rel φ) vs y.cells.toList) : ∃ r o' w', x = .pointer (some ⟨r, o', none⟩) ∧ (storeVar t ⟨r, o', none⟩ y).run P w = .ok () w' ∧ lv = .t [] ∧ MR w0 may φ (updL μ cs) (updL ρ hs) fr w' := by
  have go : ∀ {hd : Hd} {R : Rw} {q : Bool} {n : Nat} {ns : List Int} {l' : List (List Int)}, rowsAt ρ b v st e = some (hd, R) → shape P t = some (q, n) → vs.length = n → hd.ro = false → ns.length = n → j + n ≤ R.sh.length →
      (∀ m x k, ns[m]? = some x → R.sh[j + m]? = some k → y.cells.toList[m]? = some (k.val x)) →
      (l' = rset R.l i j ns ∨ (j = 0 ∧ ns.length = R.sh.length ∧ l' = R.l.set i ns)) →
      ∃ r o' w', x = .pointer (some ⟨r, o', none⟩) ∧ (storeVar t ⟨r, o', none⟩ y).run P w = .ok () w' ∧ MR w0 may φ (updL μ []) (updL ρ [(b, withRows hd R l')]) fr w' := by
    intro hd R q n ns l' hr hsh hvl hro hnl hjn hval hl'
    obtain ⟨i', r, o', arr0, ty, fz, g1, gro, gv, gn, g3, g4, g5, g6, g7, g8, g9⟩ := prw_place hM hx hr
    obtain ⟨c1, c2, hR, _, _⟩ := rowsAt_spec hr
    have hro' : i'.ro = false := by rw [gro, hro]
    have ho0 : o' = 0 := (hM.own b i' r o' g1 g3 hro').2.1
    subst ho0
    obtain ⟨i2, k1, k2, k3, k4, k5⟩ := hM.hdr b hd c1
    rw [g1] at k1; simp only [Option.some.injEq] at k1; subst k1
    have hbnd : R.st + i * R.sh.length + j + n ≤ i'.z := by
      have := Nat.mul_le_mul_right R.sh.length (show i + 1 ≤ R.l.length by omega)
      rw [Nat.succ_mul] at this; omega
    obtain ⟨arr, a1, a2, arr', a3, a4, a5⟩ := storeCells_go hM g1 g3 hro' hsh hv hvl hbnd
    rw [g4] at a1; simp only [Option.some.injEq, Obj.cells.injEq] at a1
    obtain ⟨rfl, rfl, rfl⟩ := a1
    rw [Nat.zero_add] at g9
    refine ⟨r, _, _, g9, a5, ?_⟩
    have hll : l'.length = R.l.length := by
      rcases hl' with rfl | ⟨_, _, rfl⟩ <;> simp [rset]
    have hnew : RowsIn arr' 0 ⟨R.st, R.sh, l', R.fx⟩ := by
      refine g5.put a3 g6 (by omega) (fun m x k hm hk => ?_) (fun k hk => ?_) hl'
      · have hml : m < ns.length := (List.getElem?_eq_some_iff.1 hm).1
        rw [Nat.zero_add, a4, if_pos (by omega), ← hval m x k hm hk]
        congr 1; omega
      · rw [Nat.zero_add, a4, if_neg (by omega)]
    refine hM.write g1 g3 hro' g4 a3 c1 ?_ ?_ ?_ ?_ ?_ ?_
    · intro key y hy; cases hy
    · intro c g hg
      simp only [List.mem_singleton, Prod.mk.injEq] at hg
      obtain ⟨rfl, rfl⟩ := hg
      refine ⟨rfl, k2, k3, fun hgr => by obtain ⟨e1, e2, _⟩ := k4 (by simpa [Hd.grows, withRows, hR] using hgr); exact ⟨e1, e2, fun e => by simp [withRows] at e⟩, fun R' hR' => ?_⟩
      simp only [withRows, Option.some.injEq] at hR'; subst hR'
      exact ⟨by simp only [hll]; exact gn.symm, (k5 R hR).2.1, .inr ⟨r, 0, arr', i'.ty, (0, 0), g3, setRow_heap w r arr0 arr' _ _ g4, hnew, by simp only [hll]; exact g8⟩⟩
    · intro k
      by_cases hk : R.st + i * R.sh.length + j ≤ k ∧ k < R.st + i * R.sh.length + j + n
      · right; right
        refine ⟨hd, R, c1, hR, by omega, ?_⟩
        have := Nat.mul_le_mul_right R.sh.length (show i + 1 ≤ R.l.length by omega)
        rw [Nat.succ_mul] at this; omega
      · left; rw [a4, if_neg hk]
    · intro e; cases e
    · intro key y g hy; cases hy
    · intro c g hg k hk
      simp only [List.mem_singleton, Prod.mk.injEq] at hg
      obtain ⟨rfl, rfl⟩ := hg
      refine ⟨by have := hk.1; simpa [Hd.grows, withRows, hR] using this, fun R' hR' => ?_⟩
      simp only [withRows, Option.some.injEq] at hR'; subst hR'
      have := hk.2 R hR
      simp only [hll]; exact this
  unfold storeR at h
  split at h
  · rename_i hd R q n hr hsh
    split at h
    case h_2 => cases h
    rename_i ns hb hns
    simp only [Bool.and_eq_true, Bool.not_eq_true'] at hb
    have b1 := Nat.eq_of_beq_eq_true hb.1
    obtain ⟨n1, n2⟩ := encs_len hns
    obtain ⟨_, _, _, _, hel⟩ := rowsAt_spec hr
    have hjl : j + n ≤ R.sh.length ∨ n = 0 := by
      by_cases hn0 : n = 0
      · exact .inr hn0
      · left
        have : ((ksAt R.sh j).take n)[n - 1]? ≠ none := by
          rw [Ne, List.getElem?_eq_none_iff]
          rw [← n2, b1]; omega
        rw [List.getElem?_take, if_pos (by omega), ksAt_get] at this
        have : ¬ R.sh.length ≤ j + (n - 1) := fun hle => this (List.getElem?_eq_none hle)
        omega
    have hplace := prw_place hM hx hr
    obtain ⟨_, _, _, _, _, _, _, _, _, _, _, _, _, _, hj, _, _⟩ := hplace
    have hval : ∀ m x k, ns[m]? = some x → R.sh[j + m]? = some k → y.cells.toList[m]? = some (k.val x) := fun m x k hm hk => by
      have hml : m < ns.length := (List.getElem?_eq_some_iff.1 hm).1
      exact encs_val hns hv m x k hm (by rw [List.getElem?_take, if_pos (by rw [n1, ← n2, b1] at hml; omega), ksAt_get]; exact hk)
    have hnl : ns.length = n := by rw [n1, ← n2, b1]
    split at h
    · rename_i hf
      simp only [Bool.and_eq_true] at hf
      have f1 := Nat.eq_of_beq_eq_true hf.1
      have f2 := Nat.eq_of_beq_eq_true hf.2
      simp only [Option.some.injEq, Prod.mk.injEq] at h
      obtain ⟨_, rfl, rfl, rfl⟩ := h
      obtain ⟨r, o', w', p1, p2, p3⟩ := go (l' := R.l.set i ns) hr hsh b1 hb.2 hnl (by omega) hval (.inr ⟨f1, by rw [hnl, f2, hel], rfl⟩)
      exact ⟨r, o', w', p1, p2, rfl, p3⟩
    · simp only [Option.some.injEq, Prod.mk.injEq] at h
      obtain ⟨_, rfl, rfl, rfl⟩ := h
      obtain ⟨r, o', w', p1, p2, p3⟩ := go (l' := rset R.l i j ns) hr hsh b1 hb.2 hnl (by omega) hval (.inl rfl)
      exact ⟨r, o', w', p1, p2, rfl, p3⟩
  · rename_i hd R q n hr hsh
    split at h
    case h_2 => cases h
    rename_i k hk
    split at h
    case h_2 => cases h
    rename_i ns hb hns
    simp only [Bool.and_eq_true, Bool.not_eq_true'] at hb
    have b1 := Nat.eq_of_beq_eq_true hb.1.1
    have b2 := Nat.eq_of_beq_eq_true hb.1.2
    have hplace := prw_place hM hx hr
    obtain ⟨_, _, _, _, _, _, _, _, _, _, _, _, _, _, hj, _, _⟩ := hplace
    simp only [Option.some.injEq, Prod.mk.injEq] at h
    obtain ⟨_, rfl, rfl, rfl⟩ := h
    have hnl := encs_one hns
    obtain ⟨r, o', w', p1, p2, p3⟩ := go (l' := rset R.l i j ns) hr hsh (by omega) hb.2 (by omega) (by omega) (fun m x k' hm hk' => by
      have hml : m < ns.length := (List.getElem?_eq_some_iff.1 hm).1
      have hm0 : m = 0 := by omega
      subst hm0
      have hkk := oneKd_spec hk hj
      rw [Nat.add_zero] at hk'
      rw [hkk] at hk'; simp only [Option.some.injEq] at hk'; subst hk'
      exact encs_val hns hv 0 x k hm (by simp)) (.inl rfl)
    exact ⟨r, o', w', p1, p2, rfl, p3⟩
  · cases h

end
end Go.Proofs.Ytcdejlgophpdjaa.V
end

section
namespace Go.Proofs.Ytcdejlgophpdjaa.V
open Go Go.RowKit

section
variable {P : Program} {w0 : World} {may : Nat → Prop} {φ : Phi} {σ : Sig} {μ : Mem} {ρ : Hds} {fr : Nat → Prop} {w : World} {a : Act} {o : Oper}

theorem zero_run {t : TypeId} {l : List At} (h : zeroL P t = some l) (φ : Phi) (w : World) : ∃ v, (zeroValue t).run P w = .ok v w ∧ All2 (At.rel φ) l v.cells.toList ∧ ∃ i, P.info? t = some i ∧ i.zero = some v := by
  unfold zeroL at h
  split at h
  · rename_i i hi
    split at h
    · rename_i z hz
      split at h
      · rename_i lv hlv
        exact ⟨z, by simp [zeroValue, typeInfo, hi, hz], vcells_rel (LV.ofVal_rel hlv φ) h, i, hi, hz⟩
      · cases h
    · cases h
  · cases h

theorem lparts_rel (hσ : TRel φ σ a.tmps) : ∀ {l : List (Nat × Operand)} {ps : List (Nat × LV)}, lparts σ l = some ps → All2 (fun (p : Nat × LV) (q : Nat × Value) => p.1 = q.1 ∧ p.2.rel φ q.2) ps (l.map fun p => (p.1, a.eval p.2))
  | [], ps, h => by simp [lparts] at h; subst h; exact .nil
  | (i, x) :: rest, ps, h => by
    unfold lparts at h
    split at h
    · rename_i v r hv hr
      simp only [Option.some.injEq] at h; subst h
      exact .cons ⟨rfl, lev_rel hσ hv⟩ (lparts_rel hσ hr)
    · cases h

theorem zipIdx_fold (off : Nat) : ∀ (vs : List Value) (i : Nat) (cs : Array Value), off + i + vs.length ≤ cs.size →
    (vs.zipIdx i).foldl (fun (cs : Array Value) (x : Value × Nat) => cs.setIfInBounds (off + x.2) x.1) cs = (cs.toList.take (off + i) ++ vs ++ cs.toList.drop (off + i + vs.length)).toArray
  | [], i, cs, _ => by simp
  | v :: rest, i, cs, h => by
    simp only [List.zipIdx_cons, List.foldl_cons]
    rw [zipIdx_fold off rest (i + 1) (cs.setIfInBounds (off + i) v) (by simp at h ⊢; omega)]
    have e := list_seg_step cs.toList (off + i) v rest (by simp at h ⊢; omega)
    congr 1
    simpa [Array.toList_setIfInBounds, Nat.add_assoc] using e

theorem fill_run {φ : Phi} (place : Nat → Option (Nat × Nat)) : ∀ {ps : List (Nat × LV)} {qs : List (Nat × Value)} {cells res : List At} {arr : Array Value}, lfill place cells ps = some res →
    All2 (fun (p : Nat × LV) (q : Nat × Value) => p.1 = q.1 ∧ p.2.rel φ q.2) ps qs → All2 (At.rel φ) cells arr.toList → ∃ out, Instr.fill place arr qs = some out ∧ All2 (At.rel φ) res out.toList
  | [], qs, cells, res, arr, h, hq, hc => by
    cases hq
    simp only [lfill, Option.some.injEq] at h; subst h
    exact ⟨arr, by simp [Instr.fill], hc⟩
  | (i, v) :: rest, qs, cells, res, arr, h, hq, hc => by
    cases hq with
    | @cons _ q _ qs' hq1 hq2 =>
      obtain ⟨j, u⟩ := q
      obtain ⟨hij, hu⟩ := hq1
      simp only at hij hu
      subst hij
      unfold lfill at h
      split at h
      · rename_i off size vs hpl hvs
        split at h
        · rename_i hb
          simp only [Bool.and_eq_true] at hb
          have hb1 := Nat.eq_of_beq_eq_true hb.1
          have hb2 := Nat.le_of_ble_eq_true hb.2
          have hv := vcells_rel hu hvs
          have hvl := hv.length
          have hcl := hc.length
          have hlen : u.cells.size = size := by simp at hvl; omega
          have hfold := zipIdx_fold off u.cells.toList 0 arr (by simp at hcl ⊢; omega)
          have hnew : All2 (At.rel φ) (cells.take off ++ vs ++ cells.drop (off + vs.length)) (arr.toList.take (off + 0) ++ u.cells.toList ++ arr.toList.drop (off + 0 + u.cells.toList.length)).toArray.toList := by
            simp only [Nat.add_zero, ← hvl]
            exact ((hc.take off).append hv).append (hc.drop _)
          obtain ⟨out, ho, hr⟩ := fill_run place h hq2 hnew
          refine ⟨out, ?_, hr⟩
          rw [← hfold] at ho
          simp only [Instr.fill, hpl, hlen]
          rw [if_neg (by simp at hcl ⊢; omega)]
          rw [← ho]
          congr 1
          rw [← Array.toList_zipIdx, Array.foldl_toList]
        · cases h
      · cases h

theorem built_run {t : TypeId} {ps : List (Nat × LV)} {qs : List (Nat × Value)} {l : List At} (h : lbuild P t ps = some l) (hq : All2 (fun (p : Nat × LV) (q : Nat × Value) => p.1 = q.1 ∧ p.2.rel φ q.2) ps qs) (w : World) :
    ∃ out, P.built t qs = some out ∧ All2 (At.rel φ) l out.toList := by
  unfold lbuild at h
  split at h
  · rename_i e z hu hz
    obtain ⟨zv, _, hz2, i, hi, hz3⟩ := zero_run hz φ w
    split at h
    · rename_i ie hie
      obtain ⟨out, ho, hr⟩ := fill_run _ h hq hz2
      refine ⟨out, ?_, hr⟩
      simp only [Program.built, hi, hu, hz3, hie, ho]
    · cases h
  · rename_i fields z hu hz
    obtain ⟨zv, _, hz2, i, hi, hz3⟩ := zero_run hz φ w
    split at h
    · rename_i places hpl
      obtain ⟨out, ho, hr⟩ := fill_run _ h hq hz2
      refine ⟨out, ?_, hr⟩
      simp only [Program.built, hi, hu, hz3, hpl, ho]
    · cases h
  · cases h

theorem levs_rel (hσ : TRel φ σ a.tmps) : ∀ {l : List Operand} {vs : List LV}, levs σ l = some vs → All2 (LV.rel φ) vs (l.map a.eval)
  | [], vs, h => by simp [levs] at h; subst h; exact .nil
  | x :: rest, vs, h => by
    unfold levs at h
    split at h
    · rename_i v r hv hr
      simp only [Option.some.injEq] at h; subst h
      exact .cons (lev_rel hσ hv) (levs_rel hσ hr)
    · cases h

theorem lcaps_rel : ∀ {l : List LV} {ps : List (Nat × Nat)} {vs : List Value}, lcaps l = some ps → All2 (LV.rel φ) l vs → All2 (prel φ) ps vs
  | [], ps, vs, h, hv => by cases hv; simp [lcaps] at h; subst h; exact .nil
  | x :: rest, ps, vs, h, hv => by
    cases hv with
    | cons h1 h2 =>
      unfold lcaps at h
      split at h
      · rename_i heq; cases heq
      · rename_i b off r heq
        simp only [List.cons.injEq] at heq
        obtain ⟨rfl, rfl⟩ := heq
        split at h
        · rename_i l' hl'
          simp only [Option.some.injEq] at h; subst h
          exact .cons h1 (lcaps_rel hl' h2)
        · cases h
      · cases h

theorem caps_rel {ps : List (Nat × Nat)} {vs : List Value} (h : All2 (prel φ) ps vs) : All2 (LV.rel φ) (ps.map fun p => .a (.ptr p.1 p.2)) vs := by
  induction h with
  | nil => exact .nil
  | cons h1 _ ih => exact .cons h1 ih

theorem lpart_one {t : TypeId} {l : List At} {cs : Array Value} {off : Nat} {lv : LV} (h : lpart P t l off = some lv) (hl : All2 (At.rel φ) l cs.toList) (w : World) :
    ∃ v, (part t cs off).run P w = .ok v w ∧ lv.rel φ v := part_run h hl

theorem leqFields_run {d : Nat} {rec : TypeId → LV → LV → Option Bool} (hrec : ∀ t x y b u v w, rec t x y = some b → x.rel φ u → y.rel φ v → (Op.equalIn d t u v).run P w = .ok b w) {xs ys : List At} {us vs : Array Value}
    (hx : All2 (At.rel φ) xs us.toList) (hy : All2 (At.rel φ) ys vs.toList) : ∀ {fs : List Field} {b : Bool} (w : World), leqFields P rec xs ys fs = some b → (Op.eqFields d us vs fs).run P w = .ok b w
  | [], b, w, h => by simp only [leqFields, Option.some.injEq] at h; subst h; simp [Op.eqFields]
  | f :: fs, b, w, h => by
    unfold leqFields at h
    split at h
    · rename_i x y hn h1 h2
      have hn' : f.name ≠ "_" := of_decide_eq_false hn
      obtain ⟨u, u1, u2⟩ := lpart_one (P := P) h1 hx w
      obtain ⟨v, v1, v2⟩ := lpart_one (P := P) h2 hy w
      split at h
      · rename_i a ha
        simp only [Option.some.injEq] at h; subst h
        have h3 := hrec _ _ _ _ u v w ha u2 v2
        simp only [Op.eqFields, hn', ne_eq, not_false_eq_true, if_true, Sem.run_bind, u1, v1, h3, Result.andThen_ok]
        cases a <;> simp
      · rename_i a g gs ha
        have h3 := hrec _ _ _ _ u v w ha u2 v2
        split at h
        · rename_i b' hb'
          simp only [Option.some.injEq] at h; subst h
          have ih := leqFields_run hrec hx hy w hb'
          unfold Op.eqFields
          simp only [hn', ne_eq, not_false_eq_true, if_true, Sem.run_bind, u1, v1, h3, Result.andThen_ok]
          cases a
          · simp
          · simpa using ih
        · cases h
      · cases h
    · cases h

theorem leqItems_run {d : Nat} {rec : TypeId → LV → LV → Option Bool} (hrec : ∀ t x y b u v w, rec t x y = some b → x.rel φ u → y.rel φ v → (Op.equalIn d t u v).run P w = .ok b w) {xs ys : List At} {us vs : Array Value} {e : TypeId} {n : Nat}
    (hx : All2 (At.rel φ) xs us.toList) (hy : All2 (At.rel φ) ys vs.toList) : ∀ {is : List Nat} {b : Bool} (w : World), leqItems P rec e n xs ys is = some b → (Op.eqItems d e n us vs is).run P w = .ok b w
  | [], b, w, h => by simp only [leqItems, Option.some.injEq] at h; subst h; simp [Op.eqItems]
  | i :: is, b, w, h => by
    unfold leqItems at h
    split at h
    · rename_i x y h1 h2
      obtain ⟨u, u1, u2⟩ := lpart_one (P := P) h1 hx w
      obtain ⟨v, v1, v2⟩ := lpart_one (P := P) h2 hy w
      split at h
      · rename_i a ha
        simp only [Option.some.injEq] at h; subst h
        have h3 := hrec _ _ _ _ u v w ha u2 v2
        simp only [Op.eqItems, Sem.run_bind, u1, v1, h3, Result.andThen_ok]
        cases a <;> simp
      · rename_i a g gs ha
        have h3 := hrec _ _ _ _ u v w ha u2 v2
        split at h
        · rename_i b' hb'
          simp only [Option.some.injEq] at h; subst h
          have ih := leqItems_run hrec hx hy w hb'
          unfold Op.eqItems
          simp only [Sem.run_bind, u1, v1, h3, Result.andThen_ok]
          cases a
          · simp
          · simpa using ih
        · cases h
      · cases h
    · cases h

theorem leq_run (D : Nat) : ∀ (d : Nat) (t : TypeId) (x y : LV) (b : Bool) (u v : Value) (w : World), leq P d t x y = some b → x.rel φ u → y.rel φ v → (Op.equalIn (D + d) t u v).run P w = .ok b w
  | 0, t, x, y, b, u, v, w, h, _, _ => by simp [leq] at h
  | d + 1, t, x, y, b, u, v, w, h, hx, hy => by
    have ih := leq_run D d
    rw [show D + (d + 1) = (D + d) + 1 by omega]
    unfold leq at h
    split at h
    · rename_i k1 s1 k a s2 k' b' hu
      split at h
      · rename_i hk
        have hk' := of_decide_eq_true hk
        subst hk'
        simp only [Option.some.injEq] at h; subst h
        have e1 : u = .int k a := hx
        have e2 : v = .int k b' := hy
        subst e1 e2
        exact run_equalIn_int w _ t _ _ _ _ hu
      · cases h
    · rename_i s1 a s2 b' hu
      simp only [Option.some.injEq] at h; subst h
      have e1 : u = .bool a := hx
      have e2 : v = .bool b' := hy
      subst e1 e2
      exact run_equalIn_bool' w _ t _ _ hu
    · rename_i s1 a s2 b' hu
      simp only [Option.some.injEq] at h; subst h
      have e1 : u = .string a := hx
      have e2 : v = .string b' := hy
      subst e1 e2
      exact run_equalIn_string w _ t _ _ hu
    · rename_i fs xs ys hu
      split at h
      · rename_i hs
        obtain ⟨us, rfl, hus⟩ := hx
        obtain ⟨vs, rfl, hvs⟩ := hy
        have hf : P.fieldsOf t = fs := by simp [Program.fieldsOf, hu]
        rw [run_equalIn_struct w _ t _ _ (by rw [hf]; exact hu) hs, hf]
        exact leqFields_run (fun t x y b u v w => ih t x y b u v w) hus hvs w h
      · cases h
    · rename_i n e xs ys hu
      split at h
      · rename_i i hi
        obtain ⟨us, rfl, hus⟩ := hx
        obtain ⟨vs, rfl, hvs⟩ := hy
        have hcs : P.cellsOf e = i.size := by simp [Program.cellsOf, hi]
        rw [run_equalIn_array w _ us vs hu hi, hcs]
        exact leqItems_run (fun t x y b u v w => ih t x y b u v w) hus hvs w h
      · cases h
    · cases h

theorem leqOp_run {t : TypeId} {xs ys : List At} {b : Bool} (h : leqOp P t (.g xs) (.g ys) = some b) {u v : Value} (hx : (LV.g xs).rel φ u) (hy : (LV.g ys).rel φ v) (w : World) (op : BinOp) (x y : Operand) :
    (eqGuard op t x y u v).run P w = .ok () w ∧ (Op.equalIn 10000 t u v).run P w = .ok b w := by
  unfold leqOp at h
  split at h
  · rename_i hg
    refine ⟨?_, leq_run 9980 20 t _ _ b u v w h hx hy⟩
    obtain ⟨us, rfl, _⟩ := hx
    obtain ⟨vs, rfl, _⟩ := hy
    unfold eqGuard
    by_cases ho : (op matches .eql | .neq) = true
    · simp [hg]
    · simp [hg]
  · cases h

end
end Go.Proofs.Ytcdejlgophpdjaa.V
end

section
namespace Go.Proofs.Ytcdejlgophpdjaa
open Go

theorem p64 : (2 : Int) ^ 64 = 18446744073709551616 := by decide
theorem p63 : (2 : Int) ^ (64 - 1) = 9223372036854775808 := by decide

theorem w64 (n : Int) : IntKind.wrap .i64 n = if n % 18446744073709551616 ≥ 9223372036854775808 then n % 18446744073709551616 - 18446744073709551616 else n % 18446744073709551616 := by
  unfold IntKind.wrap
  simp only [IntKind.bits, IntKind.signed, Bool.true_and, decide_eq_true_eq, p64, p63]

theorem w64_in {n : Int} (h1 : -9223372036854775808 ≤ n) (h2 : n ≤ 9223372036854775807) : IntKind.wrap .i64 n = n := by
  rw [w64]; split <;> omega

theorem wu8 (n : Int) : IntKind.wrap .u8 n = n % 256 := by
  unfold IntKind.wrap
  simp only [IntKind.bits, IntKind.signed, Bool.false_and, Bool.false_eq_true, if_false]
  rfl

theorem wi8 (n : Int) : IntKind.wrap .i8 n = if n % 256 ≥ 128 then n % 256 - 256 else n % 256 := by
  unfold IntKind.wrap
  have h8 : (2 : Int) ^ 8 = 256 := by decide
  have h7 : (2 : Int) ^ (8 - 1) = 128 := by decide
  simp only [IntKind.bits, IntKind.signed, Bool.true_and, decide_eq_true_eq, h8, h7]

theorem sh16 (n : Int) : Int.fdiv n (2 ^ min (Int.toNat 16) (IntKind.bits .i64)) = n / 65536 := by
  have : (2 : Int) ^ min (Int.toNat 16) (IntKind.bits .i64) = 65536 := by decide
  rw [this, Int.fdiv_eq_ediv_of_nonneg _ (by omega)]

end Go.Proofs.Ytcdejlgophpdjaa
end

