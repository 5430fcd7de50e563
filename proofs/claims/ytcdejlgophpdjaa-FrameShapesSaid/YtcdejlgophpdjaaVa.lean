/-
  A small local memory on which translated code is run by a function; what it finds holds of the real memory (first part: values, relations, quiet steps).
-/
import Derived.WalkKit
namespace Go.Proofs.Ytcdejlgophpdjaa.V
open Go Go.RowKit

inductive All2 {α β : Type} (R : α → β → Prop) : List α → List β → Prop
  | nil : All2 R [] []
  | cons {x y xs ys} : R x y → All2 R xs ys → All2 R (x :: xs) (y :: ys)

namespace All2
variable {α β : Type} {R S : α → β → Prop}
theorem mono (h : ∀ x y, R x y → S x y) {l m} (a : All2 R l m) : All2 S l m := by
  induction a with
  | nil => exact .nil
  | cons r _ ih => exact .cons (h _ _ r) ih
theorem length {l m} (a : All2 R l m) : l.length = m.length := by
  induction a with
  | nil => rfl
  | cons _ _ ih => simp [ih]
theorem take {l m} (a : All2 R l m) (n : Nat) : All2 R (l.take n) (m.take n) := by
  induction a generalizing n with
  | nil => simp; exact .nil
  | cons r _ ih => cases n with
    | zero => simp; exact .nil
    | succ n => simp; exact .cons r (ih n)
theorem drop {l m} (a : All2 R l m) (n : Nat) : All2 R (l.drop n) (m.drop n) := by
  induction a generalizing n with
  | nil => simp; exact .nil
  | cons r t ih => cases n with
    | zero => simp; exact .cons r t
    | succ n => simp; exact ih n
theorem append {l m l' m'} (a : All2 R l m) (b : All2 R l' m') : All2 R (l ++ l') (m ++ m') := by
  induction a with
  | nil => exact b
  | cons r _ ih => exact .cons r ih
theorem get {l m} (a : All2 R l m) {i : Nat} {x : α} (h : l[i]? = some x) : ∃ y, m[i]? = some y ∧ R x y := by
  induction a generalizing i with
  | nil => simp at h
  | cons r _ ih => cases i with
    | zero => simp at h; subst h; exact ⟨_, by simp, r⟩
    | succ i => simp at h; obtain ⟨y, h1, h2⟩ := ih h; exact ⟨y, by simpa using h1, h2⟩
theorem of_mapM {f : β → Option α} (hf : ∀ y x, f y = some x → R x y) : ∀ {m : List β} {l : List α}, m.mapM f = some l → All2 R l m
  | [], l, h => by simp at h; subst h; exact .nil
  | y :: m, l, h => by
    rw [List.mapM_cons] at h
    simp only [bind, Option.bind_eq_some_iff, pure, Option.some.injEq] at h
    obtain ⟨x, hx, l', hl, rfl⟩ := h
    exact .cons (hf _ _ hx) (of_mapM hf hl)
end All2


/-- One cell's content. The mark of a number, a bool, a text: it is not known to the kernel. Block numbers are the local memory's own. -/
inductive At where
  | bool (s : Bool) (b : Bool)
  | int (s : Bool) (k : IntKind) (n : Int)
  | str (s : Bool) (x : ByteArray)
  | ptr (b off : Nat)
  | prw (s : Bool) (b v st e i j : Nat)
  | nil
  | slc (s : Bool) (b v st e off len : Nat)
  | vec (b v e : Nat)
  | nils
  | fn (f : Nat) (caps : List (Nat × Nat))
  | nilfn
  | unk

/-- A value: a cell's content, a struct or an array by its cells, a tuple. -/
inductive LV where
  | a (x : At)
  | g (l : List At)
  | t (l : List LV)
  | u

/-- Where a block of the local memory stands: block and place (none: a slice that is nil), how many cells, how many rows, its version; whether it may not be written. -/
structure Inf where
  ty : TypeId
  a : Option (Nat × Nat)
  z : Nat
  n : Nat
  v : Nat
  ro : Bool

abbrev Phi := Nat → Option Inf

def Inf.le (i j : Inf) : Prop := i = j ∨ i.v < j.v
def Phi.le (φ ψ : Phi) : Prop := ∀ b i, φ b = some i → ∃ j, ψ b = some j ∧ i.le j
theorem Inf.le_refl (i : Inf) : i.le i := .inl rfl
theorem Inf.le_trans {i j k : Inf} (h : i.le j) (g : j.le k) : i.le k := by
  rcases h with rfl | h
  · exact g
  · rcases g with rfl | g
    · exact .inr h
    · exact .inr (Nat.lt_trans h g)
theorem Phi.le_refl (φ : Phi) : φ.le φ := fun _ i h => ⟨i, h, i.le_refl⟩
theorem Phi.le_trans {φ ψ χ : Phi} (h : φ.le ψ) (k : ψ.le χ) : φ.le χ := fun b i e =>
  let ⟨j, hj, l⟩ := h b i e
  let ⟨m, hm, l'⟩ := k b j hj
  ⟨m, hm, Inf.le_trans l l'⟩

/-- What holds of a value that looks into a block, if it is of the block's version. -/
def vrel (φ : Phi) (b v : Nat) (u : Value) (R : Inf → Prop) : Prop := (u.oneCell' = true ∧ u.cells = #[u]) ∧ ∃ i, φ b = some i ∧ v ≤ i.v ∧ (v = i.v → R i)

theorem vrel.mono {φ ψ : Phi} (h : φ.le ψ) {b v : Nat} {u : Value} {R : Inf → Prop} (k : vrel φ b v u R) : vrel ψ b v u R := by
  obtain ⟨h0, i, h1, h2, h3⟩ := k
  obtain ⟨j, g1, g2⟩ := h b i h1
  rcases g2 with rfl | g2
  · exact ⟨h0, i, g1, h2, h3⟩
  · exact ⟨h0, j, g1, by omega, fun e => by omega⟩

/-- A pointer to a block's cell: blocks that are never moved have version 0. -/
def prel (φ : Phi) (p : Nat × Nat) (u : Value) : Prop := vrel φ p.1 0 u fun i => ∃ r o, i.a = some (r, o) ∧ u = .pointer (some ⟨r, o + p.2, none⟩)

def vecR (e : Nat) (v : Value) (i : Inf) : Prop :=
  (i.a = none ∧ i.n = 0 ∧ v = .slice none 0 0) ∨ ∃ r o cap, i.a = some (r, o) ∧ v = .slice (some ⟨r, o, none⟩) i.n cap ∧ i.n ≤ cap ∧ cap * e = i.z ∧ cap ≤ maxLen

def slcR (st e off len : Nat) (v : Value) (i : Inf) : Prop :=
  off + len ≤ i.n ∧ ∃ a cap, v = .slice a len cap ∧ len ≤ cap ∧ (len = 0 ∨ ∃ r o, i.a = some (r, o) ∧ a = some ⟨r, o + (st + off * e), none⟩)

def prwR (st e p q : Nat) (v : Value) (i : Inf) : Prop :=
  p < i.n ∧ q < e ∧ ∃ r o, i.a = some (r, o) ∧ v = .pointer (some ⟨r, o + (st + p * e + q), none⟩)

def At.rel (φ : Phi) : At → Value → Prop
  | .bool _ b, v => v = .bool b
  | .int _ k n, v => v = .int k n
  | .str _ s, v => v = .string s
  | .ptr b o, v => prel φ (b, o) v
  | .prw _ b ver st e p q, v => vrel φ b ver v (prwR st e p q v)
  | .nil, v => v = .pointer none
  | .slc _ b ver st e off len, v => vrel φ b ver v (slcR st e off len v)
  | .vec b ver e, v => vrel φ b ver v (vecR e v)
  | .nils, v => v = .slice none 0 0
  | .fn f caps, v => ∃ cs : Array Value, v = .func (.func f) #[] cs ∧ All2 (prel φ) caps cs.toList
  | .nilfn, v => v = .nilFunc
  | .unk, v => v.oneCell' = true ∧ v.cells = #[v]

def LV.rel1 (φ : Phi) : LV → Value → Prop
  | .a x, v => x.rel φ v
  | .g l, v => ∃ cs : Array Value, v = .agg cs ∧ All2 (At.rel φ) l cs.toList
  | .t _, _ => False
  | .u, _ => True

def LV.rel (φ : Phi) : LV → Value → Prop
  | .t l, v => ∃ vs : Array Value, v = .tuple vs ∧ All2 (LV.rel1 φ) l vs.toList
  | x, v => x.rel1 φ v

theorem prel.mono {φ ψ : Phi} (h : φ.le ψ) {p u} (k : prel φ p u) : prel ψ p u := vrel.mono h k

theorem At.rel_mono {φ ψ : Phi} (h : φ.le ψ) {x : At} {v : Value} (k : x.rel φ v) : x.rel ψ v := by
  cases x <;> simp only [At.rel] at * <;> try first | exact k | exact vrel.mono h k | exact prel.mono h k
  obtain ⟨cs, e, f⟩ := k; exact ⟨cs, e, f.mono fun _ _ => prel.mono h⟩

theorem LV.rel1_mono {φ ψ : Phi} (h : φ.le ψ) {x : LV} {v : Value} (k : x.rel1 φ v) : x.rel1 ψ v := by
  cases x <;> simp only [LV.rel1] at *
  · exact At.rel_mono h k
  · obtain ⟨cs, e, f⟩ := k; exact ⟨cs, e, f.mono fun _ _ => At.rel_mono h⟩

theorem LV.rel_mono {φ ψ : Phi} (h : φ.le ψ) {x : LV} {v : Value} (k : x.rel φ v) : x.rel ψ v := by
  cases x with
  | a x => exact LV.rel1_mono (x := .a x) h k
  | g l => exact LV.rel1_mono (x := .g l) h k
  | t l => obtain ⟨vs, e, f⟩ := k; exact ⟨vs, e, f.mono fun _ _ => LV.rel1_mono h⟩
  | u => trivial

theorem At.rel_one {φ : Phi} {x : At} {v : Value} (h : x.rel φ v) : v.oneCell' = true ∧ v.cells = #[v] := by
  cases x <;> simp only [At.rel, prel] at h <;> first | exact h | exact h.1 | (subst h; exact ⟨rfl, rfl⟩) | (obtain ⟨cs, rfl, _⟩ := h; exact ⟨rfl, rfl⟩)

theorem At.rel_unk {φ : Phi} {x : At} {v : Value} (h : x.rel φ v) : At.rel φ .unk v := At.rel_one h

/-- The real value of what bears no address. -/
def At.real0 : At → Value
  | .bool _ b => .bool b
  | .int _ k n => .int k n
  | .str _ s => .string s
  | .nil => .pointer none
  | .nils => .slice none 0 0
  | .nilfn => .nilFunc
  | _ => undef

def At.free : At → Bool
  | .bool .. | .int .. | .str .. | .nil | .nils | .nilfn => true
  | _ => false

/-- Is it not known to the kernel? -/
def At.sym : At → Bool
  | .bool s _ | .int s _ _ | .str s _ => s
  | _ => false

def LV.real0 : LV → Value
  | .a x => x.real0
  | .g l => .agg (l.map At.real0).toArray
  | _ => undef

def LV.free : LV → Bool
  | .a x => x.free
  | .g l => l.all At.free
  | _ => false

def LV.sym : LV → Bool
  | .a x => x.sym
  | .g l => l.any At.sym
  | _ => false

theorem At.of_free {φ : Phi} {x : At} {v : Value} (hf : x.free = true) (h : x.rel φ v) : v = x.real0 := by
  cases x <;> simp_all [At.rel, At.free, At.real0]

theorem LV.of_free {φ : Phi} {x : LV} {v : Value} (hf : x.free = true) (h : x.rel φ v) : v = x.real0 := by
  cases x with
  | a x => exact At.of_free hf h
  | g l =>
    obtain ⟨cs, rfl, k⟩ := h
    simp only [LV.free] at hf
    have e : cs.toList = l.map At.real0 := by
      generalize cs.toList = m at k ⊢
      induction k with
      | nil => rfl
      | cons r _ ih =>
        simp only [List.all_cons, Bool.and_eq_true] at hf
        simp only [List.map_cons, ih hf.2, At.of_free hf.1 r]
    simp [LV.real0, ← e]
  | t l => simp [LV.free] at hf
  | u => simp [LV.free] at hf

/-- A real value without addresses as a local one. -/
def At.ofVal (s : Bool) : Value → Option At
  | .bool b => some (.bool s b)
  | .int k n => some (.int s k n)
  | .string x => some (.str s x)
  | .pointer none => some .nil
  | .slice none 0 0 => some .nils
  | .nilFunc => some .nilfn
  | .func (.func f) ⟨[]⟩ ⟨[]⟩ => some (.fn f [])
  | _ => none

def atsOf (s : Bool) : List Value → Option (List At)
  | [] => some []
  | v :: r => match At.ofVal s v, atsOf s r with
    | some x, some l => some (x :: l)
    | _, _ => none

def LV.ofVal (s : Bool) : Value → Option LV
  | .agg cs => match atsOf s cs.toList with
    | some l => some (.g l)
    | none => none
  | v => match At.ofVal s v with
    | some x => some (.a x)
    | none => none

theorem At.ofVal_rel {s : Bool} {v : Value} {x : At} (h : At.ofVal s v = some x) (φ : Phi) : x.rel φ v := by
  unfold At.ofVal at h
  split at h <;> simp at h <;> subst h <;> simp [At.rel]
  exact .nil

theorem atsOf_rel {s : Bool} (φ : Phi) : ∀ {l : List Value} {m : List At}, atsOf s l = some m → All2 (At.rel φ) m l
  | [], m, h => by simp only [atsOf, Option.some.injEq] at h; subst h; exact .nil
  | v :: r, m, h => by
    unfold atsOf at h
    split at h
    · rename_i x l h1 h2
      simp only [Option.some.injEq] at h; subst h
      exact .cons (At.ofVal_rel h1 φ) (atsOf_rel φ h2)
    · cases h

theorem LV.ofVal_rel {s : Bool} {v : Value} {x : LV} (h : LV.ofVal s v = some x) (φ : Phi) : x.rel φ v := by
  unfold LV.ofVal at h
  split at h
  · split at h
    · rename_i l h1
      simp only [Option.some.injEq] at h; subst h
      exact ⟨_, rfl, atsOf_rel φ h1⟩
    · cases h
  · split at h
    · rename_i x' h1
      simp only [Option.some.injEq] at h; subst h
      exact At.ofVal_rel h1 φ
    · cases h

/-- What a step that neither reads nor writes memory hands back, whatever the world. -/
def calm (P : Program) {α : Type} : Sem α → Option α
  | .pure a => some a
  | .program k => calm P (k P)
  | .mark _ k => calm P k
  | _ => none

theorem calm_run {P : Program} {α : Type} : ∀ (s : Sem α) {a : α}, calm P s = some a → ∀ w, s.run P w = .ok a w
  | .pure a, b, h, w => by simp [calm] at h; subst h; rfl
  | .program k, b, h, w => calm_run (k P) (by simpa [calm] using h) w
  | .mark m k, b, h, w => calm_run k (by simpa [calm] using h) w
  | .load .., b, h, w => by simp [calm] at h
  | .store .., b, h, w => by simp [calm] at h
  | .new .., b, h, w => by simp [calm] at h
  | .shape .., b, h, w => by simp [calm] at h
  | .freeze .., b, h, w => by simp [calm] at h
  | .frozen .., b, h, w => by simp [calm] at h
  | .getObj .., b, h, w => by simp [calm] at h
  | .setObj .., b, h, w => by simp [calm] at h
  | .choose .., b, h, w => by simp [calm] at h
  | .sys .., b, h, w => by simp [calm] at h
  | .halt .., b, h, w => by simp [calm] at h


/-! Finite maps, by lists. -/
def look {β : Type} : List (Nat × β) → Nat → Option β
  | [], _ => none
  | (k, v) :: r, n => match Nat.beq n k with
    | true => some v
    | false => look r n

/-- A list over what was there. -/
def over {β : Type} : List (Nat × β) → (Nat → Option β) → Nat → Option β
  | [], f, n => f n
  | (k, v) :: r, f, n => match Nat.beq n k with
    | true => some v
    | false => over r f n

def upd {β : Type} (f : Nat → Option β) (k : Nat) (v : β) : Nat → Option β := fun n => if n = k then some v else f n
theorem upd_same {β : Type} (f : Nat → Option β) (k : Nat) (v : β) : upd f k v k = some v := by simp [upd]
theorem upd_other {β : Type} (f : Nat → Option β) {k n : Nat} (v : β) (h : n ≠ k) : upd f k v n = f n := by simp [upd, h]

theorem over_nil {β : Type} (f : Nat → Option β) : over [] f = f := rfl
theorem over_cons {β : Type} (k : Nat) (v : β) (r : List (Nat × β)) (f : Nat → Option β) : over ((k, v) :: r) f = upd (over r f) k v := by
  funext n
  simp only [over, upd]
  cases hb : Nat.beq n k
  · have : n ≠ k := fun e => by subst e; simp at hb
    simp [this]
  · have : n = k := Nat.eq_of_beq_eq_true hb
    simp [this]
theorem over_append {β : Type} (l m : List (Nat × β)) (f : Nat → Option β) : over (l ++ m) f = over l (over m f) := by
  induction l with
  | nil => rfl
  | cons p r ih => obtain ⟨k, v⟩ := p; rw [List.cons_append, over_cons, over_cons, ih]

/-- The last one of a list counts. -/
def updL {β : Type} (f : Nat → Option β) : List (Nat × β) → Nat → Option β
  | [] => f
  | (k, v) :: r => updL (upd f k v) r

theorem over_of_updL {β : Type} : ∀ (l : List (Nat × β)) (d : List (Nat × β)) (f : Nat → Option β), over (l.foldl (fun d p => p :: d) d) f = updL (over d f) l
  | [], d, f => rfl
  | (k, v) :: r, d, f => by
    simp only [List.foldl_cons, updL]
    rw [over_of_updL r ((k, v) :: d) f, over_cons]

end Go.Proofs.Ytcdejlgophpdjaa.V
