/-
  A small local memory on which translated code is run by a function; what it finds holds of the real memory (first part: values, relations, quiet steps).
-/
import Derived.WalkKit
namespace Go.Proofs.Ythgjacfikicgnaa.K
open Go Go.RowKit

inductive All2 {α β : Type} (R : α → β → Prop) : List α → List β → Prop
  | nil : All2 R [] []
  | cons {x y xs ys} : R x y → All2 R xs ys → All2 R (x :: xs) (y :: ys)

namespace All2
variable {α β : Type} {R S : α → β → Prop}
theorem mono (h : ∀ x y, R x y → S x y) {l m} (a : All2 R l m) : All2 S l m := by
  induction a with
  | nil => exact .nil
  | cons r _ ih => exact .cons (h _ _ r) ih
theorem length {l m} (a : All2 R l m) : l.length = m.length := by
  induction a with
  | nil => rfl
  | cons _ _ ih => simp [ih]
theorem take {l m} (a : All2 R l m) (n : Nat) : All2 R (l.take n) (m.take n) := by
  induction a generalizing n with
  | nil => simp; exact .nil
  | cons r _ ih => cases n with
    | zero => simp; exact .nil
    | succ n => simp; exact .cons r (ih n)
theorem drop {l m} (a : All2 R l m) (n : Nat) : All2 R (l.drop n) (m.drop n) := by
  induction a generalizing n with
  | nil => simp; exact .nil
  | cons r t ih => cases n with
    | zero => simp; exact .cons r t
    | succ n => simp; exact ih n
theorem append {l m l' m'} (a : All2 R l m) (b : All2 R l' m') : All2 R (l ++ l') (m ++ m') := by
  induction a with
  | nil => exact b
  | cons r _ ih => exact .cons r ih
theorem get {l m} (a : All2 R l m) {i : Nat} {x : α} (h : l[i]? = some x) : ∃ y, m[i]? = some y ∧ R x y := by
  induction a generalizing i with
  | nil => simp at h
  | cons r _ ih => cases i with
    | zero => simp at h; subst h; exact ⟨_, by simp, r⟩
    | succ i => simp at h; obtain ⟨y, h1, h2⟩ := ih h; exact ⟨y, by simpa using h1, h2⟩
theorem of_mapM {f : β → Option α} (hf : ∀ y x, f y = some x → R x y) : ∀ {m : List β} {l : List α}, m.mapM f = some l → All2 R l m
  | [], l, h => by simp at h; subst h; exact .nil
  | y :: m, l, h => by
    rw [List.mapM_cons] at h
    simp only [bind, Option.bind_eq_some_iff, pure, Option.some.injEq] at h
    obtain ⟨x, hx, l', hl, rfl⟩ := h
    exact .cons (hf _ _ hx) (of_mapM hf hl)
end All2

/-- One cell's content: block numbers are the local memory's own. -/
inductive At where
  | bool (b : Bool)
  | int (k : IntKind) (n : Int)
  | str (s : ByteArray)
  | ptr (b off : Nat)
  | nil
  | slc (b off len cap : Nat)
  | nils
  | fn (f : Nat) (caps : List (Nat × Nat))
  | nilfn

/-- A value: a cell's content, a struct or an array by its cells, a tuple. -/
inductive LV where
  | a (x : At)
  | g (l : List At)
  | t (l : List LV)

abbrev Phi := Nat → Option Nat

def Phi.le (φ ψ : Phi) : Prop := ∀ b r, φ b = some r → ψ b = some r
theorem Phi.le_refl (φ : Phi) : φ.le φ := fun _ _ h => h
theorem Phi.le_trans {φ ψ χ : Phi} (h : φ.le ψ) (k : ψ.le χ) : φ.le χ := fun _ _ e => k _ _ (h _ _ e)

def prel (φ : Phi) (p : Nat × Nat) (u : Value) : Prop := ∃ r, φ p.1 = some r ∧ u = .pointer (some ⟨r, p.2, none⟩)

def At.rel (φ : Phi) : At → Value → Prop
  | .bool b, v => v = .bool b
  | .int k n, v => v = .int k n
  | .str s, v => v = .string s
  | .ptr b o, v => prel φ (b, o) v
  | .nil, v => v = .pointer none
  | .slc b o l c, v => ∃ r, φ b = some r ∧ v = .slice (some ⟨r, o, none⟩) l c
  | .nils, v => v = .slice none 0 0
  | .fn f caps, v => ∃ cs : Array Value, v = .func (.func f) #[] cs ∧ All2 (prel φ) caps cs.toList
  | .nilfn, v => v = .nilFunc

def LV.rel1 (φ : Phi) : LV → Value → Prop
  | .a x, v => x.rel φ v
  | .g l, v => ∃ cs : Array Value, v = .agg cs ∧ All2 (At.rel φ) l cs.toList
  | .t _, _ => False

def LV.rel (φ : Phi) : LV → Value → Prop
  | .t l, v => ∃ vs : Array Value, v = .tuple vs ∧ All2 (LV.rel1 φ) l vs.toList
  | x, v => x.rel1 φ v

theorem prel.mono {φ ψ : Phi} (h : φ.le ψ) {p u} (k : prel φ p u) : prel ψ p u := let ⟨r, e, f⟩ := k; ⟨r, h _ _ e, f⟩

theorem At.rel_mono {φ ψ : Phi} (h : φ.le ψ) {x : At} {v : Value} (k : x.rel φ v) : x.rel ψ v := by
  cases x <;> simp only [At.rel] at * <;> try exact k
  · exact k.mono h
  · obtain ⟨r, e, f⟩ := k; exact ⟨r, h _ _ e, f⟩
  · obtain ⟨cs, e, f⟩ := k; exact ⟨cs, e, f.mono fun _ _ => prel.mono h⟩

theorem LV.rel1_mono {φ ψ : Phi} (h : φ.le ψ) {x : LV} {v : Value} (k : x.rel1 φ v) : x.rel1 ψ v := by
  cases x <;> simp only [LV.rel1] at *
  · exact At.rel_mono h k
  · obtain ⟨cs, e, f⟩ := k; exact ⟨cs, e, f.mono fun _ _ => At.rel_mono h⟩

theorem LV.rel_mono {φ ψ : Phi} (h : φ.le ψ) {x : LV} {v : Value} (k : x.rel φ v) : x.rel ψ v := by
  cases x with
  | a x => exact LV.rel1_mono (x := .a x) h k
  | g l => exact LV.rel1_mono (x := .g l) h k
  | t l => obtain ⟨vs, e, f⟩ := k; exact ⟨vs, e, f.mono fun _ _ => LV.rel1_mono h⟩

/-- The real value of what bears no address. -/
def At.real0 : At → Value
  | .bool b => .bool b
  | .int k n => .int k n
  | .str s => .string s
  | .nil => .pointer none
  | .nils => .slice none 0 0
  | .nilfn => .nilFunc
  | _ => undef

def At.free : At → Bool
  | .ptr .. | .slc .. | .fn .. => false
  | _ => true

def LV.real0 : LV → Value
  | .a x => x.real0
  | .g l => .agg (l.map At.real0).toArray
  | .t _ => undef

def LV.free : LV → Bool
  | .a x => x.free
  | .g l => l.all At.free
  | .t _ => false

theorem At.of_free {φ : Phi} {x : At} {v : Value} (hf : x.free = true) (h : x.rel φ v) : v = x.real0 := by
  cases x <;> simp_all [At.rel, At.free, At.real0]

theorem LV.of_free {φ : Phi} {x : LV} {v : Value} (hf : x.free = true) (h : x.rel φ v) : v = x.real0 := by
  cases x with
  | a x => exact At.of_free hf h
  | g l =>
    obtain ⟨cs, rfl, k⟩ := h
    simp only [LV.free] at hf
    have e : cs.toList = l.map At.real0 := by
      generalize cs.toList = m at k ⊢
      induction k with
      | nil => rfl
      | cons r _ ih =>
        simp only [List.all_cons, Bool.and_eq_true] at hf
        simp only [List.map_cons, ih hf.2, At.of_free hf.1 r]
    simp [LV.real0, ← e]
  | t l => simp [LV.free] at hf

/-- A real value without addresses as a local one. -/
def At.ofVal : Value → Option At
  | .bool b => some (.bool b)
  | .int k n => some (.int k n)
  | .string s => some (.str s)
  | .pointer none => some .nil
  | .slice none 0 0 => some .nils
  | .nilFunc => some .nilfn
  | .func (.func f) ⟨[]⟩ ⟨[]⟩ => some (.fn f [])
  | _ => none

def LV.ofVal : Value → Option LV
  | .agg cs => (cs.toList.mapM At.ofVal).map .g
  | v => (At.ofVal v).map .a

theorem At.ofVal_rel {v : Value} {x : At} (h : At.ofVal v = some x) (φ : Phi) : x.rel φ v := by
  unfold At.ofVal at h
  split at h <;> simp at h <;> subst h <;> simp [At.rel]
  exact .nil

theorem LV.ofVal_rel {v : Value} {x : LV} (h : LV.ofVal v = some x) (φ : Phi) : x.rel φ v := by
  unfold LV.ofVal at h
  split at h
  · simp only [Option.map_eq_some_iff] at h
    obtain ⟨l, h1, rfl⟩ := h
    exact ⟨_, rfl, All2.of_mapM (fun _ _ hh => At.ofVal_rel hh φ) h1⟩
  · simp only [Option.map_eq_some_iff] at h
    obtain ⟨l, h1, rfl⟩ := h
    exact At.ofVal_rel h1 φ

/-- What a step that neither reads nor writes memory hands back, whatever the world. -/
def calm (P : Program) {α : Type} : Sem α → Option α
  | .pure a => some a
  | .program k => calm P (k P)
  | .mark _ k => calm P k
  | _ => none

theorem calm_run {P : Program} {α : Type} : ∀ (s : Sem α) {a : α}, calm P s = some a → ∀ w, s.run P w = .ok a w
  | .pure a, b, h, w => by simp [calm] at h; subst h; rfl
  | .program k, b, h, w => calm_run (k P) (by simpa [calm] using h) w
  | .mark m k, b, h, w => calm_run k (by simpa [calm] using h) w
  | .load .., b, h, w => by simp [calm] at h
  | .store .., b, h, w => by simp [calm] at h
  | .new .., b, h, w => by simp [calm] at h
  | .shape .., b, h, w => by simp [calm] at h
  | .freeze .., b, h, w => by simp [calm] at h
  | .frozen .., b, h, w => by simp [calm] at h
  | .getObj .., b, h, w => by simp [calm] at h
  | .setObj .., b, h, w => by simp [calm] at h
  | .choose .., b, h, w => by simp [calm] at h
  | .sys .., b, h, w => by simp [calm] at h
  | .halt .., b, h, w => by simp [calm] at h

end Go.Proofs.Ythgjacfikicgnaa.K
