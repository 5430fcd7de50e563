/-
  Code, run on the local memory: both ways at a bool that is not known, made one behind it.
-/
import Derived.LoopN
import Derived.Test.YtcdejlgophpdjaaQRasterTiles2
section
namespace Go.Proofs.Ytcdejlgophpdjaa.V
set_option linter.unusedVariables false
open Go Go.RowKit

inductive X where
  | n | e (id : Nat) | r

def X.real : X → Exit
  | .n => .normal
  | .e id => .exit id
  | .r => .ret

def xeq : X → X → Bool
  | .n, .n => true
  | .r, .r => true
  | .e i, .e j => Nat.beq i j
  | _, _ => false

theorem xeq_spec {x y : X} (h : xeq x y = true) : x = y := by
  cases x <;> cases y <;> simp only [xeq, Bool.false_eq_true] at h <;> try rfl
  rw [Nat.eq_of_beq_eq_true h]

/-- One way that code may end: how, when, what has been laid upon the state by then. -/
structure Alt where
  x : X
  s : Bool
  g : Bool
  d : Pre
  nx : Nat

abbrev Outs := Option (List Prop × List Alt)
abbrev Sum := Sig → Mem → Hds → Nat → Outs

def cAnd (s g s' g' : Bool) : Bool × Bool :=
  match s, g with
  | false, true => (s', g')
  | false, false => (false, false)
  | true, g => match s', g' with
    | false, true => (true, g)
    | false, false => (false, false)
    | true, g' => (true, g && g')

theorem cAnd_spec (s g s' g' : Bool) : (cAnd s g s' g').2 = (g && g') := by cases s <;> cases g <;> cases s' <;> cases g' <;> rfl

def cOr (s g s' g' : Bool) : Bool × Bool :=
  match s, g with
  | false, true => (false, true)
  | false, false => (s', g')
  | true, g => match s', g' with
    | false, true => (false, true)
    | false, false => (true, g)
    | true, g' => (true, g || g')

theorem cOr_spec (s g s' g' : Bool) : (cOr s g s' g').2 = (g || g') := by cases s <;> cases g <;> cases s' <;> cases g' <;> rfl

def Pre.nil : Pre := ⟨[], [], []⟩
/-- One upon the other. -/
def Pre.on (p q : Pre) : Pre := ⟨p.tm ++ q.tm, p.mem ++ q.mem, p.hs ++ q.hs⟩

def insA (lv : List Nat) (nx : Nat) (σ : Sig) (μ : Mem) (ρ : Hds) : List Alt → Alt → Option (List Alt)
  | [], b => some [b]
  | a :: r, b => match xeq a.x b.x with
    | false => match insA lv nx σ μ ρ r b with
      | some r' => some (a :: r')
      | none => none
    | true => match a.s, a.g with
      | false, true => some (a :: r)
      | false, false => some (b :: r)
      | true, c => match merge lv nx σ μ ρ c a.d b.d with
        | some m => some (⟨a.x, (cOr true c b.s b.g).1, (cOr true c b.s b.g).2, m, Nat.max a.nx b.nx⟩ :: r)
        | none => none

def insAll (lv : List Nat) (nx : Nat) (σ : Sig) (μ : Mem) (ρ : Hds) : List Alt → List Alt → Option (List Alt)
  | l, [] => some l
  | l, b :: r => match insA lv nx σ μ ρ l b with
    | some l' => insAll lv nx σ μ ρ l' r
    | none => none

def noN : List Alt → Bool
  | [] => true
  | a :: r => match a.x with
    | .n => false
    | _ => noN r

/-- The one that goes on, and the others. -/
def splitN : List Alt → Option (Option Alt × List Alt)
  | [] => some (none, [])
  | a :: r => match a.x with
    | .n => match noN r with
      | true => some (some a, r)
      | false => none
    | _ => match splitN r with
      | some (c, l) => some (c, a :: l)
      | none => none

/-- What follows one that goes on. -/
def behind (c : Alt) : List Alt → List Alt
  | [] => []
  | b :: r => ⟨b.x, (cAnd c.s c.g b.s b.g).1, (cAnd c.s c.g b.s b.g).2, b.d.on c.d, b.nx⟩ :: behind c r

def underO (s g : Bool) (l : List Prop) : List Prop :=
  match s, g with
  | false, true => l
  | false, false => []
  | true, g => under g true l

def takeX (x : X) : List Alt → Option (Alt × List Alt)
  | [] => none
  | b :: r => match xeq x b.x with
    | true => some (b, r)
    | false => match takeX x r with
      | some (c, l) => some (c, b :: l)
      | none => none

def whenN (q : Bool) : List Alt → List Alt
  | [] => []
  | b :: r => ⟨b.x, (cAnd true (!q) b.s b.g).1, (cAnd true (!q) b.s b.g).2, b.d, b.nx⟩ :: whenN q r

def both (s g s' g' q : Bool) : Bool × Bool :=
  match s, g, s', g' with
  | false, true, false, true => (false, true)
  | _, _, _, _ => (true, bif q then g else g')

theorem both_spec (s g s' g' q : Bool) : (both s g s' g' q).2 = (bif q then g else g') := by cases s <;> cases g <;> cases s' <;> cases g' <;> cases q <;> rfl

/-- Two ways, by a bool. -/
def joinC (lv : List Nat) (nx : Nat) (σ : Sig) (μ : Mem) (ρ : Hds) (q : Bool) : List Alt → List Alt → Option (List Alt)
  | [], bs => some (whenN q bs)
  | a :: r, bs => match takeX a.x bs with
    | none => match joinC lv nx σ μ ρ q r bs with
      | some l => some (⟨a.x, (cAnd true q a.s a.g).1, (cAnd true q a.s a.g).2, a.d, a.nx⟩ :: l)
      | none => none
    | some (b, bs') => match merge lv nx σ μ ρ q a.d b.d, joinC lv nx σ μ ρ q r bs' with
      | some m, some l => some (⟨a.x, (both a.s a.g b.s b.g q).1, (both a.s a.g b.s b.g q).2, m, Nat.max a.nx b.nx⟩ :: l)
      | _, _ => none

/-- The block's own exits go on. -/
def out1 (id : Nat) (a : Alt) : Alt :=
  match a.x with
  | .e i => match Nat.beq i id with
    | true => ⟨.n, a.s, a.g, a.d, a.nx⟩
    | false => a
  | _ => a

def outOf (id : Nat) : List Alt → List Alt
  | [] => []
  | a :: r => out1 id a :: outOf id r

/-- A bool that code asks for. -/
def condOf (lv : List Nat) (σ : Sig) (q : Operand) : Option (Bool × Bool) :=
  match lev (filt lv σ) q with
  | some (.a (.bool s b)) => some (s, b)
  | _ => none

/-- What is known of a place, if it fits. -/
def trySum : List (Nat × Sum) → Nat → Sig → Mem → Hds → Nat → Outs
  | [], _, _, _, _, _ => none
  | (q, f) :: r, p, σ, μ, ρ, nx => match Nat.beq q p with
    | true => match f σ μ ρ nx with
      | some x => some x
      | none => trySum r p σ μ ρ nx
    | false => trySum r p σ μ ρ nx

theorem trySum_mem : ∀ {LT : List (Nat × Sum)} {p : Nat} {σ : Sig} {μ : Mem} {ρ : Hds} {nx : Nat} {x : List Prop × List Alt}, trySum LT p σ μ ρ nx = some x → ∃ f, (p, f) ∈ LT ∧ f σ μ ρ nx = some x
  | (q, f) :: r, p, σ, μ, ρ, nx, x, h => by
    have rest : trySum r p σ μ ρ nx = some x → ∃ g, (p, g) ∈ (q, f) :: r ∧ g σ μ ρ nx = some x := fun h => by
      obtain ⟨g, h1, h2⟩ := trySum_mem h
      exact ⟨g, List.mem_cons_of_mem _ h1, h2⟩
    unfold trySum at h
    split at h
    · rename_i hb
      have := Nat.eq_of_beq_eq_true hb
      subst this
      split at h
      · rename_i y hy
        simp only [Option.some.injEq] at h; subst h
        exact ⟨f, by simp, hy⟩
      · exact rest h
    · exact rest h

/-- Code on the local memory; 'true': a loop's rounds. LT: what is known of loops, by their place in the code. -/
def ev (P : Program) (T : Tab) (n : Nat) (lv : List Nat) (LT : List (Nat × Sum)) : Nat → Bool → Code → Nat → Sig → Mem → Hds → Nat → Outs
  | 0, _, _, _, _, _, _, _ => none
  | k + 1, true, c, p, σ, μ, ρ, nx => match ev P T n lv LT k false c p σ μ ρ nx with
    | none => none
    | some (obs, alts) => match splitN alts with
      | none => none
      | some (none, l) => some (obs, l)
      | some (some a, l) => match ev P T n lv LT k true c p (over a.d.tm σ) (over a.d.mem μ) (over a.d.hs ρ) a.nx with
        | none => none
        | some (obs', bs) => match insAll lv nx σ μ ρ l (behind a bs) with
          | some r => some (obs ++ underO a.s a.g obs', r)
          | none => none
  | k + 1, false, c, p, σ, μ, ρ, nx => match c with
    | .skip => some ([], [⟨.n, false, true, .nil, nx⟩])
    | .region _ ops draw => match levR P T n lv nx σ μ ρ ops draw ops.toList 0 nx [] [] [] [] with
      | some (obs, d) => some (obs, [⟨.n, false, true, d, nx + 16 * ops.size⟩])
      | none => none
    | .seq a b => match ev P T n lv LT k false a (2 * p) σ μ ρ nx with
      | none => none
      | some (obs, alts) => match splitN alts with
        | none => none
        | some (none, l) => some (obs, l)
        | some (some c, l) => match ev P T n lv LT k false b (2 * p + 1) (over c.d.tm σ) (over c.d.mem μ) (over c.d.hs ρ) c.nx with
          | none => none
          | some (obs', bs) => match insAll lv nx σ μ ρ l (behind c bs) with
            | some r => some (obs ++ underO c.s c.g obs', r)
            | none => none
    | .cond q a b => match condOf lv σ q with
      | some (false, true) => ev P T n lv LT k false a (2 * p) σ μ ρ nx
      | some (false, false) => ev P T n lv LT k false b (2 * p + 1) σ μ ρ nx
      | some (true, g) => match decAt T p with
        | some true => match ev P T n lv LT k false a (2 * p) σ μ ρ nx with
          | some (o1, l1) => some ((g = true) :: o1, l1)
          | none => none
        | some false => match ev P T n lv LT k false b (2 * p + 1) σ μ ρ nx with
          | some (o2, l2) => some ((g = false) :: o2, l2)
          | none => none
        | none => match ev P T n lv LT k false a (2 * p) σ μ ρ nx, ev P T n lv LT k false b (2 * p + 1) σ μ ρ nx with
          | some (o1, l1), some (o2, l2) => match joinC lv nx σ μ ρ g l1 l2 with
            | some l => some (under g true o1 ++ under g false o2, l)
            | none => none
          | _, _ => none
      | none => none
    | .block id a => match trySum LT p σ μ ρ nx with
      | some x => some x
      | none => match ev P T n lv LT k false a (2 * p) σ μ ρ nx with
        | some (obs, alts) => match insAll lv nx σ μ ρ [] (outOf id alts) with
          | some l => some (obs, l)
          | none => none
        | none => none
    | .loop a => ev P T n lv LT k true a (2 * p) σ μ ρ nx
    | .exit id => some ([], [⟨.e id, false, true, .nil, nx⟩])
    | .ret => some ([], [⟨.r, false, true, .nil, nx⟩])
    | _ => none

section
variable {P : Program} {w0 : World} {may : Nat → Prop} {T : Tab} {n : Nat} {lv : List Nat}

/-- This alternative is the one that came about. -/
def On (n : Nat) (lv : List Nat) (w0 : World) (may : Nat → Prop) (φ : Phi) (σ : Sig) (μ : Mem) (ρ : Hds) (x : X) (a' : Act) (w' : World) (α : Alt) : Prop :=
  α.x = x ∧ α.g = true ∧ ∃ ψ, φ.le ψ ∧ SR n lv w0 may ψ (over α.d.tm σ) (over α.d.mem μ) (over α.d.hs ρ) α.nx a' w'

def Good (n : Nat) (lv : List Nat) (w0 : World) (may : Nat → Prop) (φ : Phi) (σ : Sig) (μ : Mem) (ρ : Hds) (x : X) (a' : Act) (w' : World) (l : List Alt) : Prop :=
  (∃ α ∈ l, On n lv w0 may φ σ μ ρ x a' w' α) ∧ ∀ α ∈ l, On n lv w0 may φ σ μ ρ x a' w' α ∨ α.g = false

/-- What is known of code: from a state, to what it may end in. -/
def Sound (P : Program) (n : Nat) (lv : List Nat) (c : Code) (σ : Sig) (μ : Mem) (ρ : Hds) (nx : Nat) (obs : List Prop) (alts : List Alt) : Prop :=
  Alls obs → ∀ (w0 : World) (may : Nat → Prop) (φ : Phi) (a : Act) (w : World), SR n lv w0 may φ σ μ ρ nx a w → ∀ (Q : Exit → Act → World → Prop), (∀ x a' w', Good n lv w0 may φ σ μ ρ x a' w' alts → Q x.real a' w') → c.wp P Q a w

def SumOK (P : Program) (n : Nat) (lv : List Nat) (c : Code) (f : Sum) : Prop := ∀ σ μ ρ nx obs alts, f σ μ ρ nx = some (obs, alts) → Sound P n lv c σ μ ρ nx obs alts

/-- The loops' places in code. -/
def LOK (P : Program) (n : Nat) (lv : List Nat) (LT : List (Nat × Sum)) : Code → Nat → Prop
  | .seq a b, p => LOK P n lv LT a (2 * p) ∧ LOK P n lv LT b (2 * p + 1)
  | .cond _ a b, p => LOK P n lv LT a (2 * p) ∧ LOK P n lv LT b (2 * p + 1)
  | .block id a, p => (∀ f, (p, f) ∈ LT → SumOK P n lv (.block id a) f) ∧ LOK P n lv LT a (2 * p)
  | .loop a, p => LOK P n lv LT a (2 * p)
  | _, _ => True

theorem LOK_nil : ∀ (c : Code) (p : Nat), LOK P n lv [] c p
  | .seq a b, p => ⟨LOK_nil a _, LOK_nil b _⟩
  | .cond _ a b, p => ⟨LOK_nil a _, LOK_nil b _⟩
  | .block id a, p => ⟨fun f h => (List.not_mem_nil h).elim, LOK_nil a _⟩
  | .loop a, p => LOK_nil a _
  | .skip, _ => trivial
  | .region .., _ => trivial
  | .rangeFunc .., _ => trivial
  | .exit _, _ => trivial
  | .scope _, _ => trivial
  | .label _, _ => trivial
  | .goto _, _ => trivial
  | .ret, _ => trivial
  | .refuse _, _ => trivial

theorem SR.fresh {φ : Phi} {σ : Sig} {μ : Mem} {ρ : Hds} {nx : Nat} {a : Act} {w : World} (hs : SR n lv w0 may φ σ μ ρ nx a w) : (∀ b, nx ≤ b → ρ b = none) ∧ (∀ k x, nx ≤ k / 65536 → μ k = some x → x = .unk) := by
  refine ⟨fun b hb => ?_, fun k x hk hx => cell_none hs.mr hx (hs.mr.dom _ hk)⟩
  cases e : ρ b with
  | none => rfl
  | some g =>
    obtain ⟨i, hi, _⟩ := hs.mr.hdr b g e
    rw [hs.mr.dom b hb] at hi; cases hi

theorem SR.more {φ : Phi} {σ : Sig} {μ : Mem} {ρ : Hds} {nx nx' : Nat} {a : Act} {w : World} (hs : SR n lv w0 may φ σ μ ρ nx a w) (h : nx ≤ nx') : SR n lv w0 may φ σ μ ρ nx' a w :=
  ⟨hs.tr, hs.sz, hs.df, hs.mr.drop fun _ hb => Nat.le_trans h hb⟩

section
variable {φ : Phi} {σ : Sig} {μ : Mem} {ρ : Hds} {nx : Nat} {x : X} {a' : Act} {w' : World}
variable (hf1 : ∀ b, nx ≤ b → ρ b = none) (hf2 : ∀ k y, nx ≤ k / 65536 → μ k = some y → y = .unk)
include hf1 hf2

theorem merge_on {c : Bool} {p q m : Pre} {k k' : Nat} (hm : merge lv nx σ μ ρ c p q = some m) {ψ : Phi} (hl : φ.le ψ) (hs : SR n lv w0 may ψ (over (bif c then p else q).tm σ) (over (bif c then p else q).mem μ) (over (bif c then p else q).hs ρ) (bif c then k else k') a' w') :
    ∃ χ, φ.le χ ∧ SR n lv w0 may χ (over m.tm σ) (over m.mem μ) (over m.hs ρ) (Nat.max k k') a' w' := by
  obtain ⟨χ, h1, h2⟩ := merge_sr hm hf1 hf2 (hs.more (nx' := Nat.max k k') (by cases c <;> simp [Nat.le_max_left, Nat.le_max_right]))
  exact ⟨χ, Phi.le_trans hl h1, h2⟩

theorem insA_on : ∀ {l : List Alt} {b : Alt} {r : List Alt}, insA lv nx σ μ ρ l b = some r → (∀ α ∈ l, On n lv w0 may φ σ μ ρ x a' w' α ∨ α.g = false) → (On n lv w0 may φ σ μ ρ x a' w' b ∨ b.g = false) →
    (∀ α ∈ r, On n lv w0 may φ σ μ ρ x a' w' α ∨ α.g = false) ∧ (((∃ α ∈ l, On n lv w0 may φ σ μ ρ x a' w' α) ∨ On n lv w0 may φ σ μ ρ x a' w' b) → ∃ α ∈ r, On n lv w0 may φ σ μ ρ x a' w' α)
  | [], b, r, h, _, hb => by
    simp only [insA, Option.some.injEq] at h; subst h
    refine ⟨fun α hα => by simp at hα; subst hα; exact hb, fun hon => ⟨b, by simp, ?_⟩⟩
    rcases hon with ⟨α, hα, _⟩ | hon
    · cases hα
    · exact hon
  | a :: l, b, r, h, hl, hb => by
    have ha := hl a (by simp)
    have hl' : ∀ α ∈ l, On n lv w0 may φ σ μ ρ x a' w' α ∨ α.g = false := fun α hα => hl α (by simp [hα])
    unfold insA at h
    split at h
    · split at h
      · rename_i r' hr
        simp only [Option.some.injEq] at h; subst h
        obtain ⟨g1, g2⟩ := insA_on hr hl' hb
        refine ⟨fun α hα => ?_, fun hon => ?_⟩
        · rcases List.mem_cons.1 hα with rfl | hα
          · exact ha
          · exact g1 α hα
        · rcases hon with ⟨α, hα, hon⟩ | hon
          · rcases List.mem_cons.1 hα with rfl | hα
            · exact ⟨_, by simp, hon⟩
            · obtain ⟨β, hβ, q⟩ := g2 (.inl ⟨α, hα, hon⟩); exact ⟨β, by simp [hβ], q⟩
          · obtain ⟨β, hβ, q⟩ := g2 (.inr hon); exact ⟨β, by simp [hβ], q⟩
      · cases h
    · rename_i hx
      have hx := xeq_spec hx
      split at h
      · rename_i hs1 hg1
        simp only [Option.some.injEq] at h; subst h
        refine ⟨hl, fun hon => ?_⟩
        rcases hon with hon | hon
        · exact hon
        · rcases ha with ha | ha
          · exact ⟨a, by simp, ha⟩
          · rw [hg1] at ha; cases ha
      · rename_i hs1 hg1
        simp only [Option.some.injEq] at h; subst h
        refine ⟨fun α hα => ?_, fun hon => ?_⟩
        · rcases List.mem_cons.1 hα with rfl | hα
          · exact hb
          · exact hl' α hα
        · rcases hon with ⟨α, hα, hon⟩ | hon
          · rcases List.mem_cons.1 hα with rfl | hα
            · have := hon.2.1; rw [hg1] at this; cases this
            · exact ⟨α, by simp [hα], hon⟩
          · exact ⟨b, by simp, hon⟩
      · rename_i hs1
        split at h
        · rename_i m hm
          simp only [Option.some.injEq] at h; subst h
          have key : (On n lv w0 may φ σ μ ρ x a' w' a ∨ On n lv w0 may φ σ μ ρ x a' w' b) → On n lv w0 may φ σ μ ρ x a' w' ⟨a.x, (cOr true a.g b.s b.g).1, (cOr true a.g b.s b.g).2, m, Nat.max a.nx b.nx⟩ := by
            intro hon
            cases hg : a.g with
            | true =>
              rw [hg] at hm
              rcases ha with ha | ha
              · obtain ⟨e1, e2, ψ, e3, e4⟩ := ha
                exact ⟨e1, by simp only [cOr_spec, Bool.true_or], merge_on hf1 hf2 hm e3 e4⟩
              · rw [hg] at ha; cases ha
            | false =>
              rw [hg] at hm
              have hon : On n lv w0 may φ σ μ ρ x a' w' b := by
                rcases hon with hon | hon
                · have := hon.2.1; rw [hg] at this; cases this
                · exact hon
              obtain ⟨e1, e2, ψ, e3, e4⟩ := hon
              exact ⟨hx.trans e1, by simp only [cOr_spec, e2, Bool.or_true], merge_on hf1 hf2 hm e3 e4⟩
          refine ⟨fun α hα => ?_, fun hon => ?_⟩
          · rcases List.mem_cons.1 hα with rfl | hα
            · rcases ha with ha | ha
              · exact .inl (key (.inl ha))
              · rcases hb with hb | hb
                · exact .inl (key (.inr hb))
                · right; simp only [cOr_spec, ha, hb, Bool.or_false]
            · exact hl' α hα
          · rcases hon with ⟨α, hα, hon⟩ | hon
            · rcases List.mem_cons.1 hα with rfl | hα
              · exact ⟨_, List.mem_cons_self, key (.inl hon)⟩
              · exact ⟨α, by simp [hα], hon⟩
            · exact ⟨_, List.mem_cons_self, key (.inr hon)⟩
        · cases h

theorem insAll_on : ∀ {bs : List Alt} {l r : List Alt}, insAll lv nx σ μ ρ l bs = some r → (∀ α ∈ l, On n lv w0 may φ σ μ ρ x a' w' α ∨ α.g = false) → (∀ α ∈ bs, On n lv w0 may φ σ μ ρ x a' w' α ∨ α.g = false) →
    (∀ α ∈ r, On n lv w0 may φ σ μ ρ x a' w' α ∨ α.g = false) ∧ (((∃ α ∈ l, On n lv w0 may φ σ μ ρ x a' w' α) ∨ ∃ α ∈ bs, On n lv w0 may φ σ μ ρ x a' w' α) → ∃ α ∈ r, On n lv w0 may φ σ μ ρ x a' w' α)
  | [], l, r, h, hl, _ => by
    simp only [insAll, Option.some.injEq] at h; subst h
    refine ⟨hl, fun hon => ?_⟩
    rcases hon with hon | ⟨α, hα, _⟩
    · exact hon
    · cases hα
  | b :: bs, l, r, h, hl, hb => by
    unfold insAll at h
    split at h
    · rename_i l' hl'
      obtain ⟨g1, g2⟩ := insA_on hf1 hf2 hl' hl (hb b (by simp))
      obtain ⟨k1, k2⟩ := insAll_on h g1 (fun α hα => hb α (by simp [hα]))
      refine ⟨k1, fun hon => k2 ?_⟩
      rcases hon with hon | ⟨α, hα, hon⟩
      · exact .inl (g2 (.inl hon))
      · rcases List.mem_cons.1 hα with rfl | hα
        · exact .inl (g2 (.inr hon))
        · exact .inr ⟨α, hα, hon⟩
    · cases h

omit hf1 hf2 in
theorem takeX_spec {y : X} : ∀ {bs : List Alt} {b : Alt} {r : List Alt}, takeX y bs = some (b, r) → b.x = y ∧ (∀ α, α ∈ bs ↔ α = b ∨ α ∈ r)
  | [], b, r, h => by simp [takeX] at h
  | c :: bs, b, r, h => by
    unfold takeX at h
    split at h
    · rename_i hx
      simp only [Option.some.injEq, Prod.mk.injEq] at h
      obtain ⟨rfl, rfl⟩ := h
      exact ⟨(xeq_spec hx).symm, fun α => by simp⟩
    · split at h
      · rename_i b' r' hr
        simp only [Option.some.injEq, Prod.mk.injEq] at h
        obtain ⟨rfl, rfl⟩ := h
        obtain ⟨h1, h2⟩ := takeX_spec hr
        exact ⟨h1, fun α => by simp only [List.mem_cons, h2]; exact ⟨fun h => by rcases h with h | h | h <;> simp [h], fun h => by rcases h with h | h | h <;> simp [h]⟩⟩
      · cases h

omit hf1 hf2 in
theorem whenN_false {q : Bool} (hq : q = true) : ∀ {bs : List Alt} {α : Alt}, α ∈ whenN q bs → α.g = false
  | [], α, h => by cases h
  | b :: bs, α, h => by
    unfold whenN at h
    rcases List.mem_cons.1 h with rfl | h
    · simp only [cAnd_spec, hq, Bool.not_true, Bool.false_and]
    · exact whenN_false hq h

omit hf1 hf2 in
theorem whenN_on {q : Bool} (hq : q = false) : ∀ {bs : List Alt}, (∀ α ∈ bs, On n lv w0 may φ σ μ ρ x a' w' α ∨ α.g = false) → (∀ α ∈ whenN q bs, On n lv w0 may φ σ μ ρ x a' w' α ∨ α.g = false) ∧ ((∃ α ∈ bs, On n lv w0 may φ σ μ ρ x a' w' α) → ∃ α ∈ whenN q bs, On n lv w0 may φ σ μ ρ x a' w' α)
  | [], h => ⟨(fun α hα => by cases hα), (fun ⟨α, hα, _⟩ => by cases hα)⟩
  | b :: bs, h => by
    obtain ⟨g1, g2⟩ := whenN_on hq (bs := bs) fun α hα => h α (by simp [hα])
    have key : On n lv w0 may φ σ μ ρ x a' w' b → On n lv w0 may φ σ μ ρ x a' w' ⟨b.x, (cAnd true (!q) b.s b.g).1, (cAnd true (!q) b.s b.g).2, b.d, b.nx⟩ := fun hb => ⟨hb.1, by simp only [cAnd_spec, hq, hb.2.1]; rfl, hb.2.2⟩
    refine ⟨fun α hα => ?_, fun ⟨α, hα, hon⟩ => ?_⟩
    · unfold whenN at hα
      rcases List.mem_cons.1 hα with rfl | hα
      · rcases h b (by simp) with hb | hb
        · exact .inl (key hb)
        · right; simp only [cAnd_spec, hb, Bool.and_false]
      · exact g1 α hα
    · rcases List.mem_cons.1 hα with rfl | hα
      · exact ⟨_, List.mem_cons_self, key hon⟩
      · obtain ⟨β, hβ, q⟩ := g2 ⟨α, hα, hon⟩; exact ⟨β, List.mem_cons_of_mem _ hβ, q⟩

theorem joinC_t : ∀ {l bs r : List Alt}, joinC lv nx σ μ ρ true l bs = some r → (∀ α ∈ l, On n lv w0 may φ σ μ ρ x a' w' α ∨ α.g = false) →
    (∀ α ∈ r, On n lv w0 may φ σ μ ρ x a' w' α ∨ α.g = false) ∧ ((∃ α ∈ l, On n lv w0 may φ σ μ ρ x a' w' α) → ∃ α ∈ r, On n lv w0 may φ σ μ ρ x a' w' α)
  | [], bs, r, h, _ => by
    simp only [joinC, Option.some.injEq] at h; subst h
    exact ⟨fun α hα => .inr (whenN_false rfl hα), fun ⟨α, hα, _⟩ => by cases hα⟩
  | a :: l, bs, r, h, hl => by
    have ha := hl a (by simp)
    have hl' : ∀ α ∈ l, On n lv w0 may φ σ μ ρ x a' w' α ∨ α.g = false := fun α hα => hl α (by simp [hα])
    unfold joinC at h
    have fin : ∀ {h0 : Alt} {r' : List Alt}, (On n lv w0 may φ σ μ ρ x a' w' a → On n lv w0 may φ σ μ ρ x a' w' h0) → (a.g = false → h0.g = false) →
        ((∀ α ∈ r', On n lv w0 may φ σ μ ρ x a' w' α ∨ α.g = false) ∧ ((∃ α ∈ l, On n lv w0 may φ σ μ ρ x a' w' α) → ∃ α ∈ r', On n lv w0 may φ σ μ ρ x a' w' α)) →
        (∀ α ∈ h0 :: r', On n lv w0 may φ σ μ ρ x a' w' α ∨ α.g = false) ∧ ((∃ α ∈ a :: l, On n lv w0 may φ σ μ ρ x a' w' α) → ∃ α ∈ h0 :: r', On n lv w0 may φ σ μ ρ x a' w' α) := by
      intro h0 r' k1 k2 ⟨g1, g2⟩
      refine ⟨fun α hα => ?_, fun ⟨α, hα, hon⟩ => ?_⟩
      · rcases List.mem_cons.1 hα with rfl | hα
        · exact ha.imp k1 k2
        · exact g1 α hα
      · rcases List.mem_cons.1 hα with rfl | hα
        · exact ⟨_, List.mem_cons_self, k1 hon⟩
        · obtain ⟨β, hβ, q⟩ := g2 ⟨α, hα, hon⟩; exact ⟨β, List.mem_cons_of_mem _ hβ, q⟩
    split at h
    · split at h
      · rename_i r' hr
        simp only [Option.some.injEq] at h; subst h
        refine fin (fun hon => ⟨hon.1, by simp only [cAnd_spec, hon.2.1]; rfl, hon.2.2⟩) (fun e => by simp only [cAnd_spec, e]; rfl) (joinC_t hr hl')
      · cases h
    · rename_i b bs' ht
      split at h
      · rename_i m r' hm hr
        simp only [Option.some.injEq] at h; subst h
        refine fin (fun hon => ?_) (fun e => by simp only [both_spec, e]; rfl) (joinC_t hr hl')
        obtain ⟨e1, e2, ψ, e3, e4⟩ := hon
        exact ⟨e1, by simp only [both_spec, e2]; rfl, merge_on hf1 hf2 hm e3 e4⟩
      · cases h

theorem joinC_f : ∀ {l bs r : List Alt}, joinC lv nx σ μ ρ false l bs = some r → (∀ α ∈ bs, On n lv w0 may φ σ μ ρ x a' w' α ∨ α.g = false) →
    (∀ α ∈ r, On n lv w0 may φ σ μ ρ x a' w' α ∨ α.g = false) ∧ ((∃ α ∈ bs, On n lv w0 may φ σ μ ρ x a' w' α) → ∃ α ∈ r, On n lv w0 may φ σ μ ρ x a' w' α)
  | [], bs, r, h, hb => by
    simp only [joinC, Option.some.injEq] at h; subst h
    exact whenN_on rfl hb
  | a :: l, bs, r, h, hb => by
    unfold joinC at h
    split at h
    · split at h
      · rename_i r' hr
        simp only [Option.some.injEq] at h; subst h
        obtain ⟨g1, g2⟩ := joinC_f hr hb
        refine ⟨fun α hα => ?_, fun hon => ?_⟩
        · rcases List.mem_cons.1 hα with rfl | hα
          · right; simp only [cAnd_spec, Bool.false_and]
          · exact g1 α hα
        · obtain ⟨β, hβ, q⟩ := g2 hon; exact ⟨β, List.mem_cons_of_mem _ hβ, q⟩
      · cases h
    · rename_i b bs' ht
      split at h
      · rename_i m r' hm hr
        simp only [Option.some.injEq] at h; subst h
        obtain ⟨t1, t2⟩ := takeX_spec ht
        obtain ⟨g1, g2⟩ := joinC_f hr (fun α hα => hb α ((t2 α).2 (.inr hα)))
        have key : On n lv w0 may φ σ μ ρ x a' w' b → On n lv w0 may φ σ μ ρ x a' w' ⟨a.x, (both a.s a.g b.s b.g false).1, (both a.s a.g b.s b.g false).2, m, Nat.max a.nx b.nx⟩ := by
          intro hon
          obtain ⟨e1, e2, ψ, e3, e4⟩ := hon
          exact ⟨t1.symm.trans e1, by simp only [both_spec, e2]; rfl, merge_on hf1 hf2 hm e3 e4⟩
        refine ⟨fun α hα => ?_, fun ⟨α, hα, hon⟩ => ?_⟩
        · rcases List.mem_cons.1 hα with rfl | hα
          · rcases hb b ((t2 b).2 (.inl rfl)) with hb' | hb'
            · exact .inl (key hb')
            · right; simp only [both_spec, hb']; rfl
          · exact g1 α hα
        · rcases (t2 α).1 hα with rfl | hα
          · exact ⟨_, List.mem_cons_self, key hon⟩
          · obtain ⟨β, hβ, q⟩ := g2 ⟨α, hα, hon⟩; exact ⟨β, List.mem_cons_of_mem _ hβ, q⟩
      · cases h

end
end
end Go.Proofs.Ytcdejlgophpdjaa.V
end

section
namespace Go.Proofs.Ytcdejlgophpdjaa.V
open Go Go.RowKit

section
variable {P : Program} {T : Tab} {n : Nat} {lv : List Nat} {LT : List (Nat × Sum)}

theorem noN_spec : ∀ {l : List Alt}, noN l = true → ∀ α ∈ l, α.x ≠ .n
  | [], _, α, h => by cases h
  | a :: r, h, α, hα => by
    unfold noN at h
    split at h
    · cases h
    · rename_i hx
      rcases List.mem_cons.1 hα with rfl | hα
      · exact hx
      · exact noN_spec h α hα

theorem splitN_spec : ∀ {l : List Alt} {c : Option Alt} {r : List Alt}, splitN l = some (c, r) → (∀ α ∈ r, α.x ≠ .n) ∧ (∀ a, c = some a → a.x = .n) ∧ (∀ α, α ∈ l ↔ c = some α ∨ α ∈ r)
  | [], c, r, h => by
    simp only [splitN, Option.some.injEq, Prod.mk.injEq] at h
    obtain ⟨rfl, rfl⟩ := h
    exact ⟨(fun α h => by cases h), (fun a h => by cases h), fun α => by simp⟩
  | a :: l, c, r, h => by
    unfold splitN at h
    split at h
    · rename_i hx
      split at h
      · rename_i hn
        simp only [Option.some.injEq, Prod.mk.injEq] at h
        obtain ⟨rfl, rfl⟩ := h
        exact ⟨noN_spec hn, fun b hb => by simp only [Option.some.injEq] at hb; subst hb; exact hx, fun α => by simp only [List.mem_cons, Option.some.injEq]; exact ⟨fun h => by rcases h with h | h <;> simp [h], fun h => by rcases h with h | h <;> simp [h]⟩⟩
      · cases h
    · rename_i hx
      split at h
      · rename_i c' l' hs
        simp only [Option.some.injEq, Prod.mk.injEq] at h
        obtain ⟨rfl, rfl⟩ := h
        obtain ⟨g1, g2, g3⟩ := splitN_spec hs
        refine ⟨fun α hα => ?_, g2, fun α => ?_⟩
        · rcases List.mem_cons.1 hα with rfl | hα
          · exact hx
          · exact g1 α hα
        · simp only [List.mem_cons, g3]
          exact ⟨fun h => by rcases h with h | h | h <;> simp [h], fun h => by rcases h with h | h | h <;> simp [h]⟩
      · cases h

theorem mem_behind {c α : Alt} : ∀ {l : List Alt}, α ∈ behind c l ↔ ∃ b ∈ l, α = ⟨b.x, (cAnd c.s c.g b.s b.g).1, (cAnd c.s c.g b.s b.g).2, b.d.on c.d, b.nx⟩
  | [] => by simp [behind]
  | b :: r => by simp only [behind, List.mem_cons, mem_behind (l := r), exists_eq_or_imp]

theorem underO_spec {s g : Bool} {l : List Prop} (h : Alls (underO s g l)) (hg : g = true) : Alls l := by
  unfold underO at h
  split at h
  · exact h
  · cases hg
  · subst hg; exact under_spec h

theorem on_over {σ : Sig} {μ : Mem} {ρ : Hds} (p q : Pre) : over (p.on q).tm σ = over p.tm (over q.tm σ) ∧ over (p.on q).mem μ = over p.mem (over q.mem μ) ∧ over (p.on q).hs ρ = over p.hs (over q.hs ρ) :=
  ⟨over_append _ _ _, over_append _ _ _, over_append _ _ _⟩

/-- One thing done behind another. -/
theorem seq_good {w0 : World} {may : Nat → Prop} {φ ψ : Phi} {σ : Sig} {μ : Mem} {ρ : Hds} {nx : Nat} {x : X} {a' : Act} {w' : World} {l bs r : List Alt} {c : Alt} (hf1 : ∀ b, nx ≤ b → ρ b = none) (hf2 : ∀ k y, nx ≤ k / 65536 → μ k = some y → y = .unk)
    (h : insAll lv nx σ μ ρ l (behind c bs) = some r) (hl : ∀ α ∈ l, α.g = false) (hc : c.g = true) (hle : φ.le ψ) (hg : Good n lv w0 may ψ (over c.d.tm σ) (over c.d.mem μ) (over c.d.hs ρ) x a' w' bs) : Good n lv w0 may φ σ μ ρ x a' w' r := by
  have key : ∀ b, On n lv w0 may ψ (over c.d.tm σ) (over c.d.mem μ) (over c.d.hs ρ) x a' w' b → On n lv w0 may φ σ μ ρ x a' w' ⟨b.x, (cAnd c.s c.g b.s b.g).1, (cAnd c.s c.g b.s b.g).2, b.d.on c.d, b.nx⟩ := by
    intro b ⟨e1, e2, χ, e3, e4⟩
    obtain ⟨q1, q2, q3⟩ := on_over (σ := σ) (μ := μ) (ρ := ρ) b.d c.d
    exact ⟨e1, by simp only [cAnd_spec, hc, e2]; rfl, χ, Phi.le_trans hle e3, by rw [q1, q2, q3]; exact e4⟩
  obtain ⟨g1, g2⟩ := insAll_on hf1 hf2 (φ := φ) (x := x) (a' := a') (w' := w') (w0 := w0) (may := may) (n := n) h (fun α hα => .inr (hl α hα)) (fun α hα => by
    obtain ⟨b, hb, rfl⟩ := mem_behind.1 hα
    rcases hg.2 b hb with hon | hoff
    · exact .inl (key b hon)
    · right; simp only [cAnd_spec, hoff, Bool.and_false])
  refine ⟨g2 (.inr ?_), g1⟩
  obtain ⟨b, hb, hon⟩ := hg.1
  exact ⟨_, mem_behind.2 ⟨b, hb, rfl⟩, key b hon⟩

/-- What is left, when something else came about than going on. -/
theorem rest_good {w0 : World} {may : Nat → Prop} {φ : Phi} {σ : Sig} {μ : Mem} {ρ : Hds} {nx : Nat} {x : X} {a' : Act} {w' : World} {l bs r : List Alt} {c : Alt} (hf1 : ∀ b, nx ≤ b → ρ b = none) (hf2 : ∀ k y, nx ≤ k / 65536 → μ k = some y → y = .unk)
    (h : insAll lv nx σ μ ρ l (behind c bs) = some r) (hc : c.g = false) (hg : Good n lv w0 may φ σ μ ρ x a' w' l) : Good n lv w0 may φ σ μ ρ x a' w' r := by
  obtain ⟨g1, g2⟩ := insAll_on hf1 hf2 (φ := φ) (x := x) (a' := a') (w' := w') (w0 := w0) (may := may) (n := n) h hg.2 (fun α hα => by
    obtain ⟨b, hb, rfl⟩ := mem_behind.1 hα
    right; simp only [cAnd_spec, hc, Bool.false_and])
  exact ⟨g2 (.inl hg.1), g1⟩

theorem good_split {w0 : World} {may : Nat → Prop} {φ : Phi} {σ : Sig} {μ : Mem} {ρ : Hds} {x : X} {a' : Act} {w' : World} {l r : List Alt} {c : Option Alt} (h : splitN l = some (c, r)) (hg : Good n lv w0 may φ σ μ ρ x a' w' l) :
    (x = .n ∧ ∃ a, c = some a ∧ On n lv w0 may φ σ μ ρ x a' w' a ∧ ∀ α ∈ r, α.g = false) ∨ (x ≠ .n ∧ Good n lv w0 may φ σ μ ρ x a' w' r ∧ ∀ a, c = some a → a.g = false) := by
  obtain ⟨g1, g2, g3⟩ := splitN_spec h
  obtain ⟨⟨α, hα, hon⟩, hall⟩ := hg
  rcases (g3 α).1 hα with hc | hα'
  · left
    have hx : x = .n := by rw [← hon.1]; exact g2 α hc
    refine ⟨hx, α, hc, hon, fun β hβ => ?_⟩
    rcases hall β ((g3 β).2 (.inr hβ)) with h' | h'
    · exact absurd (h'.1.trans hx) (g1 β hβ)
    · exact h'
  · right
    have hx : x ≠ .n := by rw [← hon.1]; exact g1 α hα'
    refine ⟨hx, ⟨⟨α, hα', hon⟩, fun β hβ => hall β ((g3 β).2 (.inr hβ))⟩, fun a ha => ?_⟩
    rcases hall a ((g3 a).2 (.inl ha)) with h' | h'
    · exact absurd (h'.1.symm.trans (g2 a ha)) hx
    · exact h'

theorem good_one {w0 : World} {may : Nat → Prop} {φ : Phi} {σ : Sig} {μ : Mem} {ρ : Hds} {nx : Nat} {x : X} {a' : Act} {w' : World} {d : Pre} {ψ : Phi} (hle : φ.le ψ) (hs : SR n lv w0 may ψ (over d.tm σ) (over d.mem μ) (over d.hs ρ) nx a' w') :
    Good n lv w0 may φ σ μ ρ x a' w' [⟨x, false, true, d, nx⟩] :=
  ⟨⟨_, List.mem_singleton.2 rfl, rfl, rfl, ψ, hle, hs⟩, fun α hα => by rw [List.mem_singleton.1 hα]; exact .inl ⟨rfl, rfl, ψ, hle, hs⟩⟩

theorem mem_outOf {id : Nat} : ∀ {l : List Alt} {α : Alt}, α ∈ outOf id l ↔ ∃ b ∈ l, α = out1 id b
  | [], α => by simp [outOf]
  | b :: r, α => by simp only [outOf, List.mem_cons, mem_outOf (l := r), exists_eq_or_imp]

theorem condOf_spec {σ : Sig} {q : Operand} {s b : Bool} (h : condOf lv σ q = some (s, b)) {φ : Phi} {a : Act} (hσ : TRel φ (filt lv σ) a.tmps) : a.eval q = .bool b := by
  unfold condOf at h
  split at h
  · rename_i s' b' hl
    simp only [Option.some.injEq, Prod.mk.injEq] at h
    obtain ⟨rfl, rfl⟩ := h
    exact lev_rel hσ hl
  · cases h

theorem ev_wp (hT : TOK P T) (hF : P.follows .mixedOrders = true) : ∀ (k : Nat) (q : Bool) (c : Code) (p : Nat) (σ : Sig) (μ : Mem) (ρ : Hds) (nx : Nat) {obs : List Prop} {alts : List Alt}, ev P T n lv LT k q c p σ μ ρ nx = some (obs, alts) → LOK P n lv LT c p → Alls obs →
    ∀ (w0 : World) (may : Nat → Prop) (φ : Phi) (a : Act) (w : World), SR n lv w0 may φ σ μ ρ nx a w → ∀ (Q : Exit → Act → World → Prop), (∀ x a' w', Good n lv w0 may φ σ μ ρ x a' w' alts → Q x.real a' w') → (if q then Code.rounds P c Q k a w else c.wp P Q a w) := by
  intro k
  induction k with
  | zero => intro q c p σ μ ρ nx obs alts h; simp [ev] at h
  | succ k ih =>
    intro q c p σ μ ρ nx obs alts h hL ho w0 may φ a w hs Q hQ
    obtain ⟨hf1, hf2⟩ := hs.fresh
    cases q with
    | true =>
      simp only [ev] at h
      simp only [if_true]
      split at h
      · cases h
      rename_i obs1 alts1 h1
      split at h
      · cases h
      · rename_i l hsp
        simp only [Option.some.injEq, Prod.mk.injEq] at h
        obtain ⟨rfl, rfl⟩ := h
        have := ih false c p σ μ ρ nx h1 hL ho w0 may φ a w hs (Exit.then (Code.rounds P c Q k) Q) fun x a' w' hg => by
          rcases good_split hsp hg with ⟨_, a0, e, _⟩ | ⟨hx, hg', _⟩
          · cases e
          · have := hQ x a' w' hg'
            cases x with
            | n => exact absurd rfl hx
            | e id => exact this
            | r => exact this
        rw [rounds_succ]
        simpa using this
      · rename_i a0 l hsp
        split at h
        · cases h
        rename_i obs2 bs h2
        split at h
        · rename_i r hr
          simp only [Option.some.injEq, Prod.mk.injEq] at h
          obtain ⟨rfl, rfl⟩ := h
          obtain ⟨o1, o2⟩ := Alls.append.1 ho
          have := ih false c p σ μ ρ nx h1 hL o1 w0 may φ a w hs (Exit.then (Code.rounds P c Q k) Q) fun x a' w' hg => by
            rcases good_split hsp hg with ⟨hx, a1, e, hon, hoff⟩ | ⟨hx, hg', hoff⟩
            · subst hx
              simp only [Option.some.injEq] at e; subst e
              obtain ⟨_, e2, ψ, e3, e4⟩ := hon
              have := ih true c p _ _ _ _ h2 hL (underO_spec o2 e2) w0 may ψ a' w' e4 Q fun x a'' w'' hg'' => hQ x a'' w'' (seq_good hf1 hf2 hr hoff e2 e3 hg'')
              show Code.rounds P c Q k a' w'
              simpa using this
            · have := hQ x a' w' (rest_good hf1 hf2 hr (hoff a0 rfl) hg')
              cases x with
              | n => exact absurd rfl hx
              | e id => exact this
              | r => exact this
          rw [rounds_succ]
          simpa using this
        · cases h
    | false =>
      simp only [Bool.false_eq_true, if_false]
      cases c with
      | skip =>
        simp only [ev, Option.some.injEq, Prod.mk.injEq] at h
        obtain ⟨rfl, rfl⟩ := h
        exact wp_skip (hQ .n a w (good_one φ.le_refl hs))
      | region id ops draw =>
        simp only [ev] at h
        split at h
        · rename_i obs' d hl
          simp only [Option.some.injEq, Prod.mk.injEq] at h
          obtain ⟨rfl, rfl⟩ := h
          exact region_wp hT hF hl ho hs fun φ' a' w' hle hs' => hQ .n a' w' (good_one hle hs')
        · cases h
      | seq c1 c2 =>
        obtain ⟨L1, L2⟩ := hL
        simp only [ev] at h
        refine wp_seq ?_
        split at h
        · cases h
        rename_i obs1 alts1 h1
        split at h
        · cases h
        · rename_i l hsp
          simp only [Option.some.injEq, Prod.mk.injEq] at h
          obtain ⟨rfl, rfl⟩ := h
          have := ih false c1 _ σ μ ρ nx h1 L1 ho w0 may φ a w hs (Exit.then (c2.wp P Q) Q) fun x a' w' hg => by
            rcases good_split hsp hg with ⟨_, a0, e, _⟩ | ⟨hx, hg', _⟩
            · cases e
            · have := hQ x a' w' hg'
              cases x with
              | n => exact absurd rfl hx
              | e id => exact this
              | r => exact this
          simpa using this
        · rename_i a0 l hsp
          split at h
          · cases h
          rename_i obs2 bs h2
          split at h
          · rename_i r hr
            simp only [Option.some.injEq, Prod.mk.injEq] at h
            obtain ⟨rfl, rfl⟩ := h
            obtain ⟨o1, o2⟩ := Alls.append.1 ho
            have := ih false c1 _ σ μ ρ nx h1 L1 o1 w0 may φ a w hs (Exit.then (c2.wp P Q) Q) fun x a' w' hg => by
              rcases good_split hsp hg with ⟨hx, a1, e, hon, hoff⟩ | ⟨hx, hg', hoff⟩
              · subst hx
                simp only [Option.some.injEq] at e; subst e
                obtain ⟨_, e2, ψ, e3, e4⟩ := hon
                have := ih false c2 _ _ _ _ _ h2 L2 (underO_spec o2 e2) w0 may ψ a' w' e4 Q fun x a'' w'' hg'' => hQ x a'' w'' (seq_good hf1 hf2 hr hoff e2 e3 hg'')
                show Code.wp P c2 Q a' w'
                simpa using this
              · have := hQ x a' w' (rest_good hf1 hf2 hr (hoff a0 rfl) hg')
                cases x with
                | n => exact absurd rfl hx
                | e id => exact this
                | r => exact this
            simpa using this
          · cases h
      | cond q c1 c2 =>
        obtain ⟨L1, L2⟩ := hL
        simp only [ev] at h
        split at h
        · rename_i hq
          have := ih false c1 _ σ μ ρ nx h L1 ho w0 may φ a w hs Q hQ
          exact wp_cond_true (condOf_spec hq hs.tr) (by simpa using this)
        · rename_i hq
          have := ih false c2 _ σ μ ρ nx h L2 ho w0 may φ a w hs Q hQ
          exact wp_cond_false (condOf_spec hq hs.tr) (by simpa using this)
        · rename_i g hq
          split at h
          · split at h
            case h_2 => cases h
            rename_i o1 l1 h1
            simp only [Option.some.injEq, Prod.mk.injEq] at h
            obtain ⟨rfl, rfl⟩ := h
            have := ih false c1 _ σ μ ρ nx h1 L1 ho.2 w0 may φ a w hs Q hQ
            exact wp_cond_true (by rw [condOf_spec hq hs.tr, ho.1]) (by simpa using this)
          · split at h
            case h_2 => cases h
            rename_i o2 l2 h2
            simp only [Option.some.injEq, Prod.mk.injEq] at h
            obtain ⟨rfl, rfl⟩ := h
            have := ih false c2 _ σ μ ρ nx h2 L2 ho.2 w0 may φ a w hs Q hQ
            exact wp_cond_false (by rw [condOf_spec hq hs.tr, ho.1]) (by simpa using this)
          split at h
          case h_2 => cases h
          rename_i o1 l1 o2 l2 h1 h2
          split at h
          case h_2 => cases h
          rename_i l hl
          simp only [Option.some.injEq, Prod.mk.injEq] at h
          obtain ⟨rfl, rfl⟩ := h
          obtain ⟨p1, p2⟩ := Alls.append.1 ho
          have hv := condOf_spec hq hs.tr
          cases g with
          | true =>
            have := ih false c1 _ σ μ ρ nx h1 L1 (under_spec p1) w0 may φ a w hs Q fun x a' w' hg => by
              obtain ⟨k1, k2⟩ := joinC_t hf1 hf2 hl hg.2
              exact hQ x a' w' ⟨k2 hg.1, k1⟩
            exact wp_cond_true hv (by simpa using this)
          | false =>
            have := ih false c2 _ σ μ ρ nx h2 L2 (under_spec p2) w0 may φ a w hs Q fun x a' w' hg => by
              obtain ⟨k1, k2⟩ := joinC_f hf1 hf2 hl hg.2
              exact hQ x a' w' ⟨k2 hg.1, k1⟩
            exact wp_cond_false hv (by simpa using this)
        · cases h
      | block id c1 =>
        obtain ⟨L1, L2⟩ := hL
        simp only [ev] at h
        split at h
        · rename_i x hx
          obtain ⟨f, hf, he⟩ := trySum_mem hx
          rw [h] at he
          exact L1 f hf σ μ ρ nx obs alts he ho w0 may φ a w hs Q hQ
        · split at h
          case h_2 => cases h
          rename_i obs1 alts1 h1
          split at h
          case h_2 => cases h
          rename_i l hl
          simp only [Option.some.injEq, Prod.mk.injEq] at h
          obtain ⟨rfl, rfl⟩ := h
          refine wp_block ?_
          have key := ih false c1 _ σ μ ρ nx h1 L2 ho w0 may φ a w hs (Exit.inBlock id Q) fun x a' w' hg => by
            -- the exit, as the block leaves it
            have hfin : ∀ y : X, (∀ b, On n lv w0 may φ σ μ ρ x a' w' b → On n lv w0 may φ σ μ ρ y a' w' (out1 id b)) → Good n lv w0 may φ σ μ ρ y a' w' l := by
              intro y hy
              obtain ⟨g1, g2⟩ := insAll_on hf1 hf2 (φ := φ) (x := y) (a' := a') (w' := w') (w0 := w0) (may := may) (n := n) hl (fun α hα => by cases hα) (fun α hα => by
                obtain ⟨b, hb, rfl⟩ := mem_outOf.1 hα
                rcases hg.2 b hb with hon | hoff
                · exact .inl (hy b hon)
                · right
                  unfold out1
                  split
                  · split
                    · exact hoff
                    · exact hoff
                  · exact hoff)
              refine ⟨g2 (.inr ?_), g1⟩
              obtain ⟨b, hb, hon⟩ := hg.1
              exact ⟨_, mem_outOf.2 ⟨b, hb, rfl⟩, hy b hon⟩
            cases x with
            | n =>
              refine hQ .n a' w' (hfin .n fun b hon => ?_)
              unfold out1; rw [hon.1]; exact hon
            | r =>
              refine hQ .r a' w' (hfin .r fun b hon => ?_)
              unfold out1; rw [hon.1]; exact hon
            | e i =>
              by_cases hi : i = id
              · subst hi
                have := hQ .n a' w' (hfin .n fun b hon => by
                  unfold out1; rw [hon.1]
                  simp only [Nat.beq_refl]
                  exact ⟨rfl, hon.2⟩)
                simpa [X.real, Exit.inBlock] using this
              · have := hQ (.e i) a' w' (hfin (.e i) fun b hon => by
                  unfold out1; rw [hon.1]
                  have : Nat.beq i id = false := by
                    cases hb : Nat.beq i id
                    · rfl
                    · exact absurd (Nat.eq_of_beq_eq_true hb) hi
                  simp only [this]
                  exact hon)
                simpa [X.real, Exit.inBlock, hi] using this
          simpa using key
      | loop c1 =>
        simp only [ev] at h
        have := ih true c1 _ σ μ ρ nx h hL ho w0 may φ a w hs Q hQ
        simp only [if_true] at this
        exact wp_loop_rounds k this
      | exit id =>
        simp only [ev, Option.some.injEq, Prod.mk.injEq] at h
        obtain ⟨rfl, rfl⟩ := h
        exact wp_exit (hQ (.e id) a w (good_one φ.le_refl hs))
      | ret =>
        simp only [ev, Option.some.injEq, Prod.mk.injEq] at h
        obtain ⟨rfl, rfl⟩ := h
        exact wp_ret (hQ .r a w (good_one φ.le_refl hs))
      | rangeFunc => simp [ev] at h
      | scope => simp [ev] at h
      | label => simp [ev] at h
      | goto => simp [ev] at h
      | refuse => simp [ev] at h

end
end Go.Proofs.Ytcdejlgophpdjaa.V
end

section
namespace Go.Proofs.Ytcdejlgophpdjaa.V
open Go Go.RowKit

/-! Names in what is handed back. -/
def keepC (foot : List Nat) : List (Nat × Nat) → Option (List (Nat × Nat))
  | [] => some []
  | (b, o) :: r => match idxOf b foot 0, keepC foot r with
    | some i, some l => some ((i, o) :: l)
    | _, _ => none

def keepA (foot : List Nat) : At → At
  | .ptr b o => match idxOf b foot 0 with
    | some i => .ptr i o
    | none => .unk
  | .prw s b v st e i j => match idxOf b foot 0 with
    | some c => .prw s c v st e i j
    | none => .unk
  | .slc s b v st e off len => match idxOf b foot 0 with
    | some c => .slc s c v st e off len
    | none => .unk
  | .vec b v e => match idxOf b foot 0 with
    | some c => .vec c v e
    | none => .unk
  | .fn f caps => match keepC foot caps with
    | some l => .fn f l
    | none => .unk
  | x => x

def keepL (foot : List Nat) : List At → List At
  | [] => []
  | x :: r => keepA foot x :: keepL foot r

def keepV1 (foot : List Nat) : LV → LV
  | .a x => .a (keepA foot x)
  | .g l => .g (keepL foot l)
  | _ => .u

def keepVs (foot : List Nat) : List LV → List LV
  | [] => []
  | x :: r => keepV1 foot x :: keepVs foot r

def keepV (foot : List Nat) : LV → LV
  | .t l => .t (keepVs foot l)
  | x => keepV1 foot x

def keepO (foot : List Nat) : Option At → Option At
  | some x => match keepA foot x with
    | .unk => none
    | y => some y
  | none => none

def outCells (μ : Mem) (foot : List Nat) (b : Nat) (h : Hd) : Nat → Nat → List (Option At)
  | _, 0 => []
  | k, n + 1 => (match inReg h k with
    | true => none
    | false => keepO foot (μ (b * 65536 + k))) :: outCells μ foot b h (k + 1) n

def outOne (μ : Mem) (ρ : Hds) (foot : List Nat) (b : Nat) : Option BC :=
  match ρ b with
  | some h => match Nat.ble h.z 65536 with
    | true => some ⟨h, outCells μ foot b h 0 h.z⟩
    | false => none
  | none => none

/-- The blocks as they are left: those that were given and are not written, are not told. -/
def outs (μ : Mem) (ρ : Hds) (foot : List Nat) (m : Nat) (W : List Nat) : List Nat → Option (List (Option BC))
  | [] => some []
  | b :: r => match outs μ ρ foot m W r with
    | none => none
    | some l => match Nat.blt b m && !memN b W with
      | true => some (none :: l)
      | false => match outOne μ ρ foot b with
        | some c => some (some c :: l)
        | none => none

def hdsW (bs : List BC) (W : List Nat) : Hds := fun b => match bs[b]? with
  | some c => match memN b W with
    | true => some c.h
    | false => some (roH c.h)
  | none => none

def cleanM (W : List Nat) (m : Nat) : List (Nat × At) → Bool
  | [] => true
  | (k, _) :: r => match memN (k / 65536) W || Nat.ble m (k / 65536) with
    | true => cleanM W m r
    | false => false

def cleanH (W : List Nat) (m : Nat) : List (Nat × Hd) → Bool
  | [] => true
  | (k, _) :: r => match memN k W || Nat.ble m k with
    | true => cleanH W m r
    | false => false

def lres1 (P : Program) (σ : Sig) (μ : Mem) (ρ : Hds) : ResultVar → Option LV
  | .tmp t => σ t
  | .cell c t => match σ c with
    | some (.a (.ptr b off)) => loadP P μ ρ t b off
    | _ => none

def lresAll (P : Program) (σ : Sig) (μ : Mem) (ρ : Hds) : List ResultVar → Option (List LV)
  | [] => some []
  | x :: r => match lres1 P σ μ ρ x, lresAll P σ μ ρ r with
    | some v, some l => some (v :: l)
    | _, _ => none

def LV.flat : LV → Bool
  | .t _ => false
  | _ => true

def allFlat : List LV → Bool
  | [] => true
  | x :: r => match x.flat with
    | true => allFlat r
    | false => false

def lres (P : Program) (σ : Sig) (μ : Mem) (ρ : Hds) (l : List ResultVar) : Option LV :=
  match lresAll P σ μ ρ l with
  | some [v] => some v
  | some vs => match allFlat vs with
    | true => some (.t vs)
    | false => none
  | none => none

def args0 : List LV → Nat → List (Nat × LV)
  | [], _ => []
  | v :: r, i => (i, v) :: args0 r (i + 1)

def refT (ρ : Hds) : LV → List Nat
  | .t l => l.flatMap (refV ρ)
  | x => refV ρ x

def refW (μ : Mem) (ρ : Hds) : List Nat → List Nat
  | [] => []
  | b :: r => (match ρ b with
    | some h => refsIn μ ρ b 0 h.z
    | none => []) ++ refW μ ρ r

/-- The ways that end. -/
def ends : List Alt → Option (List Alt)
  | [] => some []
  | a :: r => match a.x, ends r with
    | .e _, _ => none
    | _, some l => some (⟨.r, a.s, a.g, a.d, a.nx⟩ :: l)
    | _, none => none

def fin2 (m : Nat) (W : List Nat) (μ : Mem) (ρ : Hds) (v : LV) (foot : List Nat) : Option (LV × List (Option BC)) :=
  match nodupB foot, outs μ ρ foot m W foot with
  | true, some out => some (keepV foot v, out)
  | _, _ => none

def fin (P : Program) (fn : Func) (m : Nat) (W : List Nat) (σ : Sig) (μ : Mem) (ρ : Hds) : Option (LV × List (Option BC)) :=
  match lres P σ μ ρ fn.results.toList with
  | some v => fin2 m W μ ρ v (List.range m ++ (footGo μ ρ 100 (refT ρ v ++ refW μ ρ W) (List.range m).reverse).drop m)
  | none => none

/-- A whole call. W: the blocks among those given that it writes. -/
def evF (P : Program) (T : Tab) (k : Nat) (lv : List Nat) (LT : List (Nat × Sum)) (W : List Nat) (fn : Func) (c : Code) (args : List LV) (bs : List BC) : Option (List Prop × LV × List (Option BC)) :=
  match Nat.ble args.length fn.ntmps with
  | false => none
  | true => match ev P T fn.ntmps lv LT k false c 1 (look (args0 args 0)) (memOf bs) (hdsW bs W) bs.length with
    | none => none
    | some (obs, alts) => match ends alts with
      | none => none
      | some l => match insAll lv bs.length (look (args0 args 0)) (memOf bs) (hdsW bs W) [] l with
        | some [⟨_, _, _, d, _⟩] => match cleanM W bs.length d.mem && cleanH W bs.length d.hs with
          | true => match fin P fn bs.length W (filt lv (over d.tm (look (args0 args 0)))) (over d.mem (memOf bs)) (over d.hs (hdsW bs W)) with
            | some (v, out) => some (obs, v, out)
            | none => none
          | false => none
        | _ => none

def phiK (φ : Phi) (foot : List Nat) : Phi := fun i => match foot[i]? with
  | some b => φ b
  | none => none

section
variable {P : Program} {T : Tab} {w0 : World} {may : Nat → Prop} {φ : Phi} {σ : Sig} {μ : Mem} {ρ : Hds} {fr : Nat → Prop} {w : World} {foot : List Nat}

theorem keep_moves {b i : Nat} (h : idxOf b foot 0 = some i) (v : Nat) : Moves φ (phiK φ foot) b v i v := by
  intro j hj hv
  obtain ⟨_, h2⟩ := idxOf_spec h
  rw [Nat.sub_zero] at h2
  exact ⟨j, by simp [phiK, h2, hj], hv, fun e => ⟨e, rfl, rfl, rfl⟩⟩

theorem keepC_rel : ∀ {l l' : List (Nat × Nat)} {vs : List Value}, keepC foot l = some l' → All2 (prel φ) l vs → All2 (prel (phiK φ foot)) l' vs
  | [], l', vs, h, hv => by simp only [keepC, Option.some.injEq] at h; subst h; cases hv; exact .nil
  | (b, o) :: r, l', vs, h, hv => by
    unfold keepC at h
    split at h
    · rename_i i l'' h1 h2
      simp only [Option.some.injEq] at h; subst h
      cases hv with
      | cons x y => exact .cons (prel_move x (keep_moves h1 0)) (keepC_rel h2 y)
    · cases h

theorem keepA_rel {x : At} {v : Value} (h : x.rel φ v) : (keepA foot x).rel (phiK φ foot) v := by
  have hu := At.rel_one h
  cases x with
  | bool s b => exact h
  | int s k n => exact h
  | str s y => exact h
  | nil => exact h
  | nils => exact h
  | nilfn => exact h
  | unk => exact h
  | val u => exact h
  | ptr b o =>
    simp only [keepA]
    split
    · rename_i i hi; exact prel_move h (keep_moves hi 0)
    · exact hu
  | prw s b ver st e p q =>
    simp only [keepA]
    split
    · rename_i i hi; exact vrel_move prwR_move h (keep_moves hi ver)
    · exact hu
  | slc s b ver st e off len =>
    simp only [keepA]
    split
    · rename_i i hi; exact vrel_move slcR_move h (keep_moves hi ver)
    · exact hu
  | vec b ver e =>
    simp only [keepA]
    split
    · rename_i i hi; exact vrel_move vecR_move h (keep_moves hi ver)
    · exact hu
  | fn f caps =>
    simp only [keepA]
    split
    · rename_i l hl
      obtain ⟨cs, e, g⟩ := h
      exact ⟨cs, e, keepC_rel hl g⟩
    · exact hu

theorem keepL_rel : ∀ {l : List At} {vs : List Value}, All2 (At.rel φ) l vs → All2 (At.rel (phiK φ foot)) (keepL foot l) vs
  | _, _, .nil => .nil
  | _, _, .cons h t => .cons (keepA_rel h) (keepL_rel t)

theorem keepV1_rel {x : LV} {v : Value} (h : x.rel1 φ v) : (keepV1 foot x).rel1 (phiK φ foot) v := by
  cases x with
  | a x => exact keepA_rel h
  | g l => obtain ⟨cs, e, k⟩ := h; exact ⟨cs, e, keepL_rel k⟩
  | t l => trivial
  | u => trivial

theorem keepVs_rel : ∀ {l : List LV} {vs : List Value}, All2 (LV.rel1 φ) l vs → All2 (LV.rel1 (phiK φ foot)) (keepVs foot l) vs
  | _, _, .nil => .nil
  | _, _, .cons h t => .cons (keepV1_rel h) (keepVs_rel t)

theorem keepV_rel {x : LV} {v : Value} (h : x.rel φ v) : (keepV foot x).rel (phiK φ foot) v := by
  cases x with
  | a x => exact keepV1_rel (x := .a x) h
  | g l => exact keepV1_rel (x := .g l) h
  | t l => obtain ⟨vs, e, k⟩ := h; exact ⟨vs, e, keepVs_rel k⟩
  | u => trivial

theorem outCells_get {b : Nat} {h : Hd} : ∀ {n k j : Nat}, j < n → (outCells μ foot b h k n)[j]? = some (match inReg h (k + j) with
    | true => none
    | false => keepO foot (μ (b * 65536 + (k + j))))
  | 0, k, j, h => by omega
  | n + 1, k, 0, h => by simp only [outCells, List.getElem?_cons_zero]; rfl
  | n + 1, k, j + 1, h => by
    simp only [outCells, List.getElem?_cons_succ]
    rw [outCells_get (by omega), show k + 1 + j = k + (j + 1) by omega]

theorem outCells_len {b : Nat} {h : Hd} : ∀ {n k : Nat}, (outCells μ foot b h k n).length = n
  | 0, k => rfl
  | n + 1, k => by simp [outCells, outCells_len]

theorem outOne_spec {b : Nat} {c : BC} (h : outOne μ ρ foot b = some c) : ρ b = some c.h ∧ c.h.z ≤ 65536 ∧ c.cs = outCells μ foot b c.h 0 c.h.z := by
  unfold outOne at h
  split at h
  · rename_i hd hh
    split at h
    · rename_i hz
      simp only [Option.some.injEq] at h; subst h
      exact ⟨hh, Nat.le_of_ble_eq_true hz, rfl⟩
    · cases h
  · cases h

theorem outs_spec {m : Nat} {W : List Nat} : ∀ {l : List Nat} {out : List (Option BC)}, outs μ ρ foot m W l = some out → out.length = l.length ∧ ∀ (i b : Nat), l[i]? = some b →
    (b < m ∧ memN b W = false ∧ out[i]? = some none) ∨ ((m ≤ b ∨ memN b W = true) ∧ ∃ c, out[i]? = some (some c) ∧ outOne μ ρ foot b = some c)
  | [], out, h => by simp only [outs, Option.some.injEq] at h; subst h; exact ⟨rfl, fun i b hb => by simp at hb⟩
  | b0 :: r, out, h => by
    unfold outs at h
    split at h
    · cases h
    · rename_i l hl
      obtain ⟨g1, g2⟩ := outs_spec hl
      split at h
      · rename_i hc
        simp only [Option.some.injEq] at h; subst h
        refine ⟨by simp [g1], fun i b hb => ?_⟩
        cases i with
        | zero =>
          simp at hb; subst hb
          simp only [Bool.and_eq_true, Bool.not_eq_true'] at hc
          exact .inl ⟨Nat.le_of_ble_eq_true hc.1, hc.2, by simp⟩
        | succ i => simpa using g2 i b (by simpa using hb)
      · rename_i hc
        split at h
        · rename_i c h1
          simp only [Option.some.injEq] at h; subst h
          refine ⟨by simp [g1], fun i b hb => ?_⟩
          cases i with
          | zero =>
            simp at hb; subst hb
            right
            refine ⟨?_, c, by simp, h1⟩
            cases hm : memN b0 W with
            | true => exact .inr rfl
            | false =>
              left
              rw [hm] at hc
              simp only [Bool.not_false, Bool.and_true] at hc
              rcases Nat.lt_or_ge b0 m with hlt | hge
              · have : Nat.blt b0 m = true := Nat.ble_eq_true_of_le hlt
                rw [this] at hc; cases hc
              · exact hge
          | succ i => simpa using g2 i b (by simpa using hb)
        · cases h

theorem cleanM_spec {W : List Nat} {m : Nat} : ∀ {l : List (Nat × At)}, cleanM W m l = true → ∀ k x, (k, x) ∈ l → memN (k / 65536) W = true ∨ m ≤ k / 65536
  | [], _, k, x, h => by cases h
  | (k0, x0) :: r, hc, k, x, h => by
    unfold cleanM at hc
    split at hc
    · rename_i hb
      rcases List.mem_cons.1 h with e | h
      · simp only [Prod.mk.injEq] at e; obtain ⟨rfl, rfl⟩ := e
        simp only [Bool.or_eq_true] at hb
        exact hb.imp id fun e => Nat.le_of_ble_eq_true e
      · exact cleanM_spec hc k x h
    · cases hc

theorem cleanH_spec {W : List Nat} {m : Nat} : ∀ {l : List (Nat × Hd)}, cleanH W m l = true → ∀ k x, (k, x) ∈ l → memN k W = true ∨ m ≤ k
  | [], _, k, x, h => by cases h
  | (k0, x0) :: r, hc, k, x, h => by
    unfold cleanH at hc
    split at hc
    · rename_i hb
      rcases List.mem_cons.1 h with e | h
      · simp only [Prod.mk.injEq] at e; obtain ⟨rfl, rfl⟩ := e
        simp only [Bool.or_eq_true] at hb
        exact hb.imp id fun e => Nat.le_of_ble_eq_true e
      · exact cleanH_spec hc k x h
    · cases hc

def resOf (tmps : Array Value) : ResultVar → Sem Value
  | .tmp t => pure (tmps.getD t undef)
  | .cell a t => do loadVar t (← asAddr (tmps.getD a undef))

theorem lres1_run {tmps : Array Value} (hσ : TRel φ σ tmps) (hM : MR w0 may φ μ ρ fr w) {x : ResultVar} {v : LV} (h : lres1 P σ μ ρ x = some v) :
    ∃ u, (resOf tmps x).run P w = .ok u w ∧ v.rel φ u := by
  cases x with
  | tmp t => exact ⟨_, rfl, hσ _ _ h⟩
  | cell c t =>
    simp only [lres1] at h
    split at h
    · rename_i b off hb
      obtain ⟨r, o', u, hv, h1, h2⟩ := loadP_run (P := P) hM h (hσ _ _ hb)
      exact ⟨u, by simp [resOf, hv, asAddr, h1], h2⟩
    · cases h

theorem lresAll_run {tmps : Array Value} (hσ : TRel φ σ tmps) (hM : MR w0 may φ μ ρ fr w) : ∀ {l : List ResultVar} {vs : List LV}, lresAll P σ μ ρ l = some vs →
    ∃ us, (l.mapM (resOf tmps)).run P w = .ok us w ∧ All2 (LV.rel φ) vs us
  | [], vs, h => by simp only [lresAll, Option.some.injEq] at h; subst h; exact ⟨[], by simp, .nil⟩
  | x :: r, vs, h => by
    simp only [lresAll] at h
    split at h
    · rename_i v l hv hl
      simp only [Option.some.injEq] at h
      subst h
      obtain ⟨u, u1, u2⟩ := lres1_run (P := P) hσ hM hv
      obtain ⟨us, us1, us2⟩ := lresAll_run hσ hM hl
      refine ⟨u :: us, ?_, .cons u2 us2⟩
      rw [List.mapM_cons]
      simp only [Sem.run_bind, u1, us1, Result.andThen_ok]
      rfl
    · cases h

theorem allFlat_rel : ∀ {vs : List LV} {us : List Value}, allFlat vs = true → All2 (LV.rel φ) vs us → All2 (LV.rel1 φ) vs us
  | _, _, _, .nil => .nil
  | x :: r, _, h, .cons a t => by
    unfold allFlat at h
    split at h
    · rename_i hx
      refine .cons ?_ (allFlat_rel h t)
      cases x with
      | a x => exact a
      | g l => exact a
      | t l => simp [LV.flat] at hx
      | u => trivial
    · cases h

theorem lres_run {fn : Func} {tmps : Array Value} (hσ : TRel φ σ tmps) (hM : MR w0 may φ μ ρ fr w) {v : LV} (h : lres P σ μ ρ fn.results.toList = some v) :
    ∃ u, (results fn tmps).run P w = .ok u w ∧ v.rel φ u := by
  unfold lres at h
  have go : ∀ {vs : List LV}, lresAll P σ μ ρ fn.results.toList = some vs → ∃ us : List Value, (results fn tmps).run P w = .ok (if h : us.toArray.size = 1 then us.toArray[0] else .tuple us.toArray) w ∧ All2 (LV.rel φ) vs us := by
    intro vs hvs
    obtain ⟨us, u1, u2⟩ := lresAll_run (P := P) hσ hM hvs
    refine ⟨us, ?_, u2⟩
    have e : results fn tmps = (do
      let vs ← fn.results.mapM (resOf tmps)
      pure (if h : vs.size = 1 then vs[0] else .tuple vs)) := rfl
    rw [e, Array.mapM_eq_mapM_toList]
    simp only [Sem.run_bind]
    have : (List.toArray <$> (fn.results.toList.mapM (resOf tmps))).run P w = .ok us.toArray w := by
      rw [← bind_pure_comp, Sem.run_bind, u1]; rfl
    rw [this]
    rfl
  split at h
  · rename_i v' hv
    simp only [Option.some.injEq] at h
    subst h
    obtain ⟨us, u1, u2⟩ := go hv
    cases u2 with
    | cons a b => cases b; exact ⟨_, u1, by simpa using a⟩
  · rename_i vs hne hv
    split at h
    · rename_i hf
      simp only [Option.some.injEq] at h
      subst h
      obtain ⟨us, u1, u2⟩ := go hv
      have hl := u2.length
      have hn : us.toArray.size ≠ 1 := by
        intro e
        match vs, hl, hne with
        | [], hl, _ => simp at hl e; rw [← hl] at e; simp at e
        | [x], _, hne => exact hne x rfl
        | x :: y :: r, hl, _ => simp at hl e; omega
      rw [dif_neg hn] at u1
      exact ⟨_, u1, us.toArray, rfl, allFlat_rel hf u2⟩
    · cases h
  · cases h

theorem args0_look : ∀ (args : List LV) (i t : Nat) (lv : LV), look (args0 args i) t = some lv → i ≤ t ∧ args[t - i]? = some lv
  | [], i, t, lv, h => by simp [args0, look] at h
  | v :: r, i, t, lv, h => by
    simp only [args0, look] at h
    split at h
    · rename_i hb
      have := Nat.eq_of_beq_eq_true hb
      simp only [Option.some.injEq] at h; subst h; subst this; simp
    · obtain ⟨h1, h2⟩ := args0_look r (i + 1) t lv h
      refine ⟨by omega, ?_⟩
      rw [show t - i = (t - (i + 1)) + 1 by omega]; simpa using h2

/-- Names that were there are there yet. -/
theorem At.rel_back {ψ χ : Phi} {x : At} {v0 v : Value} (h0 : x.rel φ v0) (h : x.rel ψ v) (hφ : ∀ b, φ b ≠ none → χ b = ψ b) : x.rel χ v := by
  have key : ∀ {b ver : Nat} {R R' : Inf → Prop}, vrel φ b ver v0 R' → vrel ψ b ver v R → vrel χ b ver v R := by
    intro b ver R R' ⟨_, i, h1, _⟩ ⟨g0, j, g1, g2, g3⟩
    exact ⟨g0, j, by rw [hφ b (by simp [h1])]; exact g1, g2, g3⟩
  cases x with
  | bool s b => exact h
  | int s k n => exact h
  | str s y => exact h
  | nil => exact h
  | nils => exact h
  | nilfn => exact h
  | unk => exact h
  | val u => exact h
  | ptr b o => exact key h0 h
  | prw s b ver st e p q => exact key h0 h
  | slc s b ver st e off len => exact key h0 h
  | vec b ver e => exact key h0 h
  | fn f caps =>
    obtain ⟨cs0, _, k0⟩ := h0
    obtain ⟨cs, e, k⟩ := h
    refine ⟨cs, e, ?_⟩
    generalize cs.toList = m at k
    generalize cs0.toList = m0 at k0
    clear e
    induction k generalizing m0 with
    | nil => exact .nil
    | cons r _ ih =>
      cases k0 with
      | cons r0 t0 =>
        refine .cons ?_ (ih _ t0)
        obtain ⟨_, i, h1, _⟩ := r0
        obtain ⟨g0, j, g1, g2, g3⟩ := r
        exact ⟨g0, j, by rw [hφ _ (by simp [h1])]; exact g1, g2, g3⟩

theorem hdsW_in {bs : List BC} {W : List Nat} {m : Nat} {out : List (Option BC)} (hm : m = bs.length) {l : List Nat} (hl : ∀ i, i < m → l[i]? = some i) (h : outs μ ρ foot m W l = some out) : hdsIn bs out = hdsW bs W := by
  obtain ⟨_, h2⟩ := outs_spec h
  funext b
  unfold hdsIn hdsW
  cases hc : bs[b]? with
  | none => rfl
  | some c =>
    have hb : b < m := by rw [hm]; exact (List.getElem?_eq_some_iff.1 hc).1
    rcases h2 b b (hl b hb) with ⟨_, g2, g3⟩ | ⟨g1, c', g2, _⟩
    · simp only [g2, g3]
    · have : memN b W = true := by
        rcases g1 with g1 | g1
        · omega
        · exact g1
      simp only [this, g2]

/-- What is left, under the names in which it is handed back. -/
theorem fin_mr {bs : List BC} {W : List Nat} {d : Pre} {nx : Nat} {out : List (Option BC)} {ψ : Phi} {w' : World} (hM0 : MR w0 may φ (memOf bs) (hdsW bs W) (fun b => bs.length ≤ b) w) (hle : φ.le ψ)
    (hM : MR w0 may ψ (over d.mem (memOf bs)) (over d.hs (hdsW bs W)) (fun b => nx ≤ b) w') (hcm : cleanM W bs.length d.mem = true) (hch : cleanH W bs.length d.hs = true)
    (hnd : nodupB foot = true) (hpre : ∀ i, i < bs.length → foot[i]? = some i) (ho : outs (over d.mem (memOf bs)) (over d.hs (hdsW bs W)) foot bs.length W foot = some out) :
    φ.le (phiK ψ foot) ∧ MR w0 may (phiK ψ foot) (memAft bs out) (hdsAft bs out) (fun b => out.length ≤ b) w' := by
  obtain ⟨hlen, hout⟩ := outs_spec ho
  have hsmall : ∀ b, φ b ≠ none → b < bs.length := fun b hb => by
    rcases Nat.lt_or_ge b bs.length with h | h
    · exact h
    · exact absurd (hM0.dom b h) hb
  have hphi : ∀ b, φ b ≠ none → phiK ψ foot b = ψ b := fun b hb => by simp [phiK, hpre b (hsmall b hb)]
  have hφ : φ.le (phiK ψ foot) := by
    intro b i hb
    rw [hphi b (by simp [hb])]; exact hle b i hb
  have get : ∀ i j, phiK ψ foot i = some j → ∃ b, foot[i]? = some b ∧ ψ b = some j := by
    intro i j h
    unfold phiK at h
    split at h
    · rename_i b hb; exact ⟨b, hb, h⟩
    · cases h
  -- what is told of a block
  have told : ∀ i c, aft bs out i = some c → (i < bs.length ∧ memN i W = false ∧ foot[i]? = some i ∧ ∃ c0, bs[i]? = some c0 ∧ c = ⟨roH c0.h, c0.cs⟩) ∨ ∃ b, foot[i]? = some b ∧ outOne (over d.mem (memOf bs)) (over d.hs (hdsW bs W)) foot b = some c := by
    intro i c h
    unfold aft at h
    split at h
    · rename_i c' hc
      simp only [Option.some.injEq] at h; subst h
      have hi : i < foot.length := by rw [← hlen]; exact (List.getElem?_eq_some_iff.1 hc).1
      have hb : foot[i]? = some foot[i] := by simp [hi]
      rcases hout i _ hb with ⟨_, _, g⟩ | ⟨_, c2, g, g'⟩
      · rw [hc] at g; cases g
      · rw [hc] at g; simp only [Option.some.injEq] at g; subst g
        exact .inr ⟨_, hb, g'⟩
    · rename_i hc
      split at h
      · rename_i c0 hc0
        simp only [Option.some.injEq] at h; subst h
        have hi : i < bs.length := (List.getElem?_eq_some_iff.1 hc0).1
        have hb := hpre i hi
        rcases hout i _ hb with ⟨_, g, _⟩ | ⟨_, c2, g, g'⟩
        · exact .inl ⟨hi, g, hb, c0, hc0, rfl⟩
        · rw [hc] at g; cases g
      · cases h
    · cases h
  -- a block that is not written
  have keepμ : ∀ i, i < bs.length → memN i W = false → ∀ k, k / 65536 = i → over d.mem (memOf bs) k = memOf bs k := by
    intro i hi hW k hk
    refine over_none fun y hy => ?_
    rcases cleanM_spec hcm k y hy with h | h
    · rw [hk, hW] at h; cases h
    · omega
  have keepρ : ∀ i, i < bs.length → memN i W = false → over d.hs (hdsW bs W) i = hdsW bs W i := by
    intro i hi hW
    refine over_none fun y hy => ?_
    rcases cleanH_spec hch i y hy with h | h
    · rw [hW] at h; cases h
    · omega
  have hdr : ∀ i h, hdsAft bs out i = some h → ∃ b, foot[i]? = some b ∧ over d.hs (hdsW bs W) b = some h := by
    intro i h hh
    unfold hdsAft at hh
    split at hh
    · rename_i c hc
      simp only [Option.some.injEq] at hh; subst hh
      rcases told i c hc with ⟨h1, h2, h3, c0, h4, rfl⟩ | ⟨b, h1, h2⟩
      · refine ⟨i, h3, ?_⟩
        rw [keepρ i h1 h2]; simp [hdsW, h4, h2]
      · exact ⟨b, h1, (outOne_spec h2).1⟩
    · cases hh
  have cell : ∀ k x, memAft bs out k = some x → x = .unk ∨ ∃ b x0, foot[k / 65536]? = some b ∧ over d.mem (memOf bs) (b * 65536 + k % 65536) = some x0 ∧ (x0 = .unk → x = .unk) ∧ ∀ v, x0.rel ψ v → x.rel (phiK ψ foot) v := by
    intro k x hx
    unfold memAft at hx
    split at hx
    · rename_i c hc
      have hz : k % 65536 < 65536 := Nat.mod_lt _ (by decide)
      rcases told _ c hc with ⟨h1, h2, h3, c0, h4, rfl⟩ | ⟨b, h1, h2⟩
      · have hk : memOf bs k = some x := by simp only [memOf, h4]; exact hx
        rcases hM0.cell k x hk with e | ⟨i, _, _, _, r, o, arr, ty, fz, v0, _, _, _, hr⟩
        · exact .inl e
        · refine .inr ⟨_, x, h3, ?_, id, fun v hv => At.rel_back hr hv hphi⟩
          rw [show k / 65536 * 65536 + k % 65536 = k by omega, keepμ _ h1 h2 k rfl]; exact hk
      · obtain ⟨_, g2, g3⟩ := outOne_spec h2
        unfold cellOf at hx
        split at hx
        · rename_i y hy
          simp only [Option.some.injEq] at hx; subst hx
          have hk : k % 65536 < c.h.z := by
            have := (List.getElem?_eq_some_iff.1 hy).1
            rw [g3, outCells_len] at this; exact this
          rw [g3, outCells_get hk, Nat.zero_add] at hy
          simp only [Option.some.injEq] at hy
          cases hm : over d.mem (memOf bs) (b * 65536 + k % 65536) with
          | none => rw [hm] at hy; simp only [keepO] at hy; split at hy <;> cases hy
          | some x0 =>
            rw [hm] at hy; simp only [keepO] at hy
            split at hy
            · cases hy
            · split at hy
              · cases hy
              · simp only [Option.some.injEq] at hy
                subst hy
                exact .inr ⟨b, x0, h1, hm, fun e => by subst e; rfl, fun v hv => keepA_rel hv⟩
        · cases hx
    · cases hx
  refine ⟨hφ, ?_⟩
  constructor
  · intro k x hx
    rcases cell k x hx with e | ⟨b, x0, h1, h2, h3, h4⟩
    · exact .inl e
    · have hz : k % 65536 < 65536 := Nat.mod_lt _ (by decide)
      rcases hM.cell _ x0 h2 with e | ⟨j, g1, g2, g3, r, o', arr, ty, fz, v, g4, g5, g6, g7⟩
      · exact .inl (h3 e)
      · rw [key_div _ _ hz] at g1
        rw [key_mod _ _ hz] at g3 g6
        exact .inr ⟨j, by simp [phiK, h1, g1], g2, g3, r, o', arr, ty, fz, v, g4, g5, g6, h4 v g7⟩
  · intro i h hh
    obtain ⟨b, h1, h2⟩ := hdr i h hh
    obtain ⟨j, g1, g2⟩ := hM.hdr b h h2
    exact ⟨j, by simp [phiK, h1, g1], g2⟩
  · intro k x h hx hne hh
    rcases cell k x hx with e | ⟨b, x0, h1, h2, h3, h4⟩
    · exact absurd e hne
    · obtain ⟨b', g1, g2⟩ := hdr _ h hh
      rw [h1] at g1; simp only [Option.some.injEq] at g1; subst g1
      have hz : k % 65536 < 65536 := Nat.mod_lt _ (by decide)
      have := hM.apart _ x0 h h2 (fun e => hne (h3 e)) (by rw [key_div _ _ hz]; exact g2)
      rw [key_mod _ _ hz] at this
      exact this
  · intro i i' j j' r o' o'' hi hi' ha ha'
    obtain ⟨b, h1, h2⟩ := get i j hi
    obtain ⟨b', h3, h4⟩ := get i' j' hi'
    rcases hM.inj b b' j j' r o' o'' h2 h4 ha ha' with e | e
    · subst e; exact .inl (nodupB_spec hnd h1 h3)
    · exact .inr e
  · intro i j r o' hi ha hro
    obtain ⟨b, h1, h2⟩ := get i j hi
    exact hM.own b j r o' h2 ha hro
  · intro i j r o' hi ha hro
    obtain ⟨b, h1, h2⟩ := get i j hi
    exact hM.keep b j r o' h2 ha hro
  · intro i hi
    have hi : out.length ≤ i := hi
    have : foot[i]? = none := by simp; omega
    simp [phiK, this]
  · intro i j r o' hi ha
    obtain ⟨b, h1, h2⟩ := get i j hi
    exact hM.big b j r o' h2 ha
  · exact hM.os
  · exact hM.tape
  · exact hM.output
  · exact hM.size
  · exact hM.block
  · exact hM.frz

theorem ends_spec : ∀ {l r : List Alt}, ends l = some r → (∀ α ∈ l, ∀ id, α.x ≠ .e id) ∧ ∀ β, β ∈ r ↔ ∃ α ∈ l, β = ⟨.r, α.s, α.g, α.d, α.nx⟩
  | [], r, h => by simp only [ends, Option.some.injEq] at h; subst h; simp
  | a :: l, r, h => by
    unfold ends at h
    split at h
    · cases h
    · rename_i r' hr hne
      simp only [Option.some.injEq] at h; subst h
      obtain ⟨g1, g2⟩ := ends_spec hr
      refine ⟨fun α hα id => ?_, fun β => ?_⟩
      · rcases List.mem_cons.1 hα with rfl | hα
        · exact fun e => hne id e
        · exact g1 α hα id
      · simp only [List.mem_cons, g2, exists_eq_or_imp]
    · cases h

theorem evF_wp (hT : TOK P T) (hF : P.follows .mixedOrders = true) {k f : Nat} {lvs : List Nat} {LT : List (Nat × Sum)} {W : List Nat} {fn : Func} {c : Code} {args : List LV} {bs : List BC} {obs : List Prop} {lv : LV} {out : List (Option BC)} (hf : P.funcs[f]? = some fn) (hb : fn.body = some c)
    (hL : LOK P fn.ntmps lvs LT c 1) (h : evF P T k lvs LT W fn c args bs = some (obs, lv, out)) (ho : Alls obs) (φ : Phi) (vs : Array Value) (w : World) (may : Nat → Prop) (ha : All2 (LV.rel φ) args vs.toList)
    (hM : MR w may φ (memOf bs) (hdsIn bs out) (fun b => bs.length ≤ b) w) :
    Calls P f vs w fun e w' => ∃ v' φ', e = .returned v' ∧ φ.le φ' ∧ lv.rel φ' v' ∧ MR w may φ' (memAft bs out) (hdsAft bs out) (fun b => out.length ≤ b) w' := by
  unfold evF at h
  split at h
  · cases h
  rename_i hn
  have hlen := ha.length
  have hle : args.length ≤ fn.ntmps := Nat.le_of_ble_eq_true hn
  have hsz : vs.size = args.length := by simpa using hlen.symm
  split at h
  · cases h
  rename_i obs' alts he
  split at h
  · cases h
  rename_i l hl
  split at h
  case h_2 => cases h
  rename_i x s g d nx hi
  split at h
  case h_2 => cases h
  rename_i hcl
  simp only [Bool.and_eq_true] at hcl
  split at h
  case h_2 => cases h
  rename_i v' out' hfin
  simp only [Option.some.injEq, Prod.mk.injEq] at h
  obtain ⟨rfl, rfl, rfl⟩ := h
  unfold fin at hfin
  split at hfin
  case h_2 => cases hfin
  rename_i v hv
  unfold fin2 at hfin
  split at hfin
  case h_2 => cases hfin
  rename_i out2 hnd hout
  simp only [Option.some.injEq, Prod.mk.injEq] at hfin
  obtain ⟨rfl, rfl⟩ := hfin
  have hpre : ∀ i, i < bs.length → (List.range bs.length ++ (footGo (over d.mem (memOf bs)) (over d.hs (hdsW bs W)) 100 (refT (over d.hs (hdsW bs W)) v ++ refW (over d.mem (memOf bs)) (over d.hs (hdsW bs W)) W) (List.range bs.length).reverse).drop bs.length)[i]? = some i := by
    intro i hi
    rw [List.getElem?_append_left (by simpa using hi)]
    simp [hi]
  have hin := hdsW_in (bs := bs) rfl hpre hout
  rw [hin] at hM
  refine calls_of_wp hf hb ?_
  have s0 : SR fn.ntmps lvs w may φ (look (args0 args 0)) (memOf bs) (hdsW bs W) bs.length { tmps := vs ++ Array.replicate (fn.ntmps - vs.size) undef, defers := [] } w := by
    refine ⟨?_, by simp; omega, rfl, hM⟩
    intro t lv' hl
    unfold filt at hl
    split at hl
    · obtain ⟨_, h2⟩ := args0_look args 0 t lv' hl
      simp only [Nat.sub_zero] at h2
      obtain ⟨u, hu, hr⟩ := ha.get h2
      have hu' : vs[t]? = some u := by simpa using hu
      have ht : t < vs.size := (Array.getElem?_eq_some_iff.1 hu').1
      rw [Array.getD_eq_getD_getElem?, Array.getElem?_append_left ht, hu']
      exact hr
    · cases hl
  obtain ⟨hf1, hf2⟩ := s0.fresh
  obtain ⟨e1, e2⟩ := ends_spec hl
  have key := ev_wp hT hF k false c 1 _ _ _ _ he hL ho w may φ _ w s0 (bodyPost P fn fun e w' => ∃ v' φ', e = .returned v' ∧ φ.le φ' ∧ (keepV _ v).rel φ' v' ∧ MR w may φ' (memAft bs out2) (hdsAft bs out2) (fun b => out2.length ≤ b) w') fun x a' w' hg => by
    have hx : ∀ id, x ≠ .e id := by
      intro id hx
      obtain ⟨α, hα, hon⟩ := hg.1
      exact e1 α hα id (hon.1.trans hx)
    have key : ∀ α, On fn.ntmps lvs w may φ (look (args0 args 0)) (memOf bs) (hdsW bs W) x a' w' α → On fn.ntmps lvs w may φ (look (args0 args 0)) (memOf bs) (hdsW bs W) .r a' w' ⟨.r, α.s, α.g, α.d, α.nx⟩ := fun α hon => ⟨rfl, hon.2⟩
    obtain ⟨g1, g2⟩ := insAll_on hf1 hf2 (φ := φ) (x := .r) (a' := a') (w' := w') (w0 := w) (may := may) (n := fn.ntmps) hi (fun α hα => by cases hα) (fun β hβ => by
      obtain ⟨α, hα, rfl⟩ := (e2 β).1 hβ
      exact (hg.2 α hα).imp (key α) id)
    obtain ⟨β, hβ, hon⟩ := g2 (.inr (by
      obtain ⟨α, hα, hon⟩ := hg.1
      exact ⟨_, (e2 _).2 ⟨α, hα, rfl⟩, key α hon⟩))
    rw [List.mem_singleton] at hβ
    subst hβ
    obtain ⟨_, _, ψ, hψ, hs⟩ := hon
    obtain ⟨u, u1, u2⟩ := lres_run (P := P) (fn := fn) hs.tr hs.mr hv
    obtain ⟨f1, f2⟩ := fin_mr hM hψ hs.mr hcl.1 hcl.2 hnd hpre hout
    have hp : a'.defers = [] ∧ ∃ v', (results fn a'.tmps).run P w' = .ok v' w' ∧ ∃ v'' φ', Ending.returned v' = .returned v'' ∧ φ.le φ' ∧ (keepV _ v).rel φ' v'' ∧ MR w may φ' (memAft bs out2) (hdsAft bs out2) (fun b => out2.length ≤ b) w' :=
      ⟨hs.df, u, u1, u, _, rfl, f1, keepV_rel u2, f2⟩
    cases x with
    | n => exact hp
    | r => exact hp
    | e id => exact absurd rfl (hx id)
  simpa using key

end

/-- A call by the function's number. -/
def evG (P : Program) (T : Tab) (k f : Nat) (lv : List Nat) (LT : List (Nat × Sum)) (W : List Nat) (args : List LV) (bs : List BC) : Option (List Prop × LV × List (Option BC)) :=
  match P.funcs[f]? with
  | some fn => match fn.body with
    | some c => evF P T k lv LT W fn c args bs
    | none => none
  | none => none

theorem evG_ok {P : Program} {T : Tab} (hT : TOK P T) (hF : P.follows .mixedOrders = true) {k f : Nat} {lv : List Nat} {W : List Nat} : ConOK P f (evG P T k f lv [] W) := by
  intro args bs obs v out h ho φ vs w may ha hM
  unfold evG at h
  split at h
  · rename_i fn hf
    split at h
    · rename_i c hb
      exact evF_wp hT hF hf hb (LOK_nil c 1) h ho φ vs w may ha hM
    · cases h
  · cases h

theorem evG_okL {P : Program} {T : Tab} (hT : TOK P T) (hF : P.follows .mixedOrders = true) {k f : Nat} {lv : List Nat} {W : List Nat} {LT : List (Nat × Sum)} (hL : ∀ fn c, P.funcs[f]? = some fn → fn.body = some c → LOK P fn.ntmps lv LT c 1) : ConOK P f (evG P T k f lv LT W) := by
  intro args bs obs v out h ho φ vs w may ha hM
  unfold evG at h
  split at h
  · rename_i fn hf
    split at h
    · rename_i c hb
      exact evF_wp hT hF hf hb (hL fn c hf hb) h ho φ vs w may ha hM
    · cases h
  · cases h

end Go.Proofs.Ytcdejlgophpdjaa.V
end

section
namespace Go.Proofs.Ytcdejlgophpdjaa.V
open Go Go.RowKit

def symA : At → At
  | .bool _ b => .bool true b
  | .int _ k n => .int true k n
  | .str _ x => .str true x
  | x => x

def symL : List At → List At
  | [] => []
  | x :: r => symA x :: symL r

def symV : LV → LV
  | .a x => .a (symA x)
  | .g l => .g (symL l)
  | x => x

def symVs : List LV → List LV
  | [] => []
  | x :: r => symV x :: symVs r

def symO : Option At → Option At
  | some x => some (symA x)
  | none => none

def symOs : List (Option At) → List (Option At)
  | [] => []
  | x :: r => symO x :: symOs r

def symB (c : BC) : BC := ⟨c.h, symOs c.cs⟩

def symBs : List BC → List BC
  | [] => []
  | x :: r => symB x :: symBs r

def normC (c : Con) : Con := fun args bs => c (symVs args) (symBs bs)

theorem symA_rel {φ : Phi} {x : At} {v : Value} : (symA x).rel φ v ↔ x.rel φ v := by cases x <;> exact Iff.rfl

theorem symA_unk {x : At} : symA x = .unk ↔ x = .unk := by cases x <;> simp [symA]

theorem symL_rel {φ : Phi} : ∀ {l : List At} {vs : List Value}, All2 (At.rel φ) l vs → All2 (At.rel φ) (symL l) vs
  | _, _, .nil => .nil
  | _, _, .cons h t => .cons (symA_rel.2 h) (symL_rel t)

theorem symV_rel {φ : Phi} {x : LV} {v : Value} (h : x.rel φ v) : (symV x).rel φ v := by
  cases x with
  | a x => exact symA_rel.2 h
  | g l => obtain ⟨cs, e, k⟩ := h; exact ⟨cs, e, symL_rel k⟩
  | t l => exact h
  | u => exact h

theorem symVs_rel {φ : Phi} : ∀ {l : List LV} {vs : List Value}, All2 (LV.rel φ) l vs → All2 (LV.rel φ) (symVs l) vs
  | _, _, .nil => .nil
  | _, _, .cons h t => .cons (symV_rel h) (symVs_rel t)

theorem symOs_get : ∀ {l : List (Option At)} {i : Nat}, (symOs l)[i]? = (l[i]?).map symO
  | [], i => by simp [symOs]
  | x :: r, 0 => by simp [symOs]
  | x :: r, i + 1 => by simp [symOs, symOs_get (l := r)]

theorem symBs_get : ∀ {l : List BC} {i : Nat}, (symBs l)[i]? = (l[i]?).map symB
  | [], i => by simp [symBs]
  | x :: r, 0 => by simp [symBs]
  | x :: r, i + 1 => by simp [symBs, symBs_get (l := r)]

theorem symBs_len : ∀ {l : List BC}, (symBs l).length = l.length
  | [] => rfl
  | x :: r => by simp [symBs, symBs_len (l := r)]

theorem symB_cell (c : BC) (off : Nat) : cellOf (symB c) off = (cellOf c off).map symA := by
  unfold cellOf symB
  simp only [symOs_get]
  cases h : c.cs[off]? with
  | none => rfl
  | some x => cases x <;> rfl

/-- Cells by other marks. -/
theorem MR.marks {w0 : World} {may : Nat → Prop} {φ : Phi} {μ μ' : Mem} {ρ : Hds} {fr : Nat → Prop} {w : World} (h : MR w0 may φ μ ρ fr w) (hμ : ∀ k x, μ' k = some x → ∃ y, μ k = some y ∧ (y = .unk → x = .unk) ∧ ∀ v, y.rel φ v → x.rel φ v) : MR w0 may φ μ' ρ fr w := by
  refine ⟨fun k x hx => ?_, h.hdr, fun k x g hx hne hg => ?_, h.inj, h.own, h.keep, h.dom, h.big, h.os, h.tape, h.output, h.size, h.block, h.frz⟩
  · obtain ⟨y, h1, h2, h3⟩ := hμ k x hx
    rcases h.cell k y h1 with e | ⟨i, g1, g2, g3, r, o, arr, ty, fz, v, g4, g5, g6, g7⟩
    · exact .inl (h2 e)
    · exact .inr ⟨i, g1, g2, g3, r, o, arr, ty, fz, v, g4, g5, g6, h3 v g7⟩
  · obtain ⟨y, h1, h2, h3⟩ := hμ k x hx
    exact h.apart k y g h1 (fun e => hne (h2 e)) hg

theorem hdsIn_sym (bs : List BC) (out : List (Option BC)) : hdsIn (symBs bs) out = hdsIn bs out := by
  funext b
  unfold hdsIn
  rw [symBs_get]
  cases bs[b]? with
  | none => rfl
  | some c => rfl

theorem hdsAft_sym (bs : List BC) (out : List (Option BC)) : hdsAft (symBs bs) out = hdsAft bs out := by
  funext b
  unfold hdsAft aft
  cases h : out[b]? with
  | none => rfl
  | some x => cases x with
    | some c => rfl
    | none =>
      rw [symBs_get]
      cases bs[b]? with
      | none => rfl
      | some c => rfl

theorem normC_ok {P : Program} {f : Nat} {c : Con} (hc : ConOK P f c) : ConOK P f (normC c) := by
  intro args bs obs lv out h ho φ vs w may ha hM
  have h1 := hc (symVs args) (symBs bs) obs lv out h ho φ vs w may (symVs_rel ha) (by
    rw [hdsIn_sym, symBs_len]
    refine hM.marks fun k x hx => ?_
    unfold memOf at hx ⊢
    rw [symBs_get] at hx
    cases hb : bs[k / 65536]? with
    | none => rw [hb] at hx; simp at hx
    | some c =>
      rw [hb] at hx
      simp only [Option.map_some, symB_cell, Option.map_eq_some_iff] at hx
      obtain ⟨y, hy, rfl⟩ := hx
      exact ⟨y, hy, fun e => symA_unk.2 e, fun v hv => symA_rel.2 hv⟩)
  refine h1.mono fun e w' ⟨v', φ', e1, e2, e3, e4⟩ => ⟨v', φ', e1, e2, e3, ?_⟩
  rw [hdsAft_sym] at e4
  refine e4.marks fun k x hx => ?_
  unfold memAft aft at hx ⊢
  cases hb : out[k / 65536]? with
  | none => rw [hb] at hx; simp at hx
  | some o =>
    rw [hb] at hx
    cases o with
    | some c => exact ⟨x, hx, id, fun v hv => hv⟩
    | none =>
      simp only [symBs_get]
      cases hb2 : bs[k / 65536]? with
      | none => rw [hb2] at hx; simp at hx
      | some c =>
        rw [hb2] at hx
        refine ⟨symA x, ?_, fun e => symA_unk.1 e, fun v hv => symA_rel.1 hv⟩
        have hx : cellOf c (k % 65536) = some x := by
          simpa [cellOf] using hx
        have := symB_cell c (k % 65536)
        rw [hx] at this
        simpa [symB, roH, cellOf] using this

end Go.Proofs.Ytcdejlgophpdjaa.V
end

section
namespace Go.Proofs.Ytcdejlgophpdjaa.V
open Go Go.RowKit

/-- A loop's head: what is known of the temporaries, the blocks behind them (all of version 0). -/
structure HS where
  tm : List (Nat × LV)
  bs : List BC

def hdsB (bs : List BC) : Hds := fun b => match bs[b]? with
  | some c => some c.h
  | none => none

def entT (ρ : Hds) (foot : List Nat) (σ : Sig) : List Nat → List (Nat × LV)
  | [] => []
  | t :: r => match σ t with
    | some v => (t, renV ρ foot v) :: entT ρ foot σ r
    | none => entT ρ foot σ r

def symT : List (Nat × LV) → List (Nat × LV)
  | [] => []
  | (t, v) :: r => (t, symV v) :: symT r

def symH (h : HS) : HS := ⟨symT h.tm, symBs h.bs⟩

def rsH (lv ts : List Nat) (m : Nat) (σ : Sig) (μ : Mem) (ρ : Hds) : Option HS :=
  match blksOf μ ρ (List.range m) (List.range m) with
  | some bs => some ⟨entT ρ (List.range m) (filt lv σ) ts, bs⟩
  | none => none

def verOK (G : List Nat) (ρ : Hds) : Nat → Bool
  | 0 => true
  | i + 1 => match memN i G with
    | true => verOK G ρ i
    | false => match ρ i with
      | some h => match Nat.beq h.v 0 with
        | true => verOK G ρ i
        | false => false
      | none => false

def altsH (lv ts : List Nat) (W G : List Nat) (h : HS) : List Alt → Option (List (X × Bool × HS))
  | [] => some []
  | a :: r => match cleanM W h.bs.length a.d.mem && cleanH W h.bs.length a.d.hs && verOK G (over a.d.hs (hdsB h.bs)) h.bs.length with
    | true => match rsH lv ts h.bs.length (over a.d.tm (look h.tm)) (over a.d.mem (memOf h.bs)) (over a.d.hs (hdsB h.bs)), altsH lv ts W G h r with
      | some h', some l => some ((a.x, a.g, symH h') :: l)
      | _, _ => none
    | false => none

/-- One round. W: the blocks that it writes; G: those among them that may become more. -/
def bodyF (P : Program) (T : Tab) (n : Nat) (lv ts : List Nat) (LT : List (Nat × Sum)) (k : Nat) (W G : List Nat) (c : Code) (p : Nat) (h : HS) : Option (List Prop × List (X × Bool × HS)) :=
  match ev P T n lv LT k false c p (look h.tm) (memOf h.bs) (hdsB h.bs) h.bs.length with
  | some (obs, alts) => match altsH lv ts W G h alts with
    | some l => some (obs, l)
    | none => none
  | none => none

section
variable {P : Program} {T : Tab} {w0 : World} {may : Nat → Prop} {φ : Phi} {σ : Sig} {μ : Mem} {ρ : Hds} {fr : Nat → Prop} {w : World} {a : Act} {n : Nat} {lv ts : List Nat}

theorem hdsB_eq (bs : List BC) : hdsIn bs [] = hdsB bs := by
  funext b
  unfold hdsIn hdsB
  cases bs[b]? <;> simp

theorem entT_look {foot : List Nat} {t : Nat} {x : LV} : ∀ {l : List Nat}, look (entT ρ foot σ l) t = some x → ∃ v, σ t = some v ∧ x = renV ρ foot v
  | [], h => by simp [entT, look] at h
  | s :: r, h => by
    unfold entT at h
    split at h
    · rename_i v hv
      unfold look at h
      split at h
      · rename_i hb
        have := Nat.eq_of_beq_eq_true hb
        subst this
        simp only [Option.some.injEq] at h
        exact ⟨v, hv, h.symm⟩
      · exact entT_look h
    · exact entT_look h

theorem phiC_nil_get {foot : List Nat} {i : Nat} {j' : Inf} (h : phiC φ foot [] i = some j') : ∃ b j, foot[i]? = some b ∧ φ b = some j ∧ j' = ⟨j.ty, j.a, j.z, j.n, 0, j.ro⟩ := by
  obtain ⟨b, j, h1, h2, h3⟩ := phiC_get h
  exact ⟨b, j, h1, h2, by rw [h3]; simp [isKeep]⟩

theorem phiC_nil_mk {foot : List Nat} {i b : Nat} {j : Inf} (h : foot[i]? = some b) (hj : φ b = some j) : phiC φ foot [] i = some ⟨j.ty, j.a, j.z, j.n, 0, j.ro⟩ := by
  rw [phiC_mk h hj]; simp [isKeep]

/-- Blocks under other names, all of version 0; the world of the beginning stays. -/
theorem ren_mr (hM : MR w0 may φ μ ρ fr w) {foot : List Nat} {bs : List BC} (hbs : blksOf μ ρ foot foot = some bs) (hnd : nodupB foot = true) :
    MR w0 may (phiC φ foot []) (memOf bs) (hdsB bs) (fun b => bs.length ≤ b) w := by
  have hc := callee_mr (out := []) hM hbs hnd
  rw [hdsB_eq] at hc
  obtain ⟨hlen, _⟩ := blksOf_get hbs
  refine ⟨hc.cell, hc.hdr, hc.apart, hc.inj, ?_, ?_, hc.dom, hc.big, hM.os, hM.tape, hM.output, hM.size, hM.block, hM.frz⟩
  · intro i j r o hi ha hro
    obtain ⟨b, j1, h1, h2, rfl⟩ := phiC_nil_get hi
    exact hM.own b j1 r o h2 ha hro
  · intro i j r o hi ha hro
    obtain ⟨b, j1, h1, h2, rfl⟩ := phiC_nil_get hi
    exact hM.keep b j1 r o h2 ha hro

theorem nodup_range (m : Nat) : nodupB (List.range m) = true := by
  have key : ∀ (l : List Nat), l.Nodup → nodupB l = true := by
    intro l
    induction l with
    | nil => intro _; rfl
    | cons b r ih =>
      intro h
      rw [List.nodup_cons] at h
      unfold nodupB
      split
      · rename_i i hi
        have := (idxOf_spec hi).2
        rw [Nat.sub_zero] at this
        exact absurd (List.mem_of_getElem? this) h.1
      · exact ih h.2
  exact key _ List.nodup_range

theorem reset_sr {nx m : Nat} {h : HS} (hs : SR n lv w0 may φ σ μ ρ nx a w) (e : rsH lv ts m σ μ ρ = some h) :
    h.bs.length = m ∧ SR n lv w0 may (phiC φ (List.range m) []) (look h.tm) (memOf h.bs) (hdsB h.bs) m a w := by
  unfold rsH at e
  split at e
  · rename_i bs hbs
    simp only [Option.some.injEq] at e; subst e
    obtain ⟨hlen, _⟩ := blksOf_get hbs
    have hl : bs.length = m := by simpa using hlen
    refine ⟨hl, ?_, hs.sz, hs.df, by have := ren_mr hs.mr hbs (nodup_range m); rw [hl] at this; exact this⟩
    intro t x hx
    unfold filt at hx
    split at hx
    · obtain ⟨v, h1, rfl⟩ := entT_look hx
      exact renV_rel (ren_moves hs.mr) (hs.tr t v h1)
    · cases hx
  · cases e

/-- What is kept from head to head: blocks that don't become more stand where they stood. -/
def Kp (G : List Nat) (φ φ' : Phi) : Prop := ∀ i j, φ i = some j → ∃ j', φ' i = some j' ∧ j'.v = 0 ∧ (memN i G = false → j' = j)

theorem Kp.refl {G : List Nat} (h : ∀ i j, φ i = some j → j.v = 0) : Kp G φ φ := fun i j hj => ⟨j, hj, h i j hj, fun _ => rfl⟩
theorem Kp.trans {G : List Nat} {φ ψ χ : Phi} (h : Kp G φ ψ) (k : Kp G ψ χ) : Kp G φ χ := by
  intro i j hj
  obtain ⟨j1, h1, _, h3⟩ := h i j hj
  obtain ⟨j2, k1, k2, k3⟩ := k i j1 h1
  exact ⟨j2, k1, k2, fun hG => (k3 hG).trans (h3 hG)⟩

theorem verOK_spec {G : List Nat} : ∀ {m : Nat}, verOK G ρ m = true → ∀ i, i < m → memN i G = false → ∃ h, ρ i = some h ∧ h.v = 0
  | 0, _, i, hi, _ => by omega
  | m + 1, h, i, hi, hG => by
    unfold verOK at h
    by_cases e : i = m
    · subst e
      rw [hG] at h
      simp only at h
      split at h
      · rename_i hd hh
        split at h
        · rename_i hb; exact ⟨hd, hh, Nat.eq_of_beq_eq_true hb⟩
        · cases h
      · cases h
    · have hi' : i < m := by omega
      split at h
      · exact verOK_spec h i hi' hG
      · split at h
        · split at h
          · exact verOK_spec h i hi' hG
          · cases h
        · cases h

theorem reset_kp {m : Nat} {G : List Nat} {ψ : Phi} (hφ : ∀ i j, φ i = some j → i < m ∧ j.v = 0) (hle : φ.le ψ) (hM : MR w0 may ψ μ ρ fr w) (hv : verOK G ρ m = true) : Kp G φ (phiC ψ (List.range m) []) := by
  intro i j hj
  obtain ⟨hi, hjv⟩ := hφ i j hj
  obtain ⟨j', h1, h2⟩ := hle i j hj
  have hr : (List.range m)[i]? = some i := by simp [hi]
  refine ⟨_, phiC_nil_mk hr h1, rfl, fun hG => ?_⟩
  obtain ⟨hd, k1, k2⟩ := verOK_spec hv i hi hG
  obtain ⟨j2, k3, k4, _⟩ := hM.hdr i hd k1
  rw [h1] at k3; simp only [Option.some.injEq] at k3; subst k3
  rcases h2 with rfl | h2
  · cases j; simp at hjv; subst hjv; rfl
  · omega

theorem altsH_spec {W G : List Nat} {h : HS} : ∀ {alts : List Alt} {l : List (X × Bool × HS)}, altsH lv ts W G h alts = some l → ∀ q ∈ l, ∃ al ∈ alts, q.1 = al.x ∧ q.2.1 = al.g ∧ cleanM W h.bs.length al.d.mem = true ∧ cleanH W h.bs.length al.d.hs = true ∧ verOK G (over al.d.hs (hdsB h.bs)) h.bs.length = true ∧
      ∃ h', rsH lv ts h.bs.length (over al.d.tm (look h.tm)) (over al.d.mem (memOf h.bs)) (over al.d.hs (hdsB h.bs)) = some h' ∧ q.2.2 = symH h'
  | [], l, e => by simp only [altsH, Option.some.injEq] at e; subst e; intro q hq; cases hq
  | al :: r, l, e => by
    unfold altsH at e
    split at e
    · rename_i hc
      simp only [Bool.and_eq_true] at hc
      split at e
      · rename_i h' l' h1 h2
        simp only [Option.some.injEq] at e; subst e
        intro q hq
        rcases List.mem_cons.1 hq with rfl | hq
        · exact ⟨al, by simp, rfl, rfl, hc.1.1, hc.1.2, hc.2, h', h1, rfl⟩
        · obtain ⟨al', g1, g2⟩ := altsH_spec h2 q hq
          exact ⟨al', by simp [g1], g2⟩
      · cases e
    · cases e

theorem altsH_mem {W G : List Nat} {h : HS} : ∀ {alts : List Alt} {l : List (X × Bool × HS)}, altsH lv ts W G h alts = some l → ∀ al ∈ alts, ∃ q ∈ l, q.1 = al.x ∧ q.2.1 = al.g
  | [], l, e => by intro al hal; cases hal
  | al :: r, l, e => by
    unfold altsH at e
    split at e
    · split at e
      · rename_i h' l' h1 h2
        simp only [Option.some.injEq] at e; subst e
        intro al' hal
        rcases List.mem_cons.1 hal with rfl | hal
        · exact ⟨_, List.mem_cons_self, rfl, rfl⟩
        · obtain ⟨q, g1, g2⟩ := altsH_mem h2 al' hal
          exact ⟨q, by simp [g1], g2⟩
      · cases e
    · cases e

/-- The state of a head stands for the real one. -/
structure HR (n : Nat) (lv : List Nat) (w0 : World) (may : Nat → Prop) (φ : Phi) (h : HS) (a : Act) (w : World) : Prop where
  sr : SR n lv w0 may φ (look h.tm) (memOf h.bs) (hdsB h.bs) h.bs.length a w
  v0 : ∀ i j, φ i = some j → i < h.bs.length ∧ j.v = 0

theorem symT_look {t : Nat} {x : LV} : ∀ {l : List (Nat × LV)}, look (symT l) t = some x → ∃ y, look l t = some y ∧ x = symV y
  | [], h => by simp [symT, look] at h
  | (s, v) :: r, h => by
    unfold symT look at h
    unfold look
    split at h
    · rename_i hb
      simp only [Option.some.injEq] at h
      exact ⟨v, rfl, h.symm⟩
    · exact symT_look h

theorem hdsB_sym (bs : List BC) : hdsB (symBs bs) = hdsB bs := by
  funext b
  unfold hdsB
  rw [symBs_get]
  cases bs[b]? <;> rfl

theorem symH_hr {h : HS} (hr : HR n lv w0 may φ h a w) : HR n lv w0 may φ (symH h) a w := by
  refine ⟨⟨?_, hr.sr.sz, hr.sr.df, ?_⟩, fun i j hj => by rw [show (symH h).bs.length = h.bs.length from symBs_len]; exact hr.v0 i j hj⟩
  · intro s x hx
    unfold filt at hx
    split at hx
    · rename_i hs
      obtain ⟨y, h1, rfl⟩ := symT_look hx
      exact symV_rel (hr.sr.tr s y (by unfold filt; rw [hs]; exact h1))
    · cases hx
  · show MR w0 may φ (memOf (symBs h.bs)) (hdsB (symBs h.bs)) (fun b => (symBs h.bs).length ≤ b) w
    rw [hdsB_sym, symBs_len]
    refine hr.sr.mr.marks fun k x hx => ?_
    unfold memOf at hx ⊢
    rw [symBs_get] at hx
    cases hb : h.bs[k / 65536]? with
    | none => rw [hb] at hx; simp at hx
    | some c =>
      rw [hb] at hx
      simp only [Option.map_some, symB_cell, Option.map_eq_some_iff] at hx
      obtain ⟨y, hy, rfl⟩ := hx
      exact ⟨y, hy, fun e => symA_unk.2 e, fun v hv => symA_rel.2 hv⟩

theorem phiC_v0 {m : Nat} : ∀ i j, phiC φ (List.range m) [] i = some j → i < m ∧ j.v = 0 := by
  intro i j h
  obtain ⟨b, j1, h1, _, rfl⟩ := phiC_nil_get h
  have := (List.getElem?_eq_some_iff.1 h1).1
  exact ⟨by simpa using this, rfl⟩

/-- One round: from head to what it may end in. -/
theorem body_wp (hT : TOK P T) (hF : P.follows .mixedOrders = true) {LT : List (Nat × Sum)} {k : Nat} {W G : List Nat} {c : Code} {p : Nat} {h : HS} {obs : List Prop} {l : List (X × Bool × HS)}
    (e : bodyF P T n lv ts LT k W G c p h = some (obs, l)) (hL : LOK P n lv LT c p) (ho : Alls obs) (hr : HR n lv w0 may φ h a w) {Q : Exit → Act → World → Prop}
    (hQ : ∀ x a' w' q, q ∈ l → q.2.1 = true → q.1 = x → (∀ q' ∈ l, q'.2.1 = true → q'.1 = x ∧ ∃ χ, Kp G φ χ ∧ HR n lv w0 may χ q'.2.2 a' w' ∧ q'.2.2.bs.length = h.bs.length) → Q x.real a' w') : c.wp P Q a w := by
  unfold bodyF at e
  split at e
  · rename_i obs' alts hev
    split at e
    · rename_i l' hl
      simp only [Option.some.injEq, Prod.mk.injEq] at e
      obtain ⟨rfl, rfl⟩ := e
      have := ev_wp hT hF k false c p _ _ _ _ hev hL ho w0 may φ a w hr.sr Q fun x a' w' hg => by
        obtain ⟨⟨al, hal, hon⟩, hall⟩ := hg
        obtain ⟨q, hq, q1, q2⟩ := altsH_mem hl al hal
        refine hQ x a' w' q hq (q2.trans hon.2.1) (q1.trans hon.1) fun q' hq' hg' => ?_
        obtain ⟨al', m1, m2, m3, _, _, m4, h', m5, m6⟩ := altsH_spec hl q' hq'
        rcases hall al' m1 with hon' | hoff
        · obtain ⟨o1, _, ψ, o3, o4⟩ := hon'
          obtain ⟨r1, r2⟩ := reset_sr o4 m5
          refine ⟨m2.trans o1, _, reset_kp hr.v0 o3 o4.mr m4, ?_, ?_⟩
          · rw [m6]
            exact symH_hr ⟨by rw [r1]; exact r2, fun i j hj => by rw [r1]; exact phiC_v0 i j hj⟩
          · rw [m6]
            exact (show (symH h').bs.length = h'.bs.length from symBs_len).trans r1
        · rw [m3, hoff] at hg'; cases hg'
      simpa using this
    · cases e
  · cases e

end
end Go.Proofs.Ytcdejlgophpdjaa.V
end

section
namespace Go.Proofs.Ytcdejlgophpdjaa.V
open Go Go.RowKit

section
variable {α : Type}

def pick1 : List (X × Bool × α) → Option (X × α)
  | [] => none
  | (x, g, v) :: r => match g with
    | true => some (x, v)
    | false => pick1 r

/-- The rounds. -/
def lrun (st : α → List Prop × List (X × Bool × α)) : Nat → α → Option (X × α)
  | 0, _ => none
  | k + 1, v => match pick1 (st v).2 with
    | some (.n, v') => lrun st k v'
    | r => r

/-- What each of them asks for; and that they end. -/
def lok (st : α → List Prop × List (X × Bool × α)) : Nat → α → Prop
  | 0, _ => False
  | k + 1, v => Alls (st v).1 ∧ match pick1 (st v).2 with
    | some (.n, v') => lok st k v'
    | _ => True

theorem pick1_some : ∀ {l : List (X × Bool × α)} {q : X × Bool × α}, q ∈ l → q.2.1 = true → ∃ q0 ∈ l, q0.2.1 = true ∧ pick1 l = some (q0.1, q0.2.2)
  | [], q, h, _ => by cases h
  | (x, g, v) :: r, q, h, hg => by
    cases g with
    | true => exact ⟨_, List.mem_cons_self, rfl, rfl⟩
    | false =>
      rcases List.mem_cons.1 h with rfl | h
      · cases hg
      · obtain ⟨q0, h1, h2, h3⟩ := pick1_some h hg
        exact ⟨q0, List.mem_cons_of_mem _ h1, h2, h3⟩
end

section
variable {P : Program} {T : Tab} {w0 : World} {may : Nat → Prop} {n : Nat} {lv ts : List Nat} {α : Type}

theorem rounds_ok (hT : TOK P T) (hF : P.follows .mixedOrders = true) {LT : List (Nat × Sum)} {kf : Nat} {W G : List Nat} {c : Code} {p : Nat} {hd : α → HS} {st : α → List Prop × List (X × Bool × α)}
    (hE : ∀ v, bodyF P T n lv ts LT kf W G c p (hd v) = some ((st v).1, (st v).2.map fun q => (q.1, q.2.1, hd q.2.2))) (hL : LOK P n lv LT c p) {Q : Exit → Act → World → Prop} :
    ∀ (k : Nat) (v : α) (φ : Phi) (a : Act) (w : World), HR n lv w0 may φ (hd v) a w → lok st k v → (∀ x v' ψ a' w', lrun st k v = some (x, v') → x ≠ .n → Kp G φ ψ → HR n lv w0 may ψ (hd v') a' w' → (hd v').bs.length = (hd v).bs.length → Q x.real a' w') → Code.rounds P c Q k a w
  | 0, v, φ, a, w, _, hk, _ => hk.elim
  | k + 1, v, φ, a, w, hr, hk, hQ => by
    obtain ⟨ho, hk⟩ := hk
    rw [rounds_succ]
    have := body_wp hT hF (hE v) hL ho hr (Q := Exit.then (Code.rounds P c Q k) Q) fun x a' w' q hq hg _ hall => by
      obtain ⟨q1, hq1, rfl⟩ := List.mem_map.1 hq
      obtain ⟨q0, h1, h2, h3⟩ := pick1_some hq1 hg
      obtain ⟨e, χ, c1, c2, c3⟩ := hall _ (List.mem_map.2 ⟨q0, h1, rfl⟩) h2
      simp only at e c2 c3
      rw [h3] at hk
      cases x with
      | n =>
        rw [e] at hk h3
        have := rounds_ok hT hF hE hL (Q := Q) k q0.2.2 χ a' w' c2 hk fun x' v' ψ a'' w'' hrun hx hkp hhr hlen => hQ x' v' ψ a'' w'' (by simp only [lrun, h3]; exact hrun) hx (c1.trans hkp) hhr (hlen.trans c3)
        show Code.rounds P c Q k a' w'
        simpa using this
      | e i =>
        rw [e] at h3
        exact hQ (.e i) q0.2.2 χ a' w' (by simp only [lrun, h3]) (by simp) c1 c2 c3
      | r =>
        rw [e] at h3
        exact hQ .r q0.2.2 χ a' w' (by simp only [lrun, h3]) (by simp) c1 c2 c3
    simpa using this
end

/-! Into the loop. -/
def roW (W : List Nat) : Nat → List BC → List BC
  | _, [] => []
  | i, c :: r => (match memN i W with
    | true => c
    | false => ⟨roH c.h, c.cs⟩) :: roW W (i + 1) r

/-- Slices that are nil and are to grow: a block of none behind each. -/
def conv : List (Nat × List Kd) → HS → HS
  | [], h => h
  | (t, sh) :: r, h => match look h.tm t with
    | some (.a .nils) => conv r ⟨(t, .a (.vec h.bs.length 0 sh.length)) :: h.tm, h.bs ++ [⟨⟨0, 0, false, some ⟨0, sh, [], none⟩⟩, []⟩]⟩
    | _ => conv r h

/-- Only what is asked for, in this order. -/
def ordT (tm : List (Nat × LV)) : List Nat → List (Nat × LV)
  | [] => []
  | t :: r => match look tm t with
    | some v => (t, v) :: ordT tm r
    | none => ordT tm r

def ordH (lv : List Nat) (h : HS) : HS := ⟨ordT h.tm lv, h.bs⟩

/-! Out of the loop. -/
def bumpC (G : List Nat) : List (Nat × Nat) → Bool
  | [] => true
  | (b, _) :: r => match memN b G with
    | true => false
    | false => bumpC G r

def bumpA (G : List Nat) : At → At
  | .ptr b o => match memN b G with
    | true => .unk
    | false => .ptr b o
  | .prw s b v st e i j => match memN b G with
    | true => .prw s b (v + 1) st e i j
    | false => .prw s b v st e i j
  | .slc s b v st e off len => match memN b G with
    | true => .slc s b (v + 1) st e off len
    | false => .slc s b v st e off len
  | .vec b v e => match memN b G with
    | true => .vec b (v + 1) e
    | false => .vec b v e
  | .fn f caps => match bumpC G caps with
    | true => .fn f caps
    | false => .unk
  | x => x

def bumpL (G : List Nat) : List At → List At
  | [] => []
  | x :: r => bumpA G x :: bumpL G r

def bumpV (G : List Nat) : LV → LV
  | .a x => .a (bumpA G x)
  | .g l => .g (bumpL G l)
  | _ => .u

def bumpOs (G : List Nat) : List (Option At) → List (Option At)
  | [] => []
  | some x :: r => some (bumpA G x) :: bumpOs G r
  | none :: r => none :: bumpOs G r

def outL (W G : List Nat) : Nat → List BC → List (Option BC)
  | _, [] => []
  | i, c :: r => (match memN i W with
    | true => some ⟨⟨(match memN i G with
      | true => 1
      | false => 0), c.h.z, c.h.ro, c.h.R⟩, bumpOs G c.cs⟩
    | false => none) :: outL W G (i + 1) r

/-- Is it fit to be left: what becomes more is written; what is new is written. -/
def outOK (W G : List Nat) (m : Nat) : Nat → List BC → Bool
  | _, [] => true
  | i, c :: r => match (memN i W || Nat.blt i m) && (!memN i G || (memN i W && c.h.grows)) with
    | true => outOK W G m (i + 1) r
    | false => false

def tmL (G : List Nat) (ρ : Hds) (foot : List Nat) (id : Nat) (tm : List (Nat × LV)) : List Nat → List (Nat × LV)
  | [] => []
  | t :: r => (t, match look tm t with
    | some v => match backV ρ foot id (bumpV G v) with
      | some u' => u'
      | none => .u
    | none => .u) :: tmL G ρ foot id tm r

def refTs (σ : Sig) (ρ : Hds) : List Nat → List Nat
  | [] => []
  | t :: r => (match σ t with
    | some v => refV ρ v
    | none => []) ++ refTs σ ρ r

def isX {α : Type} (x : X) : Option (X × α) → Bool
  | some (y, _) => xeq x y
  | none => false

def valOf {α : Type} [Inhabited α] : Option (X × α) → α
  | some (_, v) => v
  | none => default

def altsL (id : Nat) (bs : List X) (d : Pre) (nx : Nat) (g : X → Bool) : List Alt :=
  match bs with
  | [] => []
  | x :: r => out1 id ⟨x, true, g x, d, nx⟩ :: altsL id r d nx g

def loopO (XS : List X) (lv W G : List Nat) (id : Nat) (ρ : Hds) (nx : Nat) (foot : List Nat) (bs0 : List BC) (ok : Prop) (g : X → Bool) (h : HS) : Outs :=
  match outOK W G bs0.length 0 h.bs && Nat.ble bs0.length h.bs.length && (cellBound (outL W G 0 h.bs) && zOK bs0 (outL W G 0 h.bs) && vOK ρ foot nx 0 (outL W G 0 h.bs) && Nat.ble (outL W G 0 h.bs).length (foot.length + 16) && allSet ((outL W G 0 h.bs).drop foot.length)) with
  | true => match backBlks ρ foot nx 0 (outL W G 0 h.bs) with
    | (cs, hs) => some ([ok], altsL id XS ⟨tmL G ρ foot nx h.tm lv, pushL cs [], pushL hs []⟩ (nx + 16) g)
  | false => none

def loopI {α : Type} [Inhabited α] (hd : α → HS) (rd : HS → Option α) (st : α → List Prop × List (X × Bool × α)) (F : Nat) (XS : List X) (lv ts W G : List Nat) (CV : List (Nat × List Kd)) (id : Nat) (σ : Sig) (μ : Mem) (ρ : Hds) (nx : Nat) (foot : List Nat) : Outs :=
  match blksOf μ ρ foot foot, nodupB foot with
  | some bs0, true => match rd (symH (ordH ts (conv CV ⟨entT ρ foot (filt lv σ) lv, roW W 0 bs0⟩))) with
    | some v0 => loopO XS lv W G id ρ nx foot bs0 (lok st F v0) (fun x => isX x (lrun st F v0)) (hd (valOf (lrun st F v0)))
    | none => none
  | _, _ => none

/-- A loop in its block, to the code around it. -/
def loopS {α : Type} [Inhabited α] (hd : α → HS) (rd : HS → Option α) (st : α → List Prop × List (X × Bool × α)) (F : Nat) (XS : List X) (lv ts W G : List Nat) (CV : List (Nat × List Kd)) (id : Nat) : Sum := fun σ μ ρ nx =>
  loopI hd rd st F XS lv ts W G CV id σ μ ρ nx (footGo μ ρ 100 (refTs (filt lv σ) ρ ts) [])

/-! It is so. -/
section
variable {P : Program} {T : Tab} {w0 : World} {may : Nat → Prop} {φ : Phi} {σ : Sig} {μ : Mem} {ρ : Hds} {fr : Nat → Prop} {w : World} {a : Act} {n : Nat} {lv : List Nat}

theorem roW_get {W : List Nat} : ∀ {bs : List BC} {k i : Nat}, (roW W k bs)[i]? = (bs[i]?).map fun c => match memN (k + i) W with
    | true => c
    | false => ⟨roH c.h, c.cs⟩
  | [], k, i => by simp [roW]
  | c :: r, k, 0 => by simp [roW]
  | c :: r, k, i + 1 => by
    simp only [roW, List.getElem?_cons_succ]
    rw [roW_get (bs := r), show k + 1 + i = k + (i + 1) by omega]

theorem roW_mem {W : List Nat} {bs : List BC} : memOf (roW W 0 bs) = memOf bs := by
  funext k
  unfold memOf
  rw [roW_get]
  cases bs[k / 65536]? with
  | none => rfl
  | some c => simp only [Option.map_some]; split <;> rfl

theorem outL_get {W G : List Nat} : ∀ {bs : List BC} {k i : Nat}, (outL W G k bs)[i]? = (bs[i]?).map fun c => match memN (k + i) W with
    | true => some ⟨⟨(match memN (k + i) G with
      | true => 1
      | false => 0), c.h.z, c.h.ro, c.h.R⟩, bumpOs G c.cs⟩
    | false => none
  | [], k, i => by simp [outL]
  | c :: r, k, 0 => by simp [outL]
  | c :: r, k, i + 1 => by
    simp only [outL, List.getElem?_cons_succ]
    rw [outL_get (bs := r), show k + 1 + i = k + (i + 1) by omega]

theorem outL_len {W G : List Nat} : ∀ {bs : List BC} {k : Nat}, (outL W G k bs).length = bs.length
  | [], k => rfl
  | c :: r, k => by simp [outL, outL_len (bs := r)]

theorem outOK_get {W G : List Nat} {m : Nat} : ∀ {bs : List BC} {k i : Nat} {c : BC}, outOK W G m k bs = true → bs[i]? = some c → (memN (k + i) W = true ∨ k + i < m) ∧ (memN (k + i) G = true → memN (k + i) W = true ∧ c.h.grows = true)
  | [], k, i, c, _, h => by simp at h
  | c0 :: r, k, i, c, hok, h => by
    unfold outOK at hok
    split at hok
    · rename_i hb
      cases i with
      | zero =>
        simp at h; subst h
        simp only [Nat.add_zero, Bool.and_eq_true, Bool.or_eq_true, Bool.not_eq_true'] at hb ⊢
        refine ⟨hb.1.imp id fun e => Nat.le_of_ble_eq_true e, fun hG => ?_⟩
        rcases hb.2 with e | e
        · rw [hG] at e; cases e
        · exact e
      | succ i =>
        have := outOK_get (k := k + 1) (i := i) hok (by simpa using h)
        rw [show k + 1 + i = k + (i + 1) by omega] at this
        exact this
    · cases hok

theorem hdsIn_ro {W G : List Nat} {bs0 bsK : List BC} (hl : bs0.length ≤ bsK.length) : hdsIn bs0 (outL W G 0 bsK) = hdsB (roW W 0 bs0) := by
  funext b
  unfold hdsIn hdsB
  rw [roW_get, outL_get]
  cases h0 : bs0[b]? with
  | none => rfl
  | some c =>
    have hb : b < bsK.length := by have := (List.getElem?_eq_some_iff.1 h0).1; omega
    simp only [hb, getElem?_pos, Option.map_some, Nat.zero_add]
    cases memN b W <;> rfl

theorem MR.fr_eq {fr' : Nat → Prop} (h : MR w0 may φ μ ρ fr w) (e : ∀ b, fr' b ↔ fr b) : MR w0 may φ μ ρ fr' w := h.drop fun b hb => (e b).1 hb

/-- Blocks that become more, by another version. -/
def phiG (φ : Phi) (G : List Nat) : Phi := fun i => match φ i with
  | some j => match memN i G with
    | true => some ⟨j.ty, j.a, j.z, j.n, 1, j.ro⟩
    | false => some j
  | none => none

theorem phiG_get {G : List Nat} {i : Nat} {j' : Inf} (h : phiG φ G i = some j') : ∃ j, φ i = some j ∧ j'.ty = j.ty ∧ j'.a = j.a ∧ j'.z = j.z ∧ j'.n = j.n ∧ j'.ro = j.ro ∧ (memN i G = false → j' = j) ∧ (memN i G = true → j'.v = 1) := by
  unfold phiG at h
  split at h
  · rename_i j hj
    split at h
    · rename_i hG
      simp only [Option.some.injEq] at h; subst h
      exact ⟨j, hj, rfl, rfl, rfl, rfl, rfl, (fun e => by rw [hG] at e; cases e), fun _ => rfl⟩
    · rename_i hG
      simp only [Option.some.injEq] at h; subst h
      exact ⟨j, hj, rfl, rfl, rfl, rfl, rfl, (fun _ => rfl), (fun e => by rw [hG] at e; cases e)⟩
  · cases h

theorem phiG_mk {G : List Nat} {i : Nat} {j : Inf} (h : φ i = some j) : phiG φ G i = some (match memN i G with
    | true => ⟨j.ty, j.a, j.z, j.n, 1, j.ro⟩
    | false => j) := by
  unfold phiG; rw [h]; simp only; split <;> rfl

theorem bump_moves {G : List Nat} (hv : ∀ i j, φ i = some j → j.v = 0) {b v : Nat} : Moves φ (phiG φ G) b v b (match memN b G with
    | true => v + 1
    | false => v) := by
  intro j hj hle
  have h0 := hv b j hj
  refine ⟨_, phiG_mk hj, ?_, ?_⟩
  · cases memN b G
    · exact hle
    · show v + 1 ≤ 1; omega
  · cases memN b G
    · intro e; exact ⟨e, rfl, rfl, rfl⟩
    · intro e
      have e : v + 1 = 1 := e
      exact ⟨by omega, rfl, rfl, rfl⟩

theorem bumpC_rel {G : List Nat} (hv : ∀ i j, φ i = some j → j.v = 0) : ∀ {l : List (Nat × Nat)} {vs : List Value}, bumpC G l = true → All2 (prel φ) l vs → All2 (prel (phiG φ G)) l vs
  | [], vs, _, h => by cases h; exact .nil
  | (b, o) :: r, vs, hb, h => by
    unfold bumpC at hb
    split at hb
    · cases hb
    · rename_i hG
      cases h with
      | cons x y =>
        refine .cons (prel_move x ?_) (bumpC_rel hv hb y)
        have := bump_moves hv (G := G) (b := b) (v := 0)
        rw [hG] at this
        exact this

theorem bumpA_rel {G : List Nat} (hv : ∀ i j, φ i = some j → j.v = 0) {x : At} {v : Value} (h : x.rel φ v) : (bumpA G x).rel (phiG φ G) v := by
  have hu := At.rel_one h
  cases x with
  | bool s b => exact h
  | int s k n => exact h
  | str s y => exact h
  | nil => exact h
  | nils => exact h
  | nilfn => exact h
  | unk => exact h
  | val u => exact h
  | ptr b o =>
    simp only [bumpA]
    have := bump_moves hv (G := G) (b := b) (v := 0)
    cases hG : memN b G with
    | true => exact hu
    | false => rw [hG] at this; exact prel_move h this
  | prw s b ver st e p q =>
    simp only [bumpA]
    have := bump_moves hv (G := G) (b := b) (v := ver)
    cases hG : memN b G <;> rw [hG] at this <;> exact vrel_move prwR_move h this
  | slc s b ver st e off len =>
    simp only [bumpA]
    have := bump_moves hv (G := G) (b := b) (v := ver)
    cases hG : memN b G <;> rw [hG] at this <;> exact vrel_move slcR_move h this
  | vec b ver e =>
    simp only [bumpA]
    have := bump_moves hv (G := G) (b := b) (v := ver)
    cases hG : memN b G <;> rw [hG] at this <;> exact vrel_move vecR_move h this
  | fn f caps =>
    simp only [bumpA]
    split
    · rename_i hb
      obtain ⟨cs, e, g⟩ := h
      exact ⟨cs, e, bumpC_rel hv hb g⟩
    · exact hu

theorem bumpL_rel {G : List Nat} (hv : ∀ i j, φ i = some j → j.v = 0) : ∀ {l : List At} {vs : List Value}, All2 (At.rel φ) l vs → All2 (At.rel (phiG φ G)) (bumpL G l) vs
  | _, _, .nil => .nil
  | _, _, .cons h t => .cons (bumpA_rel hv h) (bumpL_rel hv t)

theorem bumpV_rel {G : List Nat} (hv : ∀ i j, φ i = some j → j.v = 0) {x : LV} {v : Value} (h : x.rel φ v) : (bumpV G x).rel (phiG φ G) v := by
  cases x with
  | a x => exact bumpA_rel hv h
  | g l => obtain ⟨cs, e, k⟩ := h; exact ⟨cs, e, bumpL_rel hv k⟩
  | t l => trivial
  | u => trivial

theorem bumpOs_get {G : List Nat} : ∀ {l : List (Option At)} {i : Nat} {x : At}, (bumpOs G l)[i]? = some (some x) → ∃ y, l[i]? = some (some y) ∧ x = bumpA G y
  | [], i, x, h => by simp [bumpOs] at h
  | some y :: r, 0, x, h => by simp [bumpOs] at h; exact ⟨y, by simp, h.symm⟩
  | none :: r, 0, x, h => by simp [bumpOs] at h
  | some y :: r, i + 1, x, h => by obtain ⟨z, h1, h2⟩ := bumpOs_get (l := r) (by simpa [bumpOs] using h); exact ⟨z, by simpa using h1, h2⟩
  | none :: r, i + 1, x, h => by obtain ⟨z, h1, h2⟩ := bumpOs_get (l := r) (by simpa [bumpOs] using h); exact ⟨z, by simpa using h1, h2⟩

/-- Out of the loop: what the code around is handed. -/
theorem leave_mr {W G : List Nat} {bs0 : List BC} {hK : HS} {φK : Phi} {w' : World} {a' : Act} (hM0 : MR w0 may φ (memOf bs0) (hdsIn bs0 (outL W G 0 hK.bs)) (fun b => bs0.length ≤ b) w) (h0 : w0 = w)
    (hv0 : ∀ i j, φ i = some j → j.v = 0) (hkp : Kp G φ φK) (hr : HR n lv w0 may φK hK a' w') (hok : outOK W G bs0.length 0 hK.bs = true) (hl : bs0.length ≤ hK.bs.length) :
    φ.le (phiG φK G) ∧ MR w0 may (phiG φK G) (memAft bs0 (outL W G 0 hK.bs)) (hdsAft bs0 (outL W G 0 hK.bs)) (fun b => (outL W G 0 hK.bs).length ≤ b) w' := by
  have hvK : ∀ i j, φK i = some j → j.v = 0 := fun i j hj => (hr.v0 i j hj).2
  have hM := hr.sr.mr
  have hle : φ.le (phiG φK G) := by
    intro i j hj
    obtain ⟨j', h1, h2, h3⟩ := hkp i j hj
    refine ⟨_, phiG_mk h1, ?_⟩
    cases hG : memN i G with
    | true => right; show j.v < 1; rw [hv0 i j hj]; omega
    | false => left; exact (h3 hG).symm
  refine ⟨hle, ?_⟩
  -- what is told of a block
  have told : ∀ i c, aft bs0 (outL W G 0 hK.bs) i = some c → (∃ c1, hK.bs[i]? = some c1 ∧ memN i W = true ∧ (memN i G = true → c1.h.grows = true) ∧ c = ⟨⟨(match memN i G with
      | true => 1
      | false => 0), c1.h.z, c1.h.ro, c1.h.R⟩, bumpOs G c1.cs⟩) ∨ (memN i W = false ∧ memN i G = false ∧ ∃ c0, bs0[i]? = some c0 ∧ c = ⟨roH c0.h, c0.cs⟩) := by
    intro i c h
    unfold aft at h
    rw [outL_get] at h
    cases hb : hK.bs[i]? with
    | none => rw [hb] at h; simp at h
    | some c1 =>
      rw [hb] at h
      obtain ⟨k1, k2⟩ := outOK_get hok hb
      rw [Nat.zero_add] at k1 k2
      simp only [Option.map_some, Nat.zero_add] at h
      cases hW : memN i W with
      | true =>
        rw [hW] at h
        simp only [Option.some.injEq] at h
        exact .inl ⟨c1, rfl, rfl, fun hG => (k2 hG).2, h.symm⟩
      | false =>
        rw [hW] at h
        simp only at h
        have hG : memN i G = false := by
          cases hG : memN i G with
          | false => rfl
          | true => have := (k2 hG).1; rw [hW] at this; cases this
        split at h
        · rename_i c0 hc0
          simp only [Option.some.injEq] at h
          exact .inr ⟨rfl, hG, c0, hc0, h.symm⟩
        · cases h
  -- a block that is not written
  have keep : ∀ i c0, memN i W = false → memN i G = false → bs0[i]? = some c0 → hdsIn bs0 (outL W G 0 hK.bs) i = some (roH c0.h) ∧ ∃ j, φ i = some j ∧ phiG φK G i = some j ∧ ∀ r o, j.a = some (r, o) → w'.heap[r]? = w.heap[r]? := by
    intro i c0 hW hG hc0
    have hi : i < hK.bs.length := by have := (List.getElem?_eq_some_iff.1 hc0).1; omega
    have e1 : hdsIn bs0 (outL W G 0 hK.bs) i = some (roH c0.h) := by
      unfold hdsIn
      rw [hc0, outL_get]
      simp [hi, hW]
    obtain ⟨j, g1, g2⟩ := hM0.hdr i _ e1
    refine ⟨e1, j, g1, ?_, fun r o ha => ?_⟩
    · obtain ⟨j', h1, _, h3⟩ := hkp i j g1
      rw [phiG_mk h1, hG, h3 hG]
    · have hro : j.ro = true := g2.2.1
      obtain ⟨k1, k2⟩ := hM0.keep i j r o g1 ha hro
      rw [hM.block r k1 k2, h0]
  have hdr : ∀ i h, hdsAft bs0 (outL W G 0 hK.bs) i = some h → (∃ h1, hdsB hK.bs i = some h1 ∧ memN i W = true ∧ (memN i G = true → h1.grows = true) ∧ h = ⟨(match memN i G with
      | true => 1
      | false => 0), h1.z, h1.ro, h1.R⟩) ∨ (memN i W = false ∧ memN i G = false ∧ ∃ c0, bs0[i]? = some c0 ∧ h = roH c0.h) := by
    intro i h hh
    unfold hdsAft at hh
    split at hh
    · rename_i c hc
      simp only [Option.some.injEq] at hh; subst hh
      rcases told i c hc with ⟨c1, g1, g2, g3, rfl⟩ | ⟨g1, g2, c0, g3, rfl⟩
      · exact .inl ⟨c1.h, by simp [hdsB, g1], g2, g3, rfl⟩
      · exact .inr ⟨g1, g2, c0, g3, rfl⟩
    · cases hh
  have cell : ∀ k x, memAft bs0 (outL W G 0 hK.bs) k = some x → (∃ y, memOf hK.bs k = some y ∧ memN (k / 65536) W = true ∧ x = bumpA G y) ∨ (memN (k / 65536) W = false ∧ memN (k / 65536) G = false ∧ (∃ c0, bs0[k / 65536]? = some c0) ∧ memOf bs0 k = some x) := by
    intro k x hx
    unfold memAft at hx
    split at hx
    · rename_i c hc
      rcases told _ c hc with ⟨c1, g1, g2, g3, rfl⟩ | ⟨g1, g2, c0, g3, rfl⟩
      · unfold cellOf at hx
        split at hx
        · rename_i y hy
          simp only [Option.some.injEq] at hx; subst hx
          obtain ⟨z, k1, k2⟩ := bumpOs_get hy
          exact .inl ⟨z, by simp [memOf, g1, cellOf, k1], g2, k2⟩
        · cases hx
      · exact .inr ⟨g1, g2, ⟨c0, g3⟩, by simp only [memOf, g3]; exact hx⟩
    · cases hx
  constructor
  · intro k x hx
    rcases cell k x hx with ⟨y, h1, h2, rfl⟩ | ⟨h1, h2, ⟨c0, h3⟩, h4⟩
    · by_cases hy : y = .unk
      · subst hy; exact .inl rfl
      · rcases hM.cell k y h1 with e | ⟨j, g1, g2, g3, r, o, arr, ty, fz, v, g4, g5, g6, g7⟩
        · exact absurd e hy
        · have hG : memN (k / 65536) G = false := by
            cases hG : memN (k / 65536) G with
            | false => rfl
            | true =>
              exfalso
              obtain ⟨c1, q1⟩ : ∃ c1, hK.bs[k / 65536]? = some c1 := by
                unfold memOf at h1
                split at h1
                · rename_i c1 hc1; exact ⟨c1, hc1⟩
                · cases h1
              have := (outOK_get hok q1).2 (by rw [Nat.zero_add]; exact hG)
              have hap := hM.apart k y c1.h h1 hy (by simp [hdsB, q1])
              have hg := hap.1
              rw [this.2] at hg
              cases hg
          refine .inr ⟨j, ?_, g2, g3, r, o, arr, ty, fz, v, g4, g5, g6, bumpA_rel hvK g7⟩
          rw [phiG_mk g1, hG]
    · rcases hM0.cell k x h4 with e | hc
      · exact .inl e
      · obtain ⟨j, g1, g2⟩ := hc
        obtain ⟨_, j', k1, k2, k3⟩ := keep _ c0 h1 h2 h3
        rw [k1] at g1; simp only [Option.some.injEq] at g1; subst g1
        exact .inr ⟨j', k2, g2.other hle k3⟩
  · intro i h hh
    rcases hdr i h hh with ⟨h1, g1, g2, g3, rfl⟩ | ⟨g1, g2, c0, g3, rfl⟩
    · obtain ⟨j, k1, k2, k3, k4, k5⟩ := hM.hdr i h1 g1
      refine ⟨_, phiG_mk k1, ?_⟩
      cases hG : memN i G with
      | true =>
        refine ⟨rfl, k3, fun hg => ?_, k5⟩
        have := g3 hG
        rw [show Hd.grows ⟨1, h1.z, h1.ro, h1.R⟩ = h1.grows from rfl, this] at hg
        cases hg
      | false =>
        exact ⟨hvK i j k1, k3, fun hg => k4 hg, k5⟩
    · obtain ⟨e1, j, k1, k2, k3⟩ := keep i c0 g1 g2 g3
      obtain ⟨j', q1, q2⟩ := hM0.hdr i _ e1
      rw [k1] at q1; simp only [Option.some.injEq] at q1; subst q1
      exact ⟨j, k2, q2.other k3⟩
  · intro k x h hx hne hh
    rcases cell k x hx with ⟨y, h1, h2, rfl⟩ | ⟨h1, h2, ⟨c0, h3⟩, h4⟩
    · rcases hdr _ h hh with ⟨hh1, g1, g2, g3, rfl⟩ | ⟨g1, _⟩
      · have hy : y ≠ .unk := fun e => by subst e; exact hne rfl
        exact hM.apart k y hh1 h1 hy g1
      · rw [h2] at g1; cases g1
    · rcases hdr _ h hh with ⟨_, _, g2, _⟩ | ⟨_, _, c1, g3, rfl⟩
      · rw [h1] at g2; cases g2
      · rw [h3] at g3; simp only [Option.some.injEq] at g3; subst g3
        exact hM0.apart k x _ h4 hne (keep _ c0 h1 h2 h3).1
  · intro i i' j j' r o o' hi hi' ha ha'
    obtain ⟨j1, h1, _, h3, _, _, h6, _⟩ := phiG_get hi
    obtain ⟨j2, g1, _, g3, _, _, g6, _⟩ := phiG_get hi'
    rcases hM.inj i i' j1 j2 r o o' h1 g1 (h3 ▸ ha) (g3 ▸ ha') with e | ⟨e1, e2⟩
    · exact .inl e
    · exact .inr ⟨h6.trans e1, g6.trans e2⟩
  · intro i j r o hi ha hro
    obtain ⟨j1, h1, h2, h3, h4, _, h6, _⟩ := phiG_get hi
    rw [h2, h4]
    exact hM.own i j1 r o h1 (h3 ▸ ha) (h6 ▸ hro)
  · intro i j r o hi ha hro
    obtain ⟨j1, h1, h2, h3, h4, _, h6, _⟩ := phiG_get hi
    exact hM.keep i j1 r o h1 (h3 ▸ ha) (h6 ▸ hro)
  · intro i hi
    have hi : (outL W G 0 hK.bs).length ≤ i := hi
    rw [outL_len] at hi
    have := hM.dom i hi
    simp [phiG, this]
  · intro i j r o hi ha
    obtain ⟨j1, h1, h2, h3, _⟩ := phiG_get hi
    exact hM.big i j1 r o h1 (h3 ▸ ha)
  · exact hM.os
  · exact hM.tape
  · exact hM.output
  · exact hM.size
  · exact hM.block
  · exact hM.frz

end
end Go.Proofs.Ytcdejlgophpdjaa.V
end

section
namespace Go.Proofs.Ytcdejlgophpdjaa.V
open Go Go.RowKit

section
variable {P : Program} {T : Tab} {w0 : World} {may : Nat → Prop} {φ : Phi} {σ : Sig} {μ : Mem} {ρ : Hds} {fr : Nat → Prop} {w : World} {a : Act} {n : Nat} {lv ts : List Nat}

def phiN (φ : Phi) (m : Nat) : Phi := fun i => match Nat.beq i m with
  | true => some ⟨0, none, 0, 0, 0, false⟩
  | false => φ i

theorem phiN_other {m i : Nat} (h : i ≠ m) : phiN φ m i = φ i := by
  unfold phiN
  have : Nat.beq i m = false := by
    cases hb : Nat.beq i m
    · rfl
    · exact absurd (Nat.eq_of_beq_eq_true hb) h
  rw [this]
theorem phiN_at {m : Nat} : phiN φ m m = some ⟨0, none, 0, 0, 0, false⟩ := by simp [phiN]

theorem phiN_get {m i : Nat} {j : Inf} (h : phiN φ m i = some j) : (i = m ∧ j = ⟨0, none, 0, 0, 0, false⟩) ∨ (i ≠ m ∧ φ i = some j) := by
  by_cases e : i = m
  · subst e; rw [phiN_at] at h; simp only [Option.some.injEq] at h; exact .inl ⟨rfl, h.symm⟩
  · rw [phiN_other e] at h; exact .inr ⟨e, h⟩

def nilBC (sh : List Kd) : BC := ⟨⟨0, 0, false, some ⟨0, sh, [], none⟩⟩, []⟩

theorem nil_mr {bs : List BC} {sh : List Kd} (hM : MR w0 may φ (memOf bs) (hdsB bs) (fun b => bs.length ≤ b) w) : φ.le (phiN φ bs.length) ∧ MR w0 may (phiN φ bs.length) (memOf (bs ++ [nilBC sh])) (hdsB (bs ++ [nilBC sh])) (fun b => (bs ++ [nilBC sh]).length ≤ b) w := by
  have hnone : φ bs.length = none := hM.dom _ (Nat.le_refl _)
  have hle : φ.le (phiN φ bs.length) := by
    intro i j hj
    have : i ≠ bs.length := fun e => by subst e; rw [hnone] at hj; cases hj
    exact ⟨j, by rw [phiN_other this]; exact hj, j.le_refl⟩
  have mem : ∀ k x, memOf (bs ++ [nilBC sh]) k = some x → k / 65536 ≠ bs.length ∧ memOf bs k = some x := by
    intro k x hx
    unfold memOf at hx ⊢
    by_cases h : k / 65536 < bs.length
    · rw [List.getElem?_append_left h] at hx
      exact ⟨by omega, hx⟩
    · rw [List.getElem?_append_right (by omega)] at hx
      cases hk : k / 65536 - bs.length with
      | zero => rw [hk] at hx; simp [nilBC, cellOf] at hx
      | succ q => rw [hk] at hx; simp at hx
  have hd : ∀ i h, hdsB (bs ++ [nilBC sh]) i = some h → (i ≠ bs.length ∧ hdsB bs i = some h) ∨ (i = bs.length ∧ h = (nilBC sh).h) := by
    intro i h hh
    unfold hdsB at hh ⊢
    by_cases hi : i < bs.length
    · rw [List.getElem?_append_left hi] at hh
      exact .inl ⟨by omega, hh⟩
    · rw [List.getElem?_append_right (by omega)] at hh
      cases hk : i - bs.length with
      | zero => rw [hk] at hh; simp at hh; exact .inr ⟨by omega, hh.symm⟩
      | succ q => rw [hk] at hh; simp at hh
  refine ⟨hle, ?_⟩
  constructor
  · intro k x hx
    obtain ⟨h1, h2⟩ := mem k x hx
    rcases hM.cell k x h2 with e | ⟨j, g1, g2⟩
    · exact .inl e
    · exact .inr ⟨j, by rw [phiN_other h1]; exact g1, g2.other hle fun _ _ _ => rfl⟩
  · intro i h hh
    rcases hd i h hh with ⟨h1, h2⟩ | ⟨rfl, rfl⟩
    · obtain ⟨j, g1, g2⟩ := hM.hdr i h h2
      exact ⟨j, by rw [phiN_other h1]; exact g1, g2⟩
    · refine ⟨_, phiN_at, rfl, rfl, fun hg => by simp [nilBC, Hd.grows] at hg, fun R hR => ?_⟩
      simp only [nilBC, Option.some.injEq] at hR; subst hR
      exact ⟨rfl, (fun N hN => by cases hN), .inl ⟨rfl, rfl, rfl⟩⟩
  · intro k x h hx hne hh
    obtain ⟨h1, h2⟩ := mem k x hx
    rcases hd _ h hh with ⟨_, g2⟩ | ⟨g1, _⟩
    · exact hM.apart k x h h2 hne g2
    · exact absurd g1 h1
  · intro i i' j j' r o o' hi hi' ha ha'
    rcases phiN_get hi with ⟨_, rfl⟩ | ⟨_, h1⟩
    · cases ha
    · rcases phiN_get hi' with ⟨_, rfl⟩ | ⟨_, h2⟩
      · cases ha'
      · exact hM.inj i i' j j' r o o' h1 h2 ha ha'
  · intro i j r o hi ha hro
    rcases phiN_get hi with ⟨_, rfl⟩ | ⟨_, h1⟩
    · cases ha
    · exact hM.own i j r o h1 ha hro
  · intro i j r o hi ha hro
    rcases phiN_get hi with ⟨_, rfl⟩ | ⟨_, h1⟩
    · cases ha
    · exact hM.keep i j r o h1 ha hro
  · intro i hi
    have hi : (bs ++ [nilBC sh]).length ≤ i := hi
    simp at hi
    rw [phiN_other (by omega)]
    exact hM.dom i (by show bs.length ≤ i; omega)
  · intro i j r o hi ha
    rcases phiN_get hi with ⟨_, rfl⟩ | ⟨_, h1⟩
    · cases ha
    · exact hM.big i j r o h1 ha
  · exact hM.os
  · exact hM.tape
  · exact hM.output
  · exact hM.size
  · exact hM.block
  · exact hM.frz

theorem conv_hr {G : List Nat} : ∀ {CV : List (Nat × List Kd)} {φ : Phi} {h : HS}, HR n lv w0 may φ h a w → ∃ ψ, Kp G φ ψ ∧ HR n lv w0 may ψ (conv CV h) a w
  | [], φ, h, hr => ⟨φ, Kp.refl fun i j hj => (hr.v0 i j hj).2, hr⟩
  | (t, sh) :: r, φ, h, hr => by
    unfold conv
    split
    · rename_i hn
      obtain ⟨hle, hm⟩ := nil_mr (sh := sh) hr.sr.mr
      have hnone : φ h.bs.length = none := hr.sr.mr.dom _ (Nat.le_refl _)
      have hk : Kp G φ (phiN φ h.bs.length) := by
        intro i j hj
        have : i ≠ h.bs.length := fun e => by subst e; rw [hnone] at hj; cases hj
        exact ⟨j, by rw [phiN_other this]; exact hj, (hr.v0 i j hj).2, fun _ => rfl⟩
      have hr' : HR n lv w0 may (phiN φ h.bs.length) ⟨(t, .a (.vec h.bs.length 0 sh.length)) :: h.tm, h.bs ++ [nilBC sh]⟩ a w := by
        refine ⟨⟨?_, hr.sr.sz, hr.sr.df, hm⟩, ?_⟩
        · intro s x hx
          unfold filt at hx
          split at hx
          · rename_i hs
            unfold look at hx
            split at hx
            · rename_i hb
              have := Nat.eq_of_beq_eq_true hb
              subst this
              simp only [Option.some.injEq] at hx; subst hx
              have hv : LV.rel φ (.a .nils) (a.tmps.getD s undef) := hr.sr.tr s _ (by unfold filt; rw [hs]; exact hn)
              have hv : a.tmps.getD s undef = .slice none 0 0 := hv
              rw [hv]
              exact ⟨⟨rfl, rfl⟩, _, phiN_at, Nat.le_refl _, fun _ => .inl ⟨rfl, rfl, rfl⟩⟩
            · exact LV.rel_mono hle (hr.sr.tr s x (by unfold filt; rw [hs]; exact hx))
          · cases hx
        · intro i j hj
          rcases phiN_get hj with ⟨rfl, rfl⟩ | ⟨_, h1⟩
          · exact ⟨by simp, rfl⟩
          · obtain ⟨g1, g2⟩ := hr.v0 i j h1
            exact ⟨by simp; omega, g2⟩
      obtain ⟨ψ, k1, k2⟩ := conv_hr (CV := r) hr'
      exact ⟨ψ, hk.trans k1, k2⟩
    · exact conv_hr hr

theorem ordT_look {tm : List (Nat × LV)} {t : Nat} {x : LV} : ∀ {l : List Nat}, look (ordT tm l) t = some x → look tm t = some x
  | [], h => by simp [ordT, look] at h
  | s :: r, h => by
    unfold ordT at h
    split at h
    · rename_i v hv
      unfold look at h
      split at h
      · rename_i hb
        have := Nat.eq_of_beq_eq_true hb
        subst this
        simp only [Option.some.injEq] at h; subst h
        exact hv
      · exact ordT_look h
    · exact ordT_look h

theorem ordH_hr {h : HS} (hr : HR n lv w0 may φ h a w) : HR n lv w0 may φ (ordH ts h) a w := by
  refine ⟨⟨?_, hr.sr.sz, hr.sr.df, hr.sr.mr⟩, hr.v0⟩
  intro s x hx
  unfold filt at hx
  split at hx
  · rename_i hs
    exact hr.sr.tr s x (by unfold filt; rw [hs]; exact ordT_look hx)
  · cases hx

theorem roW_len {W : List Nat} : ∀ {l : List BC} {k : Nat}, (roW W k l).length = l.length
  | [], k => rfl
  | c :: r, k => by simp [roW, roW_len (l := r)]

theorem tmL_look {G foot : List Nat} {id t : Nat} {x : LV} {tm : List (Nat × LV)} : ∀ {l : List Nat}, look (tmL G ρ foot id tm l) t = some x → x = .u ∨ ∃ v, look tm t = some v ∧ backV ρ foot id (bumpV G v) = some x
  | [], h => by simp [tmL, look] at h
  | s :: r, h => by
    unfold tmL look at h
    split at h
    · rename_i hb
      have := Nat.eq_of_beq_eq_true hb
      subst this
      simp only [Option.some.injEq] at h
      split at h
      · rename_i v hv
        split at h
        · rename_i u' hu
          exact .inr ⟨v, hv, by rw [hu, h]⟩
        · exact .inl h.symm
      · exact .inl h.symm
    · exact tmL_look h

theorem tmL_has {G foot : List Nat} {id t : Nat} {tm : List (Nat × LV)} : ∀ {l : List Nat}, t ∈ l → look (tmL G ρ foot id tm l) t ≠ none
  | s :: r, h => by
    unfold tmL look
    cases hb : Nat.beq t s with
    | true => simp
    | false =>
      rcases List.mem_cons.1 h with e | h
      · subst e; simp at hb
      · exact tmL_has h

theorem look_over {β : Type} {f : Nat → Option β} {t : Nat} : ∀ {l : List (Nat × β)}, look l t ≠ none → over l f t = look l t
  | [], h => by simp [look] at h
  | (k, v) :: r, h => by
    unfold look at h ⊢
    unfold over
    cases hb : Nat.beq t k with
    | true => rfl
    | false => rw [hb] at h; exact look_over h

def exsOK {α : Type} (XS : List X) : List (X × Bool × α) → Bool
  | [] => true
  | (x, _, _) :: r => match xeq x .n || XS.any (xeq x) with
    | true => exsOK XS r
    | false => false

theorem xeq_refl (x : X) : xeq x x = true := by cases x <;> simp [xeq]

theorem lrun_in {α : Type} {XS : List X} {st : α → List Prop × List (X × Bool × α)} (hX : ∀ v, exsOK XS (st v).2 = true) : ∀ (k : Nat) (v : α) {x : X} {v' : α}, lrun st k v = some (x, v') → x = .n ∨ x ∈ XS
  | 0, v, x, v', h => by simp [lrun] at h
  | k + 1, v, x, v', h => by
    have key : ∀ {l : List (X × Bool × α)} {y : X} {v'' : α}, exsOK XS l = true → pick1 l = some (y, v'') → y = .n ∨ y ∈ XS := by
      intro l
      induction l with
      | nil => intro y v'' _ h; simp [pick1] at h
      | cons q r ih =>
        obtain ⟨z, g, u⟩ := q
        intro y v'' he h
        unfold exsOK at he
        split at he
        · rename_i hz
          cases g with
          | true =>
            simp only [pick1, Option.some.injEq, Prod.mk.injEq] at h
            obtain ⟨rfl, _⟩ := h
            simp only [Bool.or_eq_true, List.any_eq_true] at hz
            rcases hz with hz | ⟨x', h1, h2⟩
            · exact .inl (xeq_spec hz)
            · rw [xeq_spec h2]; exact .inr h1
          | false => exact ih he h
        · cases he
    simp only [lrun] at h
    split at h
    · exact lrun_in hX k _ h
    · exact key (hX v) h

theorem altsL_mem {id : Nat} {d : Pre} {nx : Nat} {g : X → Bool} {al : Alt} : ∀ {XS : List X}, al ∈ altsL id XS d nx g ↔ ∃ x ∈ XS, al = out1 id ⟨x, true, g x, d, nx⟩
  | [] => by simp [altsL]
  | x :: r => by simp only [altsL, List.mem_cons, altsL_mem (XS := r), exists_eq_or_imp]

/-! Where the loops stand. -/
def subs : Code → Nat → Nat → List Code
  | .seq a b, p, q => subs a (2 * p) q ++ subs b (2 * p + 1) q
  | .cond _ a b, p, q => subs a (2 * p) q ++ subs b (2 * p + 1) q
  | .block id a, p, q => (match Nat.beq p q with
    | true => [.block id a]
    | false => []) ++ subs a (2 * p) q
  | .loop a, p, q => subs a (2 * p) q
  | _, _, _ => []

theorem LOK_of {LT : List (Nat × Sum)} : ∀ (c : Code) (p : Nat), (∀ q f id b, (q, f) ∈ LT → Code.block id b ∈ subs c p q → SumOK P n lv (.block id b) f) → LOK P n lv LT c p
  | .seq a b, p, h => ⟨LOK_of a _ fun q f id b' hq hm => h q f id b' hq (by simp [subs, hm]), LOK_of b _ fun q f id b' hq hm => h q f id b' hq (by simp [subs, hm])⟩
  | .cond _ a b, p, h => ⟨LOK_of a _ fun q f id b' hq hm => h q f id b' hq (by simp [subs, hm]), LOK_of b _ fun q f id b' hq hm => h q f id b' hq (by simp [subs, hm])⟩
  | .block id a, p, h => ⟨fun f hf => h p f id a hf (by simp [subs]), LOK_of a _ fun q f id' b' hq hm => h q f id' b' hq (by simp [subs, hm])⟩
  | .loop a, p, h => LOK_of a _ fun q f id b' hq hm => h q f id b' hq (by simpa [subs] using hm)
  | .skip, _, _ => trivial
  | .region .., _, _ => trivial
  | .rangeFunc .., _, _ => trivial
  | .exit _, _, _ => trivial
  | .scope _, _, _ => trivial
  | .label _, _, _ => trivial
  | .goto _, _, _ => trivial
  | .ret, _, _ => trivial
  | .refuse _, _, _ => trivial

theorem LOK_cons {LT : List (Nat × Sum)} {c : Code} {p q id : Nat} {b : Code} {f : Sum} (hs : subs c p q = [.block id b]) (hf : SumOK P n lv (.block id b) f) (h : ∀ q' f' id' b', (q', f') ∈ LT → Code.block id' b' ∈ subs c p q' → SumOK P n lv (.block id' b') f') :
    ∀ q' f' id' b', (q', f') ∈ (q, f) :: LT → Code.block id' b' ∈ subs c p q' → SumOK P n lv (.block id' b') f' := by
  intro q' f' id' b' hq hm
  rcases List.mem_cons.1 hq with e | hq
  · simp only [Prod.mk.injEq] at e
    obtain ⟨rfl, rfl⟩ := e
    rw [hs, List.mem_singleton] at hm
    rw [hm]; exact hf
  · exact h q' f' id' b' hq hm

theorem LOK_nil' {c : Code} {p : Nat} : ∀ q' f' id' b', (q', f') ∈ ([] : List (Nat × Sum)) → Code.block id' b' ∈ subs c p q' → SumOK P n lv (.block id' b') f' := by
  intro q' f' id' b' h; cases h

/-- What stands for a loop is so. -/
theorem loopS_ok (hT : TOK P T) (hF : P.follows .mixedOrders = true) {α : Type} [Inhabited α] {LT : List (Nat × Sum)} {kf : Nat} {W G : List Nat} {c : Code} {p : Nat} {hd : α → HS} {rd : HS → Option α} {st : α → List Prop × List (X × Bool × α)} {F : Nat} {XS : List X} {CV : List (Nat × List Kd)} {id : Nat}
    (hE : ∀ v, bodyF P T n lv ts LT kf W G c p (hd v) = some ((st v).1, (st v).2.map fun q => (q.1, q.2.1, hd q.2.2))) (hR : ∀ h v, rd h = some v → h = hd v) (hX : ∀ v, exsOK XS (st v).2 = true) (hL : LOK P n lv LT c p) :
    SumOK P n lv (.block id (.loop c)) (loopS hd rd st F XS lv ts W G CV id) := by
  intro σ μ ρ nx obs alts h ho w0 may φ a w hs Q hQ
  unfold loopS loopI at h
  generalize footGo μ ρ 100 (refTs (filt lv σ) ρ ts) [] = foot at h
  split at h
  case h_2 => cases h
  rename_i bs0 hbs hnd
  split at h
  case h_2 => cases h
  rename_i v0 hv0
  unfold loopO at h
  generalize hK : hd (valOf (lrun st F v0)) = hKs at h
  split at h
  case h_2 => cases h
  rename_i hc
  simp only [Bool.and_eq_true] at hc
  obtain ⟨⟨hc1, hc2⟩, ⟨⟨⟨hc3, hc4⟩, hc5⟩, hc6⟩, hc7⟩ := hc
  have hl : bs0.length ≤ hKs.bs.length := Nat.le_of_ble_eq_true hc2
  cases hbk : backBlks ρ foot nx 0 (outL W G 0 hKs.bs) with
  | mk cs hss =>
  rw [hbk] at h
  simp only [Option.some.injEq, Prod.mk.injEq] at h
  obtain ⟨rfl, rfl⟩ := h
  have hok : lok st F v0 := ho.1
  refine wp_block (wp_loop_rounds F ?_)
  obtain ⟨hlen, _⟩ := blksOf_get hbs
  have hM0 := callee_mr (out := outL W G 0 hKs.bs) hs.mr hbs hnd
  have hvC : ∀ i j, phiC φ foot (outL W G 0 hKs.bs) i = some j → i < bs0.length ∧ j.v = 0 := by
    intro i j hj
    obtain ⟨b, j1, h1, _, rfl⟩ := phiC_get hj
    exact ⟨by rw [hlen]; exact (List.getElem?_eq_some_iff.1 h1).1, rfl⟩
  have hr0 : HR n lv w (mayC φ foot (outL W G 0 hKs.bs)) (phiC φ foot (outL W G 0 hKs.bs)) ⟨entT ρ foot (filt lv σ) lv, roW W 0 bs0⟩ a w := by
    refine ⟨⟨?_, hs.sz, hs.df, ?_⟩, fun i j hj => by show i < (roW W 0 bs0).length ∧ j.v = 0; rw [roW_len]; exact hvC i j hj⟩
    · intro t x hx
      unfold filt at hx
      split at hx
      · obtain ⟨v, h1, rfl⟩ := entT_look hx
        exact renV_rel (ren_moves hs.mr) (hs.tr t v h1)
      · cases hx
    · show MR w _ _ (memOf (roW W 0 bs0)) (hdsB (roW W 0 bs0)) (fun b => (roW W 0 bs0).length ≤ b) w
      rw [roW_mem, ← hdsIn_ro hl, roW_len]
      exact hM0
  obtain ⟨φ1, hk1, hr1⟩ := conv_hr (G := G) (CV := CV) hr0
  have hr2 := symH_hr (ordH_hr (ts := ts) hr1)
  rw [hR _ _ hv0] at hr2
  refine rounds_ok hT hF hE hL F v0 φ1 a w hr2 hok fun x v' ψ a' w' hrun hx hkp hhr hlen' => ?_
  have hv' : hd v' = hKs := by rw [← hK, hrun]; rfl
  rw [hv'] at hhr
  obtain ⟨g1, g2⟩ := leave_mr hM0 rfl (fun i j hj => (hvC i j hj).2) (hk1.trans hkp) hhr hc1 hl
  obtain ⟨q1, q2, q3⟩ := caller_mr hs.mr hbs hnd hc3 hc4 hc5 (Nat.le_of_ble_eq_true hc6) hc7 (fun j _ => by show nx ≤ nx + j; omega) g1 g2 hbk
  have hvK : ∀ i j, ψ i = some j → j.v = 0 := fun i j hj => (hhr.v0 i j hj).2
  have sr : SR n lv w0 may (phiB φ (phiG ψ G) ρ foot (outL W G 0 hKs.bs) nx) (over (tmL G ρ foot nx hKs.tm lv) σ) (over (pushL cs []) μ) (over (pushL hss []) ρ) (nx + 16) a' w' := by
    refine ⟨?_, hhr.sr.sz, hhr.sr.df, ?_⟩
    · intro t x hx
      unfold filt at hx
      split at hx
      · rename_i ht
        rw [look_over (tmL_has (memN_iff.1 ht))] at hx
        rcases tmL_look hx with rfl | ⟨v, h1, h2⟩
        · trivial
        · have hv := hhr.sr.tr t v (by unfold filt; rw [ht]; exact h1)
          exact (backV_rel q2 h2 (bumpV_rel hvK hv)).1
      · cases hx
    · have e1 : over (pushL cs []) μ = updL μ cs := over_of_updL cs [] μ
      have e2 : over (pushL hss []) ρ = updL ρ hss := over_of_updL hss [] ρ
      rw [e1, e2]
      refine q3.drop fun b hb => ?_
      have hb : nx + 16 ≤ b := hb
      exact ⟨by show nx ≤ b; omega, fun j _ => by omega⟩
  have hin : x ∈ XS := by
    rcases lrun_in hX F v0 hrun with e | e
    · exact absurd e hx
    · exact e
  have good : ∀ y : X, (out1 id ⟨x, true, true, ⟨tmL G ρ foot nx hKs.tm lv, pushL cs [], pushL hss []⟩, nx + 16⟩).x = y → Good n lv w0 may φ σ μ ρ y a' w' (altsL id XS ⟨tmL G ρ foot nx hKs.tm lv, pushL cs [], pushL hss []⟩ (nx + 16) fun x => isX x (lrun st F v0)) := by
    intro y hy
    have og : ∀ (z : X) (g : Bool), (out1 id ⟨z, true, g, ⟨tmL G ρ foot nx hKs.tm lv, pushL cs [], pushL hss []⟩, nx + 16⟩).g = g ∧ (out1 id ⟨z, true, g, ⟨tmL G ρ foot nx hKs.tm lv, pushL cs [], pushL hss []⟩, nx + 16⟩).d = ⟨tmL G ρ foot nx hKs.tm lv, pushL cs [], pushL hss []⟩ ∧ (out1 id ⟨z, true, g, ⟨tmL G ρ foot nx hKs.tm lv, pushL cs [], pushL hss []⟩, nx + 16⟩).nx = nx + 16 := by
      intro z g
      unfold out1
      split
      · split <;> exact ⟨rfl, rfl, rfl⟩
      · exact ⟨rfl, rfl, rfl⟩
    have hon : ∀ z, isX z (lrun st F v0) = true → On n lv w0 may φ σ μ ρ y a' w' (out1 id ⟨z, true, isX z (lrun st F v0), ⟨tmL G ρ foot nx hKs.tm lv, pushL cs [], pushL hss []⟩, nx + 16⟩) := by
      intro z hz
      rw [hz]
      have hz' : z = x := by rw [hrun] at hz; exact xeq_spec hz
      subst hz'
      obtain ⟨o1, o2, o3⟩ := og z true
      exact ⟨hy, o1, _, q1, by rw [o2, o3]; exact sr⟩
    refine ⟨⟨_, altsL_mem.2 ⟨x, hin, rfl⟩, hon x (by rw [hrun]; exact xeq_refl x)⟩, fun al hal => ?_⟩
    obtain ⟨z, _, rfl⟩ := altsL_mem.1 hal
    cases hz : isX z (lrun st F v0) with
    | true => left; have := hon z hz; rw [hz] at this; exact this
    | false => right; exact (og z false).1
  cases x with
  | n => exact absurd rfl hx
  | r => exact hQ .r a' w' (good .r rfl)
  | e i =>
    by_cases hi : i = id
    · subst hi
      have := hQ .n a' w' (good .n (by simp [out1]))
      simpa [X.real, Exit.inBlock] using this
    · have hb : Nat.beq i id = false := by
        cases hb : Nat.beq i id
        · rfl
        · exact absurd (Nat.eq_of_beq_eq_true hb) hi
      have := hQ (.e i) a' w' (good (.e i) (by simp [out1, hb]))
      simpa [X.real, Exit.inBlock, hi] using this

end

def bodyOf (P : Program) (f : Nat) : Code := match P.funcs[f]? with
  | some fn => match fn.body with
    | some c => c
    | none => .skip
  | none => .skip

def ntOf (P : Program) (f : Nat) : Nat := match P.funcs[f]? with
  | some fn => fn.ntmps
  | none => 0

/-- The loop in the block at a place. -/
def loopOf : List Code → Code
  | [.block _ (.loop c)] => c
  | _ => .skip

def blockOf : List Code → Nat
  | [.block id _] => id
  | _ => 0

theorem evG_okL' {P : Program} {T : Tab} (hT : TOK P T) (hF : P.follows .mixedOrders = true) {k f : Nat} {lv : List Nat} {W : List Nat} {LT : List (Nat × Sum)}
    (hL : ∀ q' f' id' b', (q', f') ∈ LT → Code.block id' b' ∈ subs (bodyOf P f) 1 q' → SumOK P (ntOf P f) lv (.block id' b') f') : ConOK P f (evG P T k f lv LT W) := by
  refine evG_okL hT hF fun fn c hf hb => ?_
  have e1 : bodyOf P f = c := by simp [bodyOf, hf, hb]
  have e2 : ntOf P f = fn.ntmps := by simp [ntOf, hf]
  rw [e1, e2] at hL
  exact LOK_of c 1 hL

/-! Numbers that a loop leaves as they were. -/
def keepAlt (σ : Sig) : List Nat → Alt → List Prop × Alt
  | [], α => ([], α)
  | t :: r, α => match keepAlt σ r α with
    | (ps, β) => match look β.d.tm t, σ t with
      | some (.a (.int true k x)), some (.a (.int false k' n)) => match decide (k = k') with
        | true => ((β.g = true → x = n) :: ps, ⟨β.x, β.s, β.g, ⟨(t, .a (.int false k' n)) :: β.d.tm, β.d.mem, β.d.hs⟩, β.nx⟩)
        | false => (ps, β)
      | _, _ => (ps, β)

def keepAlts (σ : Sig) (K : List Nat) : List Alt → List Prop × List Alt
  | [] => ([], [])
  | α :: r => match keepAlt σ K α, keepAlts σ K r with
    | (ps, β), (qs, l) => (ps ++ qs, β :: l)

def keepS (K : List Nat) (f : Sum) : Sum := fun σ μ ρ nx => match f σ μ ρ nx with
  | some (obs, alts) => match keepAlts σ K alts with
    | (ps, l) => some (obs ++ ps, l)
  | none => none

section
variable {P : Program} {w0 : World} {may : Nat → Prop} {n : Nat} {lv : List Nat} {φ : Phi} {σ : Sig} {μ : Mem} {ρ : Hds} {x : X} {a' : Act} {w' : World}

theorem keepAlt_on : ∀ (K : List Nat) (α : Alt), (keepAlt σ K α).2.g = α.g ∧ (Alls (keepAlt σ K α).1 → On n lv w0 may φ σ μ ρ x a' w' α → On n lv w0 may φ σ μ ρ x a' w' (keepAlt σ K α).2)
  | [], α => ⟨rfl, fun _ h => h⟩
  | t :: r, α => by
    have ih := keepAlt_on r α
    simp only [keepAlt]
    generalize hk : keepAlt σ r α = q at ih
    obtain ⟨ps, β⟩ := q
    simp only at ih ⊢
    split
    · rename_i k y k' m h1 h2
      split
      · rename_i hkk
        have hkk := of_decide_eq_true hkk
        subst hkk
        refine ⟨ih.1, fun ho hon => ?_⟩
        obtain ⟨e1, e2, ψ, e3, e4⟩ := ih.2 ho.2 hon
        have hy : y = m := ho.1 e2
        subst hy
        refine ⟨e1, e2, ψ, e3, ⟨fun t' v' hv' => ?_, e4.sz, e4.df, e4.mr⟩⟩
        unfold filt at hv'
        split at hv'
        · rename_i hm
          rw [over_cons] at hv'
          by_cases htt : t' = t
          · subst htt
            rw [upd_same] at hv'
            simp only [Option.some.injEq] at hv'; subst hv'
            have := e4.tr t' _ (by unfold filt; rw [hm]; exact (look_over (by rw [h1]; simp)).trans h1)
            exact this
          · rw [upd_other _ _ htt] at hv'
            exact e4.tr t' _ (by unfold filt; rw [hm]; exact hv')
        · cases hv'
      · exact ih
    · exact ih

theorem keepAlts_good : ∀ {K : List Nat} {l : List Alt}, Alls (keepAlts σ K l).1 → (∀ α ∈ l, On n lv w0 may φ σ μ ρ x a' w' α → ∃ β ∈ (keepAlts σ K l).2, On n lv w0 may φ σ μ ρ x a' w' β) ∧
      ((∀ α ∈ l, On n lv w0 may φ σ μ ρ x a' w' α ∨ α.g = false) → ∀ β ∈ (keepAlts σ K l).2, On n lv w0 may φ σ μ ρ x a' w' β ∨ β.g = false)
  | K, [], _ => ⟨fun α h => (List.not_mem_nil h).elim, fun _ β h => (List.not_mem_nil h).elim⟩
  | K, α :: r, h => by
    have k1 := keepAlt_on (n := n) (lv := lv) (w0 := w0) (may := may) (φ := φ) (σ := σ) (μ := μ) (ρ := ρ) (x := x) (a' := a') (w' := w') K α
    simp only [keepAlts] at h ⊢
    obtain ⟨h1, h2⟩ := Alls.append.1 h
    obtain ⟨g1, g2⟩ := keepAlts_good (K := K) (l := r) h2
    refine ⟨fun γ hγ hon => ?_, fun hall β hβ => ?_⟩
    · rcases List.mem_cons.1 hγ with rfl | hγ
      · exact ⟨_, List.mem_cons_self, k1.2 h1 hon⟩
      · obtain ⟨β, b1, b2⟩ := g1 γ hγ hon
        exact ⟨β, List.mem_cons_of_mem _ b1, b2⟩
    · rcases List.mem_cons.1 hβ with rfl | hβ
      · exact (hall α (by simp)).imp (k1.2 h1) fun e => by rw [k1.1]; exact e
      · exact g2 (fun γ hγ => hall γ (List.mem_cons_of_mem _ hγ)) β hβ

theorem keepS_ok {c : Code} {f : Sum} {K : List Nat} (hf : SumOK P n lv c f) : SumOK P n lv c (keepS K f) := by
  intro σ μ ρ nx obs alts h
  unfold keepS at h
  split at h
  case h_2 => cases h
  rename_i obs0 alts0 h0
  simp only [Option.some.injEq, Prod.mk.injEq] at h
  obtain ⟨rfl, rfl⟩ := h
  intro ho w0 may φ a w hs Q hQ
  obtain ⟨o1, o2⟩ := Alls.append.1 ho
  refine hf σ μ ρ nx obs0 alts0 h0 o1 w0 may φ a w hs Q fun x a' w' hg => hQ x a' w' ?_
  obtain ⟨g1, g2⟩ := keepAlts_good (n := n) (lv := lv) (w0 := w0) (may := may) (φ := φ) (μ := μ) (ρ := ρ) (x := x) (a' := a') (w' := w') o2
  obtain ⟨⟨α, a1, a2⟩, a3⟩ := hg
  exact ⟨g1 α a1 a2, g2 a3⟩

end

end Go.Proofs.Ytcdejlgophpdjaa.V
end

section
namespace Go.Proofs.Ytcdejlgophpdjaa.V
open Go Go.RowKit

def mixO (q : Bool) : Option At → Option At → Option At
  | some x, some y => some (mergeA [] q x y)
  | _, _ => none

def mixOs (q : Bool) : List (Option At) → List (Option At) → List (Option At)
  | x :: xs, y :: ys => mixO q x y :: mixOs q xs ys
  | _, _ => []

def mixB (q : Bool) (c d : BC) : Option BC :=
  match mergeH 0 q c.h d.h, Nat.beq c.cs.length d.cs.length with
  | some (h, []), true => some ⟨h, mixOs q c.cs d.cs⟩
  | _, _ => none

def mixOut (q : Bool) : List (Option BC) → List (Option BC) → Option (List (Option BC))
  | [], [] => some []
  | none :: r, none :: s => match mixOut q r s with
    | some l => some (none :: l)
    | none => none
  | some c :: r, some d :: s => match mixB q c d, mixOut q r s with
    | some b, some l => some (some b :: l)
    | _, _ => none
  | _, _ => none

def mixTs (q : Bool) : List LV → List LV → List LV
  | x :: xs, y :: ys => mergeV [] q x y :: mixTs q xs ys
  | _, _ => []

def mixV (q : Bool) : LV → LV → LV
  | .t l, .t m => match Nat.beq l.length m.length with
    | true => .t (mixTs q l m)
    | false => .u
  | x, y => mergeV [] q x y

def splitC (g : List LV → List BC → Option Bool) (c1 c2 : Con) : Con := fun args bs =>
  match g args bs with
  | some q => match c1 args bs, c2 args bs with
    | some (o1, v1, out1), some (o2, v2, out2) => match mixOut q out1 out2 with
      | some out => some (under q true o1 ++ under q false o2, mixV q v1 v2, out)
      | none => none
    | _, _ => none
  | none => none

theorem revS (φ : Phi) : RevL [] φ φ ∧ RevR [] φ φ := ⟨⟨φ.le_refl, fun _ _ _ _ h => by cases h⟩, ⟨φ.le_refl, fun _ _ _ _ h => by cases h⟩⟩

theorem merge_pick {φ : Phi} {q : Bool} {x y : At} {v : Value} (h : (bif q then x else y).rel φ v) : (mergeA [] q x y).rel φ v := by
  cases q
  · exact mergeA_r (revS φ).2 h
  · exact mergeA_l (revS φ).1 h
theorem mergeV_pick {φ : Phi} {q : Bool} {x y : LV} {v : Value} (h : (bif q then x else y).rel φ v) : (mergeV [] q x y).rel φ v := by
  cases q
  · exact mergeV_r (revS φ).2 h
  · exact mergeV_l (revS φ).1 h

theorem mergeA_unk' {q : Bool} {x y : At} (h : (bif q then x else y) = .unk) : mergeA [] q x y = .unk := mergeA_unk h

theorem mixTs_pick {φ : Phi} {q : Bool} : ∀ {l m : List LV} {vs : List Value}, l.length = m.length → All2 (LV.rel1 φ) (bif q then l else m) vs → All2 (LV.rel1 φ) (mixTs q l m) vs
  | [], [], vs, _, h => by cases q <;> exact h
  | [], _ :: _, vs, hl, h => by simp at hl
  | _ :: _, [], vs, hl, h => by simp at hl
  | x :: l, y :: m, vs, hl, h => by
    have hl' : l.length = m.length := by simpa using hl
    have one : ∀ {v}, (bif q then x else y).rel1 φ v → (mergeV [] q x y).rel1 φ v := fun {v} h1 => by
      have hx : (bif q then x else y).rel φ v := by
        cases q
        · cases y <;> first | exact h1 | exact h1.elim
        · cases x <;> first | exact h1 | exact h1.elim
      have := mergeV_pick hx
      generalize hz : mergeV [] q x y = z at this
      cases z with
      | t _ =>
        unfold mergeV at hz
        split at hz <;> first | (cases hz; done) | (split at hz <;> cases hz)
      | _ => exact this
    cases q with
    | true =>
      cases h with
      | cons a b => exact .cons (one a) (mixTs_pick (q := true) hl' b)
    | false =>
      cases h with
      | cons a b => exact .cons (one a) (mixTs_pick (q := false) hl' b)

theorem mixV_pick {φ : Phi} {q : Bool} {x y : LV} {v : Value} (h : (bif q then x else y).rel φ v) : (mixV q x y).rel φ v := by
  unfold mixV
  split
  · rename_i l m
    split
    · rename_i hb
      have hl := Nat.eq_of_beq_eq_true hb
      have h' : (LV.t (bif q then l else m)).rel φ v := by cases q <;> exact h
      obtain ⟨vs, e, k⟩ := h'
      exact ⟨vs, e, mixTs_pick hl k⟩
    · trivial
  · exact mergeV_pick h

theorem mergeH_pick {q : Bool} {x y h : Hd} (e : mergeH 0 q x y = some (h, [])) : h = (bif q then x else y) := by
  unfold mergeH at e
  obtain ⟨xv, xz, xro, xR⟩ := x
  obtain ⟨yv, yz, yro, yR⟩ := y
  cases xR with
  | none => cases yR with
    | none =>
      simp only at e
      split at e
      · rename_i hb
        simp only [Bool.and_eq_true] at hb
        have e1 := Nat.eq_of_beq_eq_true hb.1
        have e2 := Nat.eq_of_beq_eq_true hb.2
        simp only [Option.some.injEq, Prod.mk.injEq] at e
        obtain ⟨rfl, _⟩ := e
        subst e1 e2
        cases q <;> rfl
      · rename_i hb
        simp only [Bool.and_eq_true] at hb
        have e1 := Nat.eq_of_beq_eq_true hb.1
        have e2 := Nat.eq_of_beq_eq_true hb.2
        simp only [Option.some.injEq, Prod.mk.injEq] at e
        obtain ⟨rfl, _⟩ := e
        subst e1 e2
        cases q <;> rfl
      · cases e
    | some _ => simp at e
  | some R => cases yR with
    | none => simp at e
    | some R' =>
      obtain ⟨st, sh, l, fx⟩ := R
      obtain ⟨st', sh', l', fx'⟩ := R'
      simp only at e
      split at e
      · rename_i hb
        simp only [Bool.and_eq_true] at hb
        have e1 := Nat.eq_of_beq_eq_true hb.1.1
        have e2 := Nat.eq_of_beq_eq_true hb.1.2
        have e3 := kdsEq_spec hb.2
        subst e1 e2 e3
        split at e
        · split at e
          · rename_i hv
            have e4 := Nat.eq_of_beq_eq_true hv
            simp only [Option.some.injEq, Prod.mk.injEq] at e
            obtain ⟨rfl, _⟩ := e
            subst e4
            cases q <;> rfl
          · simp at e
        · split at e
          · rename_i hv
            simp only [Bool.and_eq_true] at hv
            have e4 := Nat.eq_of_beq_eq_true hv.1
            have e5 := Nat.eq_of_beq_eq_true hv.2
            simp only [Option.some.injEq, Prod.mk.injEq] at e
            obtain ⟨rfl, _⟩ := e
            subst e4 e5
            cases q <;> rfl
          · cases e
        · cases e
      · cases e

theorem mixOs_get {q : Bool} : ∀ {l m : List (Option At)} {i : Nat} {x : At}, (mixOs q l m)[i]? = some (some x) → ∃ a b, l[i]? = some (some a) ∧ m[i]? = some (some b) ∧ x = mergeA [] q a b
  | [], m, i, x, h => by simp [mixOs] at h
  | _ :: _, [], i, x, h => by simp [mixOs] at h
  | a :: l, b :: m, 0, x, h => by
    simp only [mixOs, List.getElem?_cons_zero, Option.some.injEq] at h
    unfold mixO at h
    split at h
    · rename_i a b
      simp only [Option.some.injEq] at h
      exact ⟨a, b, by simp, by simp, h.symm⟩
    · cases h
  | a :: l, b :: m, i + 1, x, h => by
    have := mixOs_get (l := l) (m := m) (i := i) (by simpa [mixOs] using h)
    simpa using this

theorem mixOut_get {q : Bool} : ∀ {l m out : List (Option BC)}, mixOut q l m = some out → out.length = l.length ∧ l.length = m.length ∧
    ∀ (i : Nat), (out[i]? = none ∧ l[i]? = none ∧ m[i]? = none) ∨ (out[i]? = some none ∧ l[i]? = some none ∧ m[i]? = some none) ∨ ∃ c d b, l[i]? = some (some c) ∧ m[i]? = some (some d) ∧ out[i]? = some (some b) ∧ mixB q c d = some b
  | [], [], out, h => by
    simp only [mixOut, Option.some.injEq] at h; subst h
    exact ⟨rfl, rfl, fun i => .inl (by simp)⟩
  | [], _ :: _, out, h => by simp [mixOut] at h
  | none :: _, [], out, h => by simp [mixOut] at h
  | some _ :: _, [], out, h => by simp [mixOut] at h
  | none :: _, some _ :: _, out, h => by simp [mixOut] at h
  | some _ :: _, none :: _, out, h => by simp [mixOut] at h
  | none :: r, none :: s, out, h => by
    simp only [mixOut] at h
    split at h
    · rename_i l hl
      simp only [Option.some.injEq] at h; subst h
      obtain ⟨h1, h2, h3⟩ := mixOut_get hl
      refine ⟨by simp [h1], by simp [h2], fun i => ?_⟩
      cases i with
      | zero => exact .inr (.inl (by simp))
      | succ i => simpa using h3 i
    · cases h
  | some c :: r, some d :: s, out, h => by
    simp only [mixOut] at h
    split at h
    · rename_i b l hb hl
      simp only [Option.some.injEq] at h; subst h
      obtain ⟨h1, h2, h3⟩ := mixOut_get hl
      refine ⟨by simp [h1], by simp [h2], fun i => ?_⟩
      cases i with
      | zero => exact .inr (.inr ⟨c, d, b, by simp, by simp, by simp, hb⟩)
      | succ i => simpa using h3 i
    · cases h

/-- What lies behind the call, as the one contract has it. -/
theorem mix_mr {w0 : World} {may : Nat → Prop} {φ : Phi} {bs : List BC} {q : Bool} {l m out : List (Option BC)} {w : World} (h : mixOut q l m = some out)
    (hM : MR w0 may φ (memAft bs (bif q then l else m)) (hdsAft bs (bif q then l else m)) (fun b => (bif q then l else m).length ≤ b) w) :
    MR w0 may φ (memAft bs out) (hdsAft bs out) (fun b => out.length ≤ b) w := by
  obtain ⟨h1, h2, h3⟩ := mixOut_get h
  have hlen : (bif q then l else m).length = out.length := by cases q <;> simp [h1, h2]
  have hget : ∀ i : Nat, (bif q then l else m)[i]? = bif q then l[i]? else m[i]? := fun i => by cases q <;> rfl
  have hh : hdsAft bs out = hdsAft bs (bif q then l else m) := by
    funext b
    unfold hdsAft aft
    rw [hget]
    rcases h3 b with ⟨e1, e2, e3⟩ | ⟨e1, e2, e3⟩ | ⟨c, d, b', e1, e2, e3, e4⟩
    · rw [e1, e2, e3]; cases q <;> rfl
    · rw [e1, e2, e3]; cases q <;> rfl
    · rw [e1, e2, e3]
      unfold mixB at e4
      split at e4
      · rename_i hd hm _
        simp only [Option.some.injEq] at e4; subst e4
        have := mergeH_pick hm
        cases q <;> simp [this]
      · cases e4
  rw [hh]
  have hd : MR w0 may φ (memAft bs (bif q then l else m)) (hdsAft bs (bif q then l else m)) (fun b => out.length ≤ b) w := hM.drop fun b hb => by rw [hlen]; exact hb
  refine hd.marks fun k x hx => ?_
  unfold memAft aft at hx ⊢
  rw [hget]
  rcases h3 (k / 65536) with ⟨e1, e2, e3⟩ | ⟨e1, e2, e3⟩ | ⟨c, d, b', e1, e2, e3, e4⟩
  · rw [e1] at hx; cases hx
  · rw [e1] at hx
    rw [e2, e3]
    refine ⟨x, ?_, id, fun v hv => hv⟩
    cases q <;> exact hx
  · rw [e3] at hx
    rw [e1, e2]
    unfold mixB at e4
    split at e4
    · rename_i hd hm _
      simp only [Option.some.injEq] at e4; subst e4
      have hx' : cellOf ⟨hd, mixOs q c.cs d.cs⟩ (k % 65536) = some x := hx
      unfold cellOf at hx'
      split at hx'
      · rename_i y hy
        simp only [Option.some.injEq] at hx'; subst hx'
        obtain ⟨a, b, g1, g2, rfl⟩ := mixOs_get hy
        refine ⟨bif q then a else b, ?_, fun e => mergeA_unk' e, fun v hv => merge_pick hv⟩
        cases q
        · show cellOf d (k % 65536) = some b
          unfold cellOf; rw [g2]
        · show cellOf c (k % 65536) = some a
          unfold cellOf; rw [g1]
      · cases hx'
    · cases e4

theorem hdsIn_pick {bs : List BC} {q : Bool} {l m out : List (Option BC)} (h : mixOut q l m = some out) : hdsIn bs out = hdsIn bs (bif q then l else m) := by
  obtain ⟨_, _, h3⟩ := mixOut_get h
  have hget : ∀ i : Nat, (bif q then l else m)[i]? = bif q then l[i]? else m[i]? := fun i => by cases q <;> rfl
  funext b
  unfold hdsIn
  rw [hget]
  rcases h3 b with ⟨e1, e2, e3⟩ | ⟨e1, e2, e3⟩ | ⟨c, d, b', e1, e2, e3, e4⟩
  · rw [e1, e2, e3]; cases q <;> rfl
  · rw [e1, e2, e3]; cases q <;> rfl
  · rw [e1, e2, e3]; cases q <;> rfl

theorem splitC_ok {P : Program} {f : Nat} {g : List LV → List BC → Option Bool} {c1 c2 : Con} (h1 : ConOK P f c1) (h2 : ConOK P f c2) : ConOK P f (splitC g c1 c2) := by
  intro args bs obs lv out h ho φ vs w may ha hM
  unfold splitC at h
  split at h
  case h_2 => cases h
  rename_i q hq
  split at h
  case h_2 => cases h
  rename_i o1 v1 out1 o2 v2 out2 k1 k2
  split at h
  case h_2 => cases h
  rename_i out' hout
  simp only [Option.some.injEq, Prod.mk.injEq] at h
  obtain ⟨rfl, rfl, rfl⟩ := h
  obtain ⟨p1, p2⟩ := Alls.append.1 ho
  rw [hdsIn_pick hout] at hM
  cases q with
  | true =>
    refine (h1 _ _ _ _ _ k1 (under_spec p1) φ vs w may ha hM).mono fun e w' ⟨v', ψ, e1, e2, e3, e4⟩ => ?_
    exact ⟨v', ψ, e1, e2, mixV_pick (q := true) e3, mix_mr (q := true) hout e4⟩
  | false =>
    refine (h2 _ _ _ _ _ k2 (under_spec p2) φ vs w may ha hM).mono fun e w' ⟨v', ψ, e1, e2, e3, e4⟩ => ?_
    exact ⟨v', ψ, e1, e2, mixV_pick (q := false) e3, mix_mr (q := false) hout e4⟩

end Go.Proofs.Ytcdejlgophpdjaa.V
end

section
namespace Go.Proofs.Ytcdejlgophpdjaa.V
open Go Go.RowKit

def padB (c : BC) : BC := match c.h.R with
  | some R => match R.fx with
    | some N => ⟨c.h, c.cs.take R.st ++ (List.replicate (N * R.sh.length) none ++ c.cs.drop R.st)⟩
    | none => c
  | none => c

def padBs : List BC → List BC
  | [] => []
  | b :: r => padB b :: padBs r

def padOut : List (Option BC) → List (Option BC)
  | [] => []
  | some b :: r => some (padB b) :: padOut r
  | none :: r => none :: padOut r

def allNone : Nat → List (Option At) → Bool
  | 0, _ => true
  | n + 1, none :: r => allNone n r
  | _ + 1, _ => false

def packB (c : BC) : Option BC := match c.h.R with
  | some R => match R.fx with
    | some N => match Nat.ble R.st c.cs.length && allNone (N * R.sh.length) (c.cs.drop R.st) with
      | true => some ⟨c.h, c.cs.take R.st ++ c.cs.drop (R.st + N * R.sh.length)⟩
      | false => none
    | none => some c
  | none => some c

def packBs : List BC → Option (List BC)
  | [] => some []
  | b :: r => match packB b, packBs r with
    | some c, some l => some (c :: l)
    | _, _ => none

def packOut : List (Option BC) → Option (List (Option BC))
  | [] => some []
  | none :: r => match packOut r with
    | some l => some (none :: l)
    | none => none
  | some b :: r => match packB b, packOut r with
    | some c, some l => some (some c :: l)
    | _, _ => none

theorem allNone_spec : ∀ {n : Nat} {l : List (Option At)}, allNone n l = true → l = List.replicate n none ++ l.drop n
  | 0, l, _ => by simp
  | n + 1, [], h => by simp [allNone] at h
  | n + 1, some x :: r, h => by simp [allNone] at h
  | n + 1, none :: r, h => by
    simp only [allNone] at h
    rw [List.replicate_succ, List.cons_append, List.drop_succ_cons, ← allNone_spec h]

theorem packB_spec {c d : BC} (h : packB c = some d) : padB d = c := by
  unfold packB at h
  split at h
  · rename_i R hR
    split at h
    · rename_i N hN
      split at h
      · rename_i hb
        simp only [Option.some.injEq] at h; subst h
        simp only [Bool.and_eq_true] at hb
        have b1 := Nat.le_of_ble_eq_true hb.1
        have b2 := allNone_spec hb.2
        have hl : (c.cs.take R.st).length = R.st := by rw [List.length_take]; omega
        unfold padB
        simp only [hR, hN]
        rw [List.take_append_of_le_length (by omega), List.take_of_length_le (by omega), List.drop_append_of_le_length (by omega), List.drop_of_length_le (l := c.cs.take R.st) (by omega), List.nil_append]
        have e : List.replicate (N * R.sh.length) none ++ c.cs.drop (R.st + N * R.sh.length) = c.cs.drop R.st := by
          rw [b2]
          simp [List.drop_drop]
        rw [e, List.take_append_drop]
      · cases h
    · rename_i hN
      simp only [Option.some.injEq] at h; subst h
      unfold padB
      simp only [hR, hN]
  · rename_i hR
    simp only [Option.some.injEq] at h; subst h
    unfold padB
    simp only [hR]

theorem packBs_spec : ∀ {l m : List BC}, packBs l = some m → padBs m = l
  | [], m, h => by simp only [packBs, Option.some.injEq] at h; subst h; rfl
  | b :: r, m, h => by
    unfold packBs at h
    split at h
    · rename_i c l h1 h2
      simp only [Option.some.injEq] at h; subst h
      rw [padBs, packB_spec h1, packBs_spec h2]
    · cases h

def padH (h : HS) : HS := ⟨h.tm, padBs h.bs⟩
def packH (h : HS) : Option HS := match packBs h.bs with
  | some bs => some ⟨h.tm, bs⟩
  | none => none
theorem packH_spec {h k : HS} (e : packH h = some k) : padH k = h := by
  unfold packH at e
  split at e
  · rename_i bs hb
    simp only [Option.some.injEq] at e; subst e
    unfold padH
    simp only [packBs_spec hb]
  · cases e

/-- A head that is read out of blocks told so. -/
def rdP {α : Type} (rd : HS → Option α) (h : HS) : Option α := match packH h with
  | some k => rd k
  | none => none
theorem rdP_spec {α : Type} {rd : HS → Option α} {hd : α → HS} (R : ∀ h v, rd h = some v → h = hd v) : ∀ h v, rdP rd h = some v → h = padH (hd v) := by
  intro h v e
  unfold rdP at e
  split at e
  · rename_i k hk
    rw [← R k v e, packH_spec hk]
  · cases e

/-! A head read without patterns: what is in it, and whether it is of one shape with another one. -/
inductive Pay where
  | i (n : Int)
  | b (x : Bool)
  | n (k : Nat)
  | r (l : List (List Int))
  | s (x : ByteArray)

inductive PK where
  | i | b | n | r | s
  | lit (k : Nat)

def gI (l : List Pay) (k : Nat) : Int := match l[k]? with
  | some (.i n) => n
  | _ => 0
def gB (l : List Pay) (k : Nat) : Bool := match l[k]? with
  | some (.b n) => n
  | _ => false
def gN (l : List Pay) (k : Nat) : Nat := match l[k]? with
  | some (.n n) => n
  | _ => 0
def gR (l : List Pay) (k : Nat) : List (List Int) := match l[k]? with
  | some (.r n) => n
  | _ => []
def gS (l : List Pay) (k : Nat) : ByteArray := match l[k]? with
  | some (.s n) => n
  | _ => ByteArray.empty

def pkOK : List Pay → List PK → Bool
  | [], [] => true
  | .i _ :: l, .i :: ks => pkOK l ks
  | .b _ :: l, .b :: ks => pkOK l ks
  | .n _ :: l, .n :: ks => pkOK l ks
  | .r _ :: l, .r :: ks => pkOK l ks
  | .s _ :: l, .s :: ks => pkOK l ks
  | .n a :: l, .lit c :: ks => Nat.beq a c && pkOK l ks
  | _, _ => false

def pkOf (l : List Pay) : List PK → Nat → List Pay
  | [], _ => []
  | .i :: ks, k => .i (gI l k) :: pkOf l ks (k + 1)
  | .b :: ks, k => .b (gB l k) :: pkOf l ks (k + 1)
  | .n :: ks, k => .n (gN l k) :: pkOf l ks (k + 1)
  | .r :: ks, k => .r (gR l k) :: pkOf l ks (k + 1)
  | .s :: ks, k => .s (gS l k) :: pkOf l ks (k + 1)
  | .lit c :: ks, k => .n c :: pkOf l ks (k + 1)

theorem pkOf_spec (l0 : List Pay) : ∀ (ks : List PK) (l : List Pay) (k : Nat), pkOK l ks = true → (∀ j x, l[j]? = some x → l0[k + j]? = some x) → l = pkOf l0 ks k
  | [], l, k, h, _ => by
    cases l with
    | nil => rfl
    | cons a l => cases a <;> simp [pkOK] at h
  | q :: ks, [], k, h, _ => by cases q <;> simp [pkOK] at h
  | q :: ks, x :: l, k, h, hl => by
    have h0 := hl 0 x (by simp)
    rw [Nat.add_zero] at h0
    have ht : ∀ j y, l[j]? = some y → l0[k + 1 + j]? = some y := fun j y hy => by
      have := hl (j + 1) y (by simpa using hy)
      rwa [show k + (j + 1) = k + 1 + j by omega] at this
    cases q <;> cases x <;> simp only [pkOK, Bool.and_eq_true] at h <;> try cases h
    · rw [pkOf, ← pkOf_spec l0 ks l (k + 1) h ht]; simp [gI, h0]
    · rw [pkOf, ← pkOf_spec l0 ks l (k + 1) h ht]; simp [gB, h0]
    · rw [pkOf, ← pkOf_spec l0 ks l (k + 1) h ht]; simp [gN, h0]
    · rw [pkOf, ← pkOf_spec l0 ks l (k + 1) h ht]; simp [gR, h0]
    · rw [pkOf, ← pkOf_spec l0 ks l (k + 1) h ht]; simp [gS, h0]
    · rename_i c a h1 h2
      rw [pkOf, ← pkOf_spec l0 ks l (k + 1) h2 ht, Nat.eq_of_beq_eq_true h1]

def payA : At → List Pay
  | .bool _ x => [.b x]
  | .int _ _ n => [.i n]
  | .str _ x => [.s x]
  | .prw _ _ _ _ _ i j => [.n i, .n j]
  | .slc _ _ _ _ _ i j => [.n i, .n j]
  | _ => []

def capsEq : List (Nat × Nat) → List (Nat × Nat) → Bool
  | [], [] => true
  | (a, b) :: l, (c, d) :: m => Nat.beq a c && Nat.beq b d && capsEq l m
  | _, _ => false

def shA : At → At → Bool
  | .bool s _, .bool s' _ => s == s'
  | .int s k _, .int s' k' _ => s == s' && decide (k = k')
  | .str s _, .str s' _ => s == s'
  | .ptr b o, .ptr b' o' => Nat.beq b b' && Nat.beq o o'
  | .prw s b v st e _ _, .prw s' b' v' st' e' _ _ => s == s' && Nat.beq b b' && Nat.beq v v' && Nat.beq st st' && Nat.beq e e'
  | .slc s b v st e _ _, .slc s' b' v' st' e' _ _ => s == s' && Nat.beq b b' && Nat.beq v v' && Nat.beq st st' && Nat.beq e e'
  | .vec b v e, .vec b' v' e' => Nat.beq b b' && Nat.beq v v' && Nat.beq e e'
  | .nil, .nil => true
  | .nils, .nils => true
  | .nilfn, .nilfn => true
  | .unk, .unk => true
  | .fn f c, .fn f' c' => Nat.beq f f' && capsEq c c'
  | _, _ => false

theorem capsEq_spec : ∀ {l m : List (Nat × Nat)}, capsEq l m = true → l = m
  | [], [], _ => rfl
  | [], _ :: _, h => by simp [capsEq] at h
  | _ :: _, [], h => by simp [capsEq] at h
  | (a, b) :: l, (c, d) :: m, h => by
    simp only [capsEq, Bool.and_eq_true] at h
    rw [Nat.eq_of_beq_eq_true h.1.1, Nat.eq_of_beq_eq_true h.1.2, capsEq_spec h.2]

theorem shA_len {x y : At} (h : shA x y = true) : (payA x).length = (payA y).length := by
  cases x <;> cases y <;> simp [shA] at h <;> rfl

theorem shA_spec {x y : At} (h : shA x y = true) (e : payA x = payA y) : x = y := by
  cases x <;> cases y <;> simp only [shA, Bool.and_eq_true, beq_iff_eq, decide_eq_true_eq] at h <;> try cases h
  all_goals simp only [payA, List.cons.injEq, Pay.i.injEq, Pay.b.injEq, Pay.n.injEq, Pay.s.injEq, and_true] at e
  · subst e; rfl
  · rename_i a b; subst a b e; rfl
  · subst e; rfl
  · rename_i a b; rw [Nat.eq_of_beq_eq_true a, Nat.eq_of_beq_eq_true b]
  · rename_i a b
    obtain ⟨⟨⟨a1, a2⟩, a3⟩, a4⟩ := a
    rw [a1, Nat.eq_of_beq_eq_true a2, Nat.eq_of_beq_eq_true a3, Nat.eq_of_beq_eq_true a4, Nat.eq_of_beq_eq_true b, e.1, e.2]
  · rfl
  · rename_i a b
    obtain ⟨⟨⟨a1, a2⟩, a3⟩, a4⟩ := a
    rw [a1, Nat.eq_of_beq_eq_true a2, Nat.eq_of_beq_eq_true a3, Nat.eq_of_beq_eq_true a4, Nat.eq_of_beq_eq_true b, e.1, e.2]
  · rename_i a b
    rw [Nat.eq_of_beq_eq_true a.1, Nat.eq_of_beq_eq_true a.2, Nat.eq_of_beq_eq_true b]
  · rfl
  · rename_i a b; rw [Nat.eq_of_beq_eq_true a, capsEq_spec b]
  · rfl
  · rfl

def payG : List At → List Pay
  | [] => []
  | x :: r => payA x ++ payG r
def shG : List At → List At → Bool
  | [], [] => true
  | x :: l, y :: m => shA x y && shG l m
  | _, _ => false
theorem shG_len : ∀ {l m : List At}, shG l m = true → (payG l).length = (payG m).length
  | [], [], _ => rfl
  | [], _ :: _, h => by simp [shG] at h
  | _ :: _, [], h => by simp [shG] at h
  | x :: l, y :: m, h => by
    simp only [shG, Bool.and_eq_true] at h
    rw [payG, payG, List.length_append, List.length_append, shA_len h.1, shG_len h.2]
theorem shG_spec : ∀ {l m : List At}, shG l m = true → payG l = payG m → l = m
  | [], [], _, _ => rfl
  | [], _ :: _, h, _ => by simp [shG] at h
  | _ :: _, [], h, _ => by simp [shG] at h
  | x :: l, y :: m, h, e => by
    simp only [shG, Bool.and_eq_true] at h
    rw [payG, payG] at e
    obtain ⟨e1, e2⟩ := List.append_inj e (shA_len h.1)
    rw [shA_spec h.1 e1, shG_spec h.2 e2]

def payV : LV → List Pay
  | .a x => payA x
  | .g l => payG l
  | _ => []
def shV : LV → LV → Bool
  | .a x, .a y => shA x y
  | .g l, .g m => shG l m
  | .u, .u => true
  | _, _ => false
theorem shV_len {x y : LV} (h : shV x y = true) : (payV x).length = (payV y).length := by
  cases x <;> cases y <;> simp only [shV] at h <;> first | exact shA_len h | exact shG_len h | rfl | cases h
theorem shV_spec {x y : LV} (h : shV x y = true) (e : payV x = payV y) : x = y := by
  cases x <;> cases y <;> simp only [shV] at h <;> first | rw [shA_spec h e] | rw [shG_spec h e] | rfl | cases h

def payT : List (Nat × LV) → List Pay
  | [] => []
  | (_, v) :: r => payV v ++ payT r
def shT : List (Nat × LV) → List (Nat × LV) → Bool
  | [], [] => true
  | (k, x) :: l, (k', y) :: m => Nat.beq k k' && shV x y && shT l m
  | _, _ => false
theorem shT_len : ∀ {l m : List (Nat × LV)}, shT l m = true → (payT l).length = (payT m).length
  | [], [], _ => rfl
  | [], _ :: _, h => by simp [shT] at h
  | _ :: _, [], h => by simp [shT] at h
  | (k, x) :: l, (k', y) :: m, h => by
    simp only [shT, Bool.and_eq_true] at h
    rw [payT, payT, List.length_append, List.length_append, shV_len h.1.2, shT_len h.2]
theorem shT_spec : ∀ {l m : List (Nat × LV)}, shT l m = true → payT l = payT m → l = m
  | [], [], _, _ => rfl
  | [], _ :: _, h, _ => by simp [shT] at h
  | _ :: _, [], h, _ => by simp [shT] at h
  | (k, x) :: l, (k', y) :: m, h, e => by
    simp only [shT, Bool.and_eq_true] at h
    rw [payT, payT] at e
    obtain ⟨e1, e2⟩ := List.append_inj e (shV_len h.1.2)
    rw [Nat.eq_of_beq_eq_true h.1.1, shV_spec h.1.2 e1, shT_spec h.2 e2]

def payO : List (Option At) → List Pay
  | [] => []
  | some x :: r => payA x ++ payO r
  | none :: r => payO r
def shO : List (Option At) → List (Option At) → Bool
  | [], [] => true
  | some x :: l, some y :: m => shA x y && shO l m
  | none :: l, none :: m => shO l m
  | _, _ => false
theorem shO_len : ∀ {l m : List (Option At)}, shO l m = true → (payO l).length = (payO m).length
  | [], [], _ => rfl
  | [], _ :: _, h => by simp [shO] at h
  | none :: _, [], h => by simp [shO] at h
  | some _ :: _, [], h => by simp [shO] at h
  | some x :: l, some y :: m, h => by
    simp only [shO, Bool.and_eq_true] at h
    rw [payO, payO, List.length_append, List.length_append, shA_len h.1, shO_len h.2]
  | none :: l, none :: m, h => by
    simp only [shO] at h
    rw [payO, payO, shO_len h]
  | some _ :: _, none :: _, h => by simp [shO] at h
  | none :: _, some _ :: _, h => by simp [shO] at h
theorem shO_spec : ∀ {l m : List (Option At)}, shO l m = true → payO l = payO m → l = m
  | [], [], _, _ => rfl
  | [], _ :: _, h, _ => by simp [shO] at h
  | none :: _, [], h, _ => by simp [shO] at h
  | some _ :: _, [], h, _ => by simp [shO] at h
  | some x :: l, some y :: m, h, e => by
    simp only [shO, Bool.and_eq_true] at h
    rw [payO, payO] at e
    obtain ⟨e1, e2⟩ := List.append_inj e (shA_len h.1)
    rw [shA_spec h.1 e1, shO_spec h.2 e2]
  | none :: l, none :: m, h, e => by
    simp only [shO] at h
    rw [payO, payO] at e
    rw [shO_spec h e]
  | some _ :: _, none :: _, h, _ => by simp [shO] at h
  | none :: _, some _ :: _, h, _ => by simp [shO] at h

def payR : Option Rw → List Pay
  | some R => [.r R.l]
  | none => []
def fxEq : Option Nat → Option Nat → Bool
  | none, none => true
  | some a, some b => Nat.beq a b
  | _, _ => false
def kdsSame : List Kd → List Kd → Bool
  | [], [] => true
  | k :: l, k' :: m => kdEq k k' && kdsSame l m
  | _, _ => false
theorem kdEq_same {k k' : Kd} (h : kdEq k k' = true) : k = k' := by
  cases k <;> cases k' <;> simp only [kdEq, decide_eq_true_eq] at h <;> first | (subst h; rfl) | rfl | cases h
theorem kdsSame_spec : ∀ {l m : List Kd}, kdsSame l m = true → l = m
  | [], [], _ => rfl
  | [], _ :: _, h => by simp [kdsSame] at h
  | _ :: _, [], h => by simp [kdsSame] at h
  | k :: l, k' :: m, h => by
    simp only [kdsSame, Bool.and_eq_true] at h
    rw [kdEq_same h.1, kdsSame_spec h.2]
def shR : Option Rw → Option Rw → Bool
  | none, none => true
  | some R, some S => Nat.beq R.st S.st && kdsSame R.sh S.sh && fxEq R.fx S.fx
  | _, _ => false
theorem shR_len {a b : Option Rw} (h : shR a b = true) : (payR a).length = (payR b).length := by
  cases a <;> cases b <;> simp [shR] at h <;> rfl
theorem fxEq_spec {a b : Option Nat} (h : fxEq a b = true) : a = b := by
  cases a <;> cases b <;> simp only [fxEq] at h <;> first | rfl | rw [Nat.eq_of_beq_eq_true h] | cases h
theorem shR_spec {a b : Option Rw} (h : shR a b = true) (e : payR a = payR b) : a = b := by
  cases a <;> cases b <;> simp only [shR, Bool.and_eq_true] at h <;> try first | rfl | cases h
  rename_i R S _ h3
  obtain ⟨h1, h2⟩ := ‹_ ∧ _›
  simp only [payR, List.cons.injEq, Pay.r.injEq, and_true] at e
  obtain ⟨a, b, c, d⟩ := R
  obtain ⟨a', b', c', d'⟩ := S
  simp only at h1 h2 h3 e
  rw [Nat.eq_of_beq_eq_true h1, kdsSame_spec h2, fxEq_spec h3, e]

def payBs : List BC → List Pay
  | [] => []
  | c :: r => payR c.h.R ++ (payO c.cs ++ payBs r)
def shBs : List BC → List BC → Bool
  | [], [] => true
  | c :: l, d :: m => Nat.beq c.h.v d.h.v && Nat.beq c.h.z d.h.z && (c.h.ro == d.h.ro) && shR c.h.R d.h.R && shO c.cs d.cs && shBs l m
  | _, _ => false
theorem shBs_spec : ∀ {l m : List BC}, shBs l m = true → payBs l = payBs m → l = m
  | [], [], _, _ => rfl
  | [], _ :: _, h, _ => by simp [shBs] at h
  | _ :: _, [], h, _ => by simp [shBs] at h
  | c :: l, d :: m, h, e => by
    simp only [shBs, Bool.and_eq_true, beq_iff_eq] at h
    obtain ⟨⟨⟨⟨⟨h1, h2⟩, h3⟩, h4⟩, h5⟩, h6⟩ := h
    rw [payBs, payBs] at e
    obtain ⟨e1, e2⟩ := List.append_inj e (shR_len h4)
    obtain ⟨e3, e4⟩ := List.append_inj e2 (shO_len h5)
    have q1 := shR_spec h4 e1
    have q2 := shO_spec h5 e3
    rw [shBs_spec h6 e4]
    obtain ⟨⟨a, b, c', r⟩, cs⟩ := c
    obtain ⟨⟨a', b', c'', r'⟩, cs'⟩ := d
    simp only at h1 h2 h3 q1 q2
    rw [Nat.eq_of_beq_eq_true h1, Nat.eq_of_beq_eq_true h2, h3, q1, q2]

def payH (h : HS) : List Pay := payT h.tm ++ payBs h.bs
def shH (h k : HS) : Bool := shT h.tm k.tm && shBs h.bs k.bs
theorem shH_spec {h k : HS} (s : shH h k = true) (e : payH h = payH k) : h = k := by
  simp only [shH, Bool.and_eq_true] at s
  unfold payH at e
  obtain ⟨e1, e2⟩ := List.append_inj e (shT_len s.1)
  obtain ⟨a, b⟩ := h
  obtain ⟨c, d⟩ := k
  simp only at s e1 e2
  rw [shT_spec s.1 e1, shBs_spec s.2 e2]

def rdS {α : Type} (ks : List PK) (mk : List Pay → α) (hd : α → HS) (h : HS) : Option α := match pkOK (payH h) ks with
  | true => match shH h (hd (mk (payH h))) with
    | true => some (mk (payH h))
    | false => none
  | false => none
theorem rdS_ok {α : Type} {ks : List PK} {mk : List Pay → α} {hd : α → HS} (hp : ∀ l, payH (hd (mk l)) = pkOf l ks 0) : ∀ h v, rdS ks mk hd h = some v → h = hd v := by
  intro h v e
  unfold rdS at e
  split at e
  · rename_i h1
    split at e
    · rename_i h2
      simp only [Option.some.injEq] at e; subst e
      refine shH_spec h2 ?_
      rw [hp]
      exact pkOf_spec (payH h) ks (payH h) 0 h1 (fun j x hx => by rw [Nat.zero_add]; exact hx)
    · cases e
  · cases e

/-- A contract over blocks told so. -/
def packC (c : Con) : Con := fun args bs => match packBs bs with
  | some bs' => match c args bs' with
    | some (obs, v, out) => some (obs, v, padOut out)
    | none => none
  | none => none

theorem packC_ok {P : Program} {f : Nat} {c : Con}
    (hc : ∀ args bs obs lv out, c args bs = some (obs, lv, out) → Alls obs → ∀ (φ : Phi) (vs : Array Value) (w : World) (may : Nat → Prop), All2 (LV.rel φ) args vs.toList →
      MR w may φ (memOf (padBs bs)) (hdsIn (padBs bs) (padOut out)) (fun b => (padBs bs).length ≤ b) w →
      Calls P f vs w fun e w' => ∃ v' φ', e = .returned v' ∧ φ.le φ' ∧ lv.rel φ' v' ∧ MR w may φ' (memAft (padBs bs) (padOut out)) (hdsAft (padBs bs) (padOut out)) (fun b => (padOut out).length ≤ b) w') : ConOK P f (packC c) := by
  intro args bs obs lv out h ho
  unfold packC at h
  split at h
  · rename_i bs' hb
    split at h
    · rename_i o v out' hr
      simp only [Option.some.injEq, Prod.mk.injEq] at h
      obtain ⟨rfl, rfl, rfl⟩ := h
      have := hc args bs' _ _ _ hr ho
      rw [packBs_spec hb] at this
      exact this
    · cases h
  · cases h

theorem rowC_con {P : Program} {D : List (Nat × (Nat × Nat × Nat))} : ConOK P 2 (rowC D) := fun _ _ _ _ _ h ho => (rowC_ok h ho).elim

/-- A contract for a call with one number alone. -/
def litC (i : Nat) (n : Int) (c : Con) : Con := fun args bs => match args[i]? with
  | some (.a (.int false _ m)) => match decide (m = n) with
    | true => c args bs
    | false => none
  | _ => none
theorem litC_ok {P : Program} {f : Nat} {i : Nat} {n : Int} {c : Con} (h : ConOK P f c) : ConOK P f (litC i n c) := by
  intro args bs obs lv out e
  unfold litC at e
  split at e
  · split at e
    · exact h args bs obs lv out e
    · cases e
  · cases e

/-- What stands in a block. -/
def blkIn : List Code → Code
  | [.block _ a] => a
  | _ => .skip
/-- Is a temporary this number, known? -/
def tmpIs (t : Nat) (v : Int) : Sig → Bool := fun σ => match σ t with
  | some (.a (.int false _ n)) => decide (n = v)
  | _ => false

/-- A block of code by a table of its own, where the state is as 'q' asks. -/
def altSum (P : Program) (T : Tab) (n : Nat) (lv : List Nat) (LT : List (Nat × Sum)) (k : Nat) (c : Code) (p : Nat) (q : Sig → Bool) : Sum := fun σ μ ρ nx => match q σ with
  | true => ev P T n lv LT k false c p σ μ ρ nx
  | false => none
theorem altSum_ok {P : Program} {T : Tab} (hT : TOK P T) (hF : P.follows .mixedOrders = true) {n : Nat} {lv : List Nat} {LT : List (Nat × Sum)} {k : Nat} {c : Code} {p : Nat} {q : Sig → Bool} (hL : LOK P n lv LT c p) : SumOK P n lv c (altSum P T n lv LT k c p q) := by
  intro σ μ ρ nx obs alts h
  unfold altSum at h
  split at h
  · exact ev_wp hT hF k false c p σ μ ρ nx h hL
  · cases h

end Go.Proofs.Ytcdejlgophpdjaa.V
end

