/-
  Code, run on the local memory: both ways at a bool that is not known, made one behind it.
-/
import Derived.LoopN
import Derived.Test.YtcdejlgophpdjaaVk
namespace Go.Proofs.Ytcdejlgophpdjaa.V
set_option linter.unusedVariables false
open Go Go.RowKit

inductive X where
  | n | e (id : Nat) | r

def X.real : X → Exit
  | .n => .normal
  | .e id => .exit id
  | .r => .ret

def xeq : X → X → Bool
  | .n, .n => true
  | .r, .r => true
  | .e i, .e j => Nat.beq i j
  | _, _ => false

theorem xeq_spec {x y : X} (h : xeq x y = true) : x = y := by
  cases x <;> cases y <;> simp only [xeq, Bool.false_eq_true] at h <;> try rfl
  rw [Nat.eq_of_beq_eq_true h]

/-- One way that code may end: how, when, what has been laid upon the state by then. -/
structure Alt where
  x : X
  s : Bool
  g : Bool
  d : Pre
  nx : Nat

abbrev Outs := Option (List Prop × List Alt)
abbrev Sum := Sig → Mem → Hds → Nat → Outs

def cAnd (s g s' g' : Bool) : Bool × Bool :=
  match s, g with
  | false, true => (s', g')
  | false, false => (false, false)
  | true, g => match s', g' with
    | false, true => (true, g)
    | false, false => (false, false)
    | true, g' => (true, g && g')

theorem cAnd_spec (s g s' g' : Bool) : (cAnd s g s' g').2 = (g && g') := by cases s <;> cases g <;> cases s' <;> cases g' <;> rfl

def cOr (s g s' g' : Bool) : Bool × Bool :=
  match s, g with
  | false, true => (false, true)
  | false, false => (s', g')
  | true, g => match s', g' with
    | false, true => (false, true)
    | false, false => (true, g)
    | true, g' => (true, g || g')

theorem cOr_spec (s g s' g' : Bool) : (cOr s g s' g').2 = (g || g') := by cases s <;> cases g <;> cases s' <;> cases g' <;> rfl

def Pre.nil : Pre := ⟨[], [], []⟩
/-- One upon the other. -/
def Pre.on (p q : Pre) : Pre := ⟨p.tm ++ q.tm, p.mem ++ q.mem, p.hs ++ q.hs⟩

def insA (lv : List Nat) (nx : Nat) (σ : Sig) (μ : Mem) (ρ : Hds) : List Alt → Alt → Option (List Alt)
  | [], b => some [b]
  | a :: r, b => match xeq a.x b.x with
    | false => match insA lv nx σ μ ρ r b with
      | some r' => some (a :: r')
      | none => none
    | true => match a.s, a.g with
      | false, true => some (a :: r)
      | false, false => some (b :: r)
      | true, c => match merge lv nx σ μ ρ c a.d b.d with
        | some m => some (⟨a.x, (cOr true c b.s b.g).1, (cOr true c b.s b.g).2, m, Nat.max a.nx b.nx⟩ :: r)
        | none => none

def insAll (lv : List Nat) (nx : Nat) (σ : Sig) (μ : Mem) (ρ : Hds) : List Alt → List Alt → Option (List Alt)
  | l, [] => some l
  | l, b :: r => match insA lv nx σ μ ρ l b with
    | some l' => insAll lv nx σ μ ρ l' r
    | none => none

def noN : List Alt → Bool
  | [] => true
  | a :: r => match a.x with
    | .n => false
    | _ => noN r

/-- The one that goes on, and the others. -/
def splitN : List Alt → Option (Option Alt × List Alt)
  | [] => some (none, [])
  | a :: r => match a.x with
    | .n => match noN r with
      | true => some (some a, r)
      | false => none
    | _ => match splitN r with
      | some (c, l) => some (c, a :: l)
      | none => none

/-- What follows one that goes on. -/
def behind (c : Alt) : List Alt → List Alt
  | [] => []
  | b :: r => ⟨b.x, (cAnd c.s c.g b.s b.g).1, (cAnd c.s c.g b.s b.g).2, b.d.on c.d, b.nx⟩ :: behind c r

def underO (s g : Bool) (l : List Prop) : List Prop :=
  match s, g with
  | false, true => l
  | false, false => []
  | true, g => under g true l

def takeX (x : X) : List Alt → Option (Alt × List Alt)
  | [] => none
  | b :: r => match xeq x b.x with
    | true => some (b, r)
    | false => match takeX x r with
      | some (c, l) => some (c, b :: l)
      | none => none

def whenN (q : Bool) : List Alt → List Alt
  | [] => []
  | b :: r => ⟨b.x, (cAnd true (!q) b.s b.g).1, (cAnd true (!q) b.s b.g).2, b.d, b.nx⟩ :: whenN q r

def both (s g s' g' q : Bool) : Bool × Bool :=
  match s, g, s', g' with
  | false, true, false, true => (false, true)
  | _, _, _, _ => (true, bif q then g else g')

theorem both_spec (s g s' g' q : Bool) : (both s g s' g' q).2 = (bif q then g else g') := by cases s <;> cases g <;> cases s' <;> cases g' <;> cases q <;> rfl

/-- Two ways, by a bool. -/
def joinC (lv : List Nat) (nx : Nat) (σ : Sig) (μ : Mem) (ρ : Hds) (q : Bool) : List Alt → List Alt → Option (List Alt)
  | [], bs => some (whenN q bs)
  | a :: r, bs => match takeX a.x bs with
    | none => match joinC lv nx σ μ ρ q r bs with
      | some l => some (⟨a.x, (cAnd true q a.s a.g).1, (cAnd true q a.s a.g).2, a.d, a.nx⟩ :: l)
      | none => none
    | some (b, bs') => match merge lv nx σ μ ρ q a.d b.d, joinC lv nx σ μ ρ q r bs' with
      | some m, some l => some (⟨a.x, (both a.s a.g b.s b.g q).1, (both a.s a.g b.s b.g q).2, m, Nat.max a.nx b.nx⟩ :: l)
      | _, _ => none

/-- The block's own exits go on. -/
def out1 (id : Nat) (a : Alt) : Alt :=
  match a.x with
  | .e i => match Nat.beq i id with
    | true => ⟨.n, a.s, a.g, a.d, a.nx⟩
    | false => a
  | _ => a

def outOf (id : Nat) : List Alt → List Alt
  | [] => []
  | a :: r => out1 id a :: outOf id r

/-- A bool that code asks for. -/
def condOf (lv : List Nat) (σ : Sig) (q : Operand) : Option (Bool × Bool) :=
  match lev (filt lv σ) q with
  | some (.a (.bool s b)) => some (s, b)
  | _ => none

/-- What is known of a place, if it fits. -/
def trySum : List (Nat × Sum) → Nat → Sig → Mem → Hds → Nat → Outs
  | [], _, _, _, _, _ => none
  | (q, f) :: r, p, σ, μ, ρ, nx => match Nat.beq q p with
    | true => match f σ μ ρ nx with
      | some x => some x
      | none => trySum r p σ μ ρ nx
    | false => trySum r p σ μ ρ nx

theorem trySum_mem : ∀ {LT : List (Nat × Sum)} {p : Nat} {σ : Sig} {μ : Mem} {ρ : Hds} {nx : Nat} {x : List Prop × List Alt}, trySum LT p σ μ ρ nx = some x → ∃ f, (p, f) ∈ LT ∧ f σ μ ρ nx = some x
  | (q, f) :: r, p, σ, μ, ρ, nx, x, h => by
    have rest : trySum r p σ μ ρ nx = some x → ∃ g, (p, g) ∈ (q, f) :: r ∧ g σ μ ρ nx = some x := fun h => by
      obtain ⟨g, h1, h2⟩ := trySum_mem h
      exact ⟨g, List.mem_cons_of_mem _ h1, h2⟩
    unfold trySum at h
    split at h
    · rename_i hb
      have := Nat.eq_of_beq_eq_true hb
      subst this
      split at h
      · rename_i y hy
        simp only [Option.some.injEq] at h; subst h
        exact ⟨f, by simp, hy⟩
      · exact rest h
    · exact rest h

/-- Code on the local memory; 'true': a loop's rounds. LT: what is known of loops, by their place in the code. -/
def ev (P : Program) (T : Tab) (n : Nat) (lv : List Nat) (LT : List (Nat × Sum)) : Nat → Bool → Code → Nat → Sig → Mem → Hds → Nat → Outs
  | 0, _, _, _, _, _, _, _ => none
  | k + 1, true, c, p, σ, μ, ρ, nx => match ev P T n lv LT k false c p σ μ ρ nx with
    | none => none
    | some (obs, alts) => match splitN alts with
      | none => none
      | some (none, l) => some (obs, l)
      | some (some a, l) => match ev P T n lv LT k true c p (over a.d.tm σ) (over a.d.mem μ) (over a.d.hs ρ) a.nx with
        | none => none
        | some (obs', bs) => match insAll lv nx σ μ ρ l (behind a bs) with
          | some r => some (obs ++ underO a.s a.g obs', r)
          | none => none
  | k + 1, false, c, p, σ, μ, ρ, nx => match c with
    | .skip => some ([], [⟨.n, false, true, .nil, nx⟩])
    | .region _ ops draw => match levR P T n lv nx σ μ ρ ops draw ops.toList 0 nx [] [] [] [] with
      | some (obs, d) => some (obs, [⟨.n, false, true, d, nx + 16 * ops.size⟩])
      | none => none
    | .seq a b => match ev P T n lv LT k false a (2 * p) σ μ ρ nx with
      | none => none
      | some (obs, alts) => match splitN alts with
        | none => none
        | some (none, l) => some (obs, l)
        | some (some c, l) => match ev P T n lv LT k false b (2 * p + 1) (over c.d.tm σ) (over c.d.mem μ) (over c.d.hs ρ) c.nx with
          | none => none
          | some (obs', bs) => match insAll lv nx σ μ ρ l (behind c bs) with
            | some r => some (obs ++ underO c.s c.g obs', r)
            | none => none
    | .cond q a b => match condOf lv σ q with
      | some (false, true) => ev P T n lv LT k false a (2 * p) σ μ ρ nx
      | some (false, false) => ev P T n lv LT k false b (2 * p + 1) σ μ ρ nx
      | some (true, g) => match decAt T p with
        | some true => match ev P T n lv LT k false a (2 * p) σ μ ρ nx with
          | some (o1, l1) => some ((g = true) :: o1, l1)
          | none => none
        | some false => match ev P T n lv LT k false b (2 * p + 1) σ μ ρ nx with
          | some (o2, l2) => some ((g = false) :: o2, l2)
          | none => none
        | none => match ev P T n lv LT k false a (2 * p) σ μ ρ nx, ev P T n lv LT k false b (2 * p + 1) σ μ ρ nx with
          | some (o1, l1), some (o2, l2) => match joinC lv nx σ μ ρ g l1 l2 with
            | some l => some (under g true o1 ++ under g false o2, l)
            | none => none
          | _, _ => none
      | none => none
    | .block id a => match trySum LT p σ μ ρ nx with
      | some x => some x
      | none => match ev P T n lv LT k false a (2 * p) σ μ ρ nx with
        | some (obs, alts) => match insAll lv nx σ μ ρ [] (outOf id alts) with
          | some l => some (obs, l)
          | none => none
        | none => none
    | .loop a => ev P T n lv LT k true a (2 * p) σ μ ρ nx
    | .exit id => some ([], [⟨.e id, false, true, .nil, nx⟩])
    | .ret => some ([], [⟨.r, false, true, .nil, nx⟩])
    | _ => none

section
variable {P : Program} {w0 : World} {may : Nat → Prop} {T : Tab} {n : Nat} {lv : List Nat}

/-- This alternative is the one that came about. -/
def On (n : Nat) (lv : List Nat) (w0 : World) (may : Nat → Prop) (φ : Phi) (σ : Sig) (μ : Mem) (ρ : Hds) (x : X) (a' : Act) (w' : World) (α : Alt) : Prop :=
  α.x = x ∧ α.g = true ∧ ∃ ψ, φ.le ψ ∧ SR n lv w0 may ψ (over α.d.tm σ) (over α.d.mem μ) (over α.d.hs ρ) α.nx a' w'

def Good (n : Nat) (lv : List Nat) (w0 : World) (may : Nat → Prop) (φ : Phi) (σ : Sig) (μ : Mem) (ρ : Hds) (x : X) (a' : Act) (w' : World) (l : List Alt) : Prop :=
  (∃ α ∈ l, On n lv w0 may φ σ μ ρ x a' w' α) ∧ ∀ α ∈ l, On n lv w0 may φ σ μ ρ x a' w' α ∨ α.g = false

/-- What is known of code: from a state, to what it may end in. -/
def Sound (P : Program) (n : Nat) (lv : List Nat) (c : Code) (σ : Sig) (μ : Mem) (ρ : Hds) (nx : Nat) (obs : List Prop) (alts : List Alt) : Prop :=
  Alls obs → ∀ (w0 : World) (may : Nat → Prop) (φ : Phi) (a : Act) (w : World), SR n lv w0 may φ σ μ ρ nx a w → ∀ (Q : Exit → Act → World → Prop), (∀ x a' w', Good n lv w0 may φ σ μ ρ x a' w' alts → Q x.real a' w') → c.wp P Q a w

def SumOK (P : Program) (n : Nat) (lv : List Nat) (c : Code) (f : Sum) : Prop := ∀ σ μ ρ nx obs alts, f σ μ ρ nx = some (obs, alts) → Sound P n lv c σ μ ρ nx obs alts

/-- The loops' places in code. -/
def LOK (P : Program) (n : Nat) (lv : List Nat) (LT : List (Nat × Sum)) : Code → Nat → Prop
  | .seq a b, p => LOK P n lv LT a (2 * p) ∧ LOK P n lv LT b (2 * p + 1)
  | .cond _ a b, p => LOK P n lv LT a (2 * p) ∧ LOK P n lv LT b (2 * p + 1)
  | .block id a, p => (∀ f, (p, f) ∈ LT → SumOK P n lv (.block id a) f) ∧ LOK P n lv LT a (2 * p)
  | .loop a, p => LOK P n lv LT a (2 * p)
  | _, _ => True

theorem LOK_nil : ∀ (c : Code) (p : Nat), LOK P n lv [] c p
  | .seq a b, p => ⟨LOK_nil a _, LOK_nil b _⟩
  | .cond _ a b, p => ⟨LOK_nil a _, LOK_nil b _⟩
  | .block id a, p => ⟨fun f h => (List.not_mem_nil h).elim, LOK_nil a _⟩
  | .loop a, p => LOK_nil a _
  | .skip, _ => trivial
  | .region .., _ => trivial
  | .rangeFunc .., _ => trivial
  | .exit _, _ => trivial
  | .scope _, _ => trivial
  | .label _, _ => trivial
  | .goto _, _ => trivial
  | .ret, _ => trivial
  | .refuse _, _ => trivial

theorem SR.fresh {φ : Phi} {σ : Sig} {μ : Mem} {ρ : Hds} {nx : Nat} {a : Act} {w : World} (hs : SR n lv w0 may φ σ μ ρ nx a w) : (∀ b, nx ≤ b → ρ b = none) ∧ (∀ k x, nx ≤ k / 65536 → μ k = some x → x = .unk) := by
  refine ⟨fun b hb => ?_, fun k x hk hx => cell_none hs.mr hx (hs.mr.dom _ hk)⟩
  cases e : ρ b with
  | none => rfl
  | some g =>
    obtain ⟨i, hi, _⟩ := hs.mr.hdr b g e
    rw [hs.mr.dom b hb] at hi; cases hi

theorem SR.more {φ : Phi} {σ : Sig} {μ : Mem} {ρ : Hds} {nx nx' : Nat} {a : Act} {w : World} (hs : SR n lv w0 may φ σ μ ρ nx a w) (h : nx ≤ nx') : SR n lv w0 may φ σ μ ρ nx' a w :=
  ⟨hs.tr, hs.sz, hs.df, hs.mr.drop fun _ hb => Nat.le_trans h hb⟩

section
variable {φ : Phi} {σ : Sig} {μ : Mem} {ρ : Hds} {nx : Nat} {x : X} {a' : Act} {w' : World}
variable (hf1 : ∀ b, nx ≤ b → ρ b = none) (hf2 : ∀ k y, nx ≤ k / 65536 → μ k = some y → y = .unk)
include hf1 hf2

theorem merge_on {c : Bool} {p q m : Pre} {k k' : Nat} (hm : merge lv nx σ μ ρ c p q = some m) {ψ : Phi} (hl : φ.le ψ) (hs : SR n lv w0 may ψ (over (bif c then p else q).tm σ) (over (bif c then p else q).mem μ) (over (bif c then p else q).hs ρ) (bif c then k else k') a' w') :
    ∃ χ, φ.le χ ∧ SR n lv w0 may χ (over m.tm σ) (over m.mem μ) (over m.hs ρ) (Nat.max k k') a' w' := by
  obtain ⟨χ, h1, h2⟩ := merge_sr hm hf1 hf2 (hs.more (nx' := Nat.max k k') (by cases c <;> simp [Nat.le_max_left, Nat.le_max_right]))
  exact ⟨χ, Phi.le_trans hl h1, h2⟩

theorem insA_on : ∀ {l : List Alt} {b : Alt} {r : List Alt}, insA lv nx σ μ ρ l b = some r → (∀ α ∈ l, On n lv w0 may φ σ μ ρ x a' w' α ∨ α.g = false) → (On n lv w0 may φ σ μ ρ x a' w' b ∨ b.g = false) →
    (∀ α ∈ r, On n lv w0 may φ σ μ ρ x a' w' α ∨ α.g = false) ∧ (((∃ α ∈ l, On n lv w0 may φ σ μ ρ x a' w' α) ∨ On n lv w0 may φ σ μ ρ x a' w' b) → ∃ α ∈ r, On n lv w0 may φ σ μ ρ x a' w' α)
  | [], b, r, h, _, hb => by
    simp only [insA, Option.some.injEq] at h; subst h
    refine ⟨fun α hα => by simp at hα; subst hα; exact hb, fun hon => ⟨b, by simp, ?_⟩⟩
    rcases hon with ⟨α, hα, _⟩ | hon
    · cases hα
    · exact hon
  | a :: l, b, r, h, hl, hb => by
    have ha := hl a (by simp)
    have hl' : ∀ α ∈ l, On n lv w0 may φ σ μ ρ x a' w' α ∨ α.g = false := fun α hα => hl α (by simp [hα])
    unfold insA at h
    split at h
    · split at h
      · rename_i r' hr
        simp only [Option.some.injEq] at h; subst h
        obtain ⟨g1, g2⟩ := insA_on hr hl' hb
        refine ⟨fun α hα => ?_, fun hon => ?_⟩
        · rcases List.mem_cons.1 hα with rfl | hα
          · exact ha
          · exact g1 α hα
        · rcases hon with ⟨α, hα, hon⟩ | hon
          · rcases List.mem_cons.1 hα with rfl | hα
            · exact ⟨_, by simp, hon⟩
            · obtain ⟨β, hβ, q⟩ := g2 (.inl ⟨α, hα, hon⟩); exact ⟨β, by simp [hβ], q⟩
          · obtain ⟨β, hβ, q⟩ := g2 (.inr hon); exact ⟨β, by simp [hβ], q⟩
      · cases h
    · rename_i hx
      have hx := xeq_spec hx
      split at h
      · rename_i hs1 hg1
        simp only [Option.some.injEq] at h; subst h
        refine ⟨hl, fun hon => ?_⟩
        rcases hon with hon | hon
        · exact hon
        · rcases ha with ha | ha
          · exact ⟨a, by simp, ha⟩
          · rw [hg1] at ha; cases ha
      · rename_i hs1 hg1
        simp only [Option.some.injEq] at h; subst h
        refine ⟨fun α hα => ?_, fun hon => ?_⟩
        · rcases List.mem_cons.1 hα with rfl | hα
          · exact hb
          · exact hl' α hα
        · rcases hon with ⟨α, hα, hon⟩ | hon
          · rcases List.mem_cons.1 hα with rfl | hα
            · have := hon.2.1; rw [hg1] at this; cases this
            · exact ⟨α, by simp [hα], hon⟩
          · exact ⟨b, by simp, hon⟩
      · rename_i hs1
        split at h
        · rename_i m hm
          simp only [Option.some.injEq] at h; subst h
          have key : (On n lv w0 may φ σ μ ρ x a' w' a ∨ On n lv w0 may φ σ μ ρ x a' w' b) → On n lv w0 may φ σ μ ρ x a' w' ⟨a.x, (cOr true a.g b.s b.g).1, (cOr true a.g b.s b.g).2, m, Nat.max a.nx b.nx⟩ := by
            intro hon
            cases hg : a.g with
            | true =>
              rw [hg] at hm
              rcases ha with ha | ha
              · obtain ⟨e1, e2, ψ, e3, e4⟩ := ha
                exact ⟨e1, by simp only [cOr_spec, Bool.true_or], merge_on hf1 hf2 hm e3 e4⟩
              · rw [hg] at ha; cases ha
            | false =>
              rw [hg] at hm
              have hon : On n lv w0 may φ σ μ ρ x a' w' b := by
                rcases hon with hon | hon
                · have := hon.2.1; rw [hg] at this; cases this
                · exact hon
              obtain ⟨e1, e2, ψ, e3, e4⟩ := hon
              exact ⟨hx.trans e1, by simp only [cOr_spec, e2, Bool.or_true], merge_on hf1 hf2 hm e3 e4⟩
          refine ⟨fun α hα => ?_, fun hon => ?_⟩
          · rcases List.mem_cons.1 hα with rfl | hα
            · rcases ha with ha | ha
              · exact .inl (key (.inl ha))
              · rcases hb with hb | hb
                · exact .inl (key (.inr hb))
                · right; simp only [cOr_spec, ha, hb, Bool.or_false]
            · exact hl' α hα
          · rcases hon with ⟨α, hα, hon⟩ | hon
            · rcases List.mem_cons.1 hα with rfl | hα
              · exact ⟨_, List.mem_cons_self, key (.inl hon)⟩
              · exact ⟨α, by simp [hα], hon⟩
            · exact ⟨_, List.mem_cons_self, key (.inr hon)⟩
        · cases h

theorem insAll_on : ∀ {bs : List Alt} {l r : List Alt}, insAll lv nx σ μ ρ l bs = some r → (∀ α ∈ l, On n lv w0 may φ σ μ ρ x a' w' α ∨ α.g = false) → (∀ α ∈ bs, On n lv w0 may φ σ μ ρ x a' w' α ∨ α.g = false) →
    (∀ α ∈ r, On n lv w0 may φ σ μ ρ x a' w' α ∨ α.g = false) ∧ (((∃ α ∈ l, On n lv w0 may φ σ μ ρ x a' w' α) ∨ ∃ α ∈ bs, On n lv w0 may φ σ μ ρ x a' w' α) → ∃ α ∈ r, On n lv w0 may φ σ μ ρ x a' w' α)
  | [], l, r, h, hl, _ => by
    simp only [insAll, Option.some.injEq] at h; subst h
    refine ⟨hl, fun hon => ?_⟩
    rcases hon with hon | ⟨α, hα, _⟩
    · exact hon
    · cases hα
  | b :: bs, l, r, h, hl, hb => by
    unfold insAll at h
    split at h
    · rename_i l' hl'
      obtain ⟨g1, g2⟩ := insA_on hf1 hf2 hl' hl (hb b (by simp))
      obtain ⟨k1, k2⟩ := insAll_on h g1 (fun α hα => hb α (by simp [hα]))
      refine ⟨k1, fun hon => k2 ?_⟩
      rcases hon with hon | ⟨α, hα, hon⟩
      · exact .inl (g2 (.inl hon))
      · rcases List.mem_cons.1 hα with rfl | hα
        · exact .inl (g2 (.inr hon))
        · exact .inr ⟨α, hα, hon⟩
    · cases h

omit hf1 hf2 in
theorem takeX_spec {y : X} : ∀ {bs : List Alt} {b : Alt} {r : List Alt}, takeX y bs = some (b, r) → b.x = y ∧ (∀ α, α ∈ bs ↔ α = b ∨ α ∈ r)
  | [], b, r, h => by simp [takeX] at h
  | c :: bs, b, r, h => by
    unfold takeX at h
    split at h
    · rename_i hx
      simp only [Option.some.injEq, Prod.mk.injEq] at h
      obtain ⟨rfl, rfl⟩ := h
      exact ⟨(xeq_spec hx).symm, fun α => by simp⟩
    · split at h
      · rename_i b' r' hr
        simp only [Option.some.injEq, Prod.mk.injEq] at h
        obtain ⟨rfl, rfl⟩ := h
        obtain ⟨h1, h2⟩ := takeX_spec hr
        exact ⟨h1, fun α => by simp only [List.mem_cons, h2]; exact ⟨fun h => by rcases h with h | h | h <;> simp [h], fun h => by rcases h with h | h | h <;> simp [h]⟩⟩
      · cases h

omit hf1 hf2 in
theorem whenN_false {q : Bool} (hq : q = true) : ∀ {bs : List Alt} {α : Alt}, α ∈ whenN q bs → α.g = false
  | [], α, h => by cases h
  | b :: bs, α, h => by
    unfold whenN at h
    rcases List.mem_cons.1 h with rfl | h
    · simp only [cAnd_spec, hq, Bool.not_true, Bool.false_and]
    · exact whenN_false hq h

omit hf1 hf2 in
theorem whenN_on {q : Bool} (hq : q = false) : ∀ {bs : List Alt}, (∀ α ∈ bs, On n lv w0 may φ σ μ ρ x a' w' α ∨ α.g = false) → (∀ α ∈ whenN q bs, On n lv w0 may φ σ μ ρ x a' w' α ∨ α.g = false) ∧ ((∃ α ∈ bs, On n lv w0 may φ σ μ ρ x a' w' α) → ∃ α ∈ whenN q bs, On n lv w0 may φ σ μ ρ x a' w' α)
  | [], h => ⟨(fun α hα => by cases hα), (fun ⟨α, hα, _⟩ => by cases hα)⟩
  | b :: bs, h => by
    obtain ⟨g1, g2⟩ := whenN_on hq (bs := bs) fun α hα => h α (by simp [hα])
    have key : On n lv w0 may φ σ μ ρ x a' w' b → On n lv w0 may φ σ μ ρ x a' w' ⟨b.x, (cAnd true (!q) b.s b.g).1, (cAnd true (!q) b.s b.g).2, b.d, b.nx⟩ := fun hb => ⟨hb.1, by simp only [cAnd_spec, hq, hb.2.1]; rfl, hb.2.2⟩
    refine ⟨fun α hα => ?_, fun ⟨α, hα, hon⟩ => ?_⟩
    · unfold whenN at hα
      rcases List.mem_cons.1 hα with rfl | hα
      · rcases h b (by simp) with hb | hb
        · exact .inl (key hb)
        · right; simp only [cAnd_spec, hb, Bool.and_false]
      · exact g1 α hα
    · rcases List.mem_cons.1 hα with rfl | hα
      · exact ⟨_, List.mem_cons_self, key hon⟩
      · obtain ⟨β, hβ, q⟩ := g2 ⟨α, hα, hon⟩; exact ⟨β, List.mem_cons_of_mem _ hβ, q⟩

theorem joinC_t : ∀ {l bs r : List Alt}, joinC lv nx σ μ ρ true l bs = some r → (∀ α ∈ l, On n lv w0 may φ σ μ ρ x a' w' α ∨ α.g = false) →
    (∀ α ∈ r, On n lv w0 may φ σ μ ρ x a' w' α ∨ α.g = false) ∧ ((∃ α ∈ l, On n lv w0 may φ σ μ ρ x a' w' α) → ∃ α ∈ r, On n lv w0 may φ σ μ ρ x a' w' α)
  | [], bs, r, h, _ => by
    simp only [joinC, Option.some.injEq] at h; subst h
    exact ⟨fun α hα => .inr (whenN_false rfl hα), fun ⟨α, hα, _⟩ => by cases hα⟩
  | a :: l, bs, r, h, hl => by
    have ha := hl a (by simp)
    have hl' : ∀ α ∈ l, On n lv w0 may φ σ μ ρ x a' w' α ∨ α.g = false := fun α hα => hl α (by simp [hα])
    unfold joinC at h
    have fin : ∀ {h0 : Alt} {r' : List Alt}, (On n lv w0 may φ σ μ ρ x a' w' a → On n lv w0 may φ σ μ ρ x a' w' h0) → (a.g = false → h0.g = false) →
        ((∀ α ∈ r', On n lv w0 may φ σ μ ρ x a' w' α ∨ α.g = false) ∧ ((∃ α ∈ l, On n lv w0 may φ σ μ ρ x a' w' α) → ∃ α ∈ r', On n lv w0 may φ σ μ ρ x a' w' α)) →
        (∀ α ∈ h0 :: r', On n lv w0 may φ σ μ ρ x a' w' α ∨ α.g = false) ∧ ((∃ α ∈ a :: l, On n lv w0 may φ σ μ ρ x a' w' α) → ∃ α ∈ h0 :: r', On n lv w0 may φ σ μ ρ x a' w' α) := by
      intro h0 r' k1 k2 ⟨g1, g2⟩
      refine ⟨fun α hα => ?_, fun ⟨α, hα, hon⟩ => ?_⟩
      · rcases List.mem_cons.1 hα with rfl | hα
        · exact ha.imp k1 k2
        · exact g1 α hα
      · rcases List.mem_cons.1 hα with rfl | hα
        · exact ⟨_, List.mem_cons_self, k1 hon⟩
        · obtain ⟨β, hβ, q⟩ := g2 ⟨α, hα, hon⟩; exact ⟨β, List.mem_cons_of_mem _ hβ, q⟩
    split at h
    · split at h
      · rename_i r' hr
        simp only [Option.some.injEq] at h; subst h
        refine fin (fun hon => ⟨hon.1, by simp only [cAnd_spec, hon.2.1]; rfl, hon.2.2⟩) (fun e => by simp only [cAnd_spec, e]; rfl) (joinC_t hr hl')
      · cases h
    · rename_i b bs' ht
      split at h
      · rename_i m r' hm hr
        simp only [Option.some.injEq] at h; subst h
        refine fin (fun hon => ?_) (fun e => by simp only [both_spec, e]; rfl) (joinC_t hr hl')
        obtain ⟨e1, e2, ψ, e3, e4⟩ := hon
        exact ⟨e1, by simp only [both_spec, e2]; rfl, merge_on hf1 hf2 hm e3 e4⟩
      · cases h

theorem joinC_f : ∀ {l bs r : List Alt}, joinC lv nx σ μ ρ false l bs = some r → (∀ α ∈ bs, On n lv w0 may φ σ μ ρ x a' w' α ∨ α.g = false) →
    (∀ α ∈ r, On n lv w0 may φ σ μ ρ x a' w' α ∨ α.g = false) ∧ ((∃ α ∈ bs, On n lv w0 may φ σ μ ρ x a' w' α) → ∃ α ∈ r, On n lv w0 may φ σ μ ρ x a' w' α)
  | [], bs, r, h, hb => by
    simp only [joinC, Option.some.injEq] at h; subst h
    exact whenN_on rfl hb
  | a :: l, bs, r, h, hb => by
    unfold joinC at h
    split at h
    · split at h
      · rename_i r' hr
        simp only [Option.some.injEq] at h; subst h
        obtain ⟨g1, g2⟩ := joinC_f hr hb
        refine ⟨fun α hα => ?_, fun hon => ?_⟩
        · rcases List.mem_cons.1 hα with rfl | hα
          · right; simp only [cAnd_spec, Bool.false_and]
          · exact g1 α hα
        · obtain ⟨β, hβ, q⟩ := g2 hon; exact ⟨β, List.mem_cons_of_mem _ hβ, q⟩
      · cases h
    · rename_i b bs' ht
      split at h
      · rename_i m r' hm hr
        simp only [Option.some.injEq] at h; subst h
        obtain ⟨t1, t2⟩ := takeX_spec ht
        obtain ⟨g1, g2⟩ := joinC_f hr (fun α hα => hb α ((t2 α).2 (.inr hα)))
        have key : On n lv w0 may φ σ μ ρ x a' w' b → On n lv w0 may φ σ μ ρ x a' w' ⟨a.x, (both a.s a.g b.s b.g false).1, (both a.s a.g b.s b.g false).2, m, Nat.max a.nx b.nx⟩ := by
          intro hon
          obtain ⟨e1, e2, ψ, e3, e4⟩ := hon
          exact ⟨t1.symm.trans e1, by simp only [both_spec, e2]; rfl, merge_on hf1 hf2 hm e3 e4⟩
        refine ⟨fun α hα => ?_, fun ⟨α, hα, hon⟩ => ?_⟩
        · rcases List.mem_cons.1 hα with rfl | hα
          · rcases hb b ((t2 b).2 (.inl rfl)) with hb' | hb'
            · exact .inl (key hb')
            · right; simp only [both_spec, hb']; rfl
          · exact g1 α hα
        · rcases (t2 α).1 hα with rfl | hα
          · exact ⟨_, List.mem_cons_self, key hon⟩
          · obtain ⟨β, hβ, q⟩ := g2 ⟨α, hα, hon⟩; exact ⟨β, List.mem_cons_of_mem _ hβ, q⟩
      · cases h

end
end
end Go.Proofs.Ytcdejlgophpdjaa.V
