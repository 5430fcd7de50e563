/-
  A region of operations: in the text's order, and in whatever order the edges leave open.
-/
import Derived.Test.YthgjacfikicgnaaKe
namespace Go.Proofs.Ythgjacfikicgnaa.K
open Go Go.RowKit

def look {β : Type} : List (Nat × β) → Nat → Option β
  | [], _ => none
  | (k, v) :: r, n => match Nat.beq n k with
    | true => some v
    | false => look r n

theorem look_cons {β : Type} (k : Nat) (v : β) (r : List (Nat × β)) : look ((k, v) :: r) = upd (look r) k v := by
  funext n
  simp only [look, upd]
  cases hb : Nat.beq n k
  · have : n ≠ k := fun e => by subst e; simp at hb
    simp [this]
  · have : n = k := Nat.eq_of_beq_eq_true hb
    simp [this]

def lwanted (σ : Sig) (ops : Array Oper) (o : Oper) : Option Bool :=
  match o.guard with
  | none => some true
  | some (j, want) => match (ops[j]?).bind (·.dst) with
    | some d => match σ d with
      | some (.a (.bool b)) => some (b == want)
      | some (.t _) => some false
      | _ => none
    | none => none

theorem lwanted_spec {φ : Phi} {σ : Sig} {ops : Array Oper} {o : Oper} {a : Act} {q : Bool} (h : lwanted σ ops o = some q) (hσ : TRel φ σ a.tmps) : Region.wanted o (yielded ops a.tmps) = q := by
  unfold lwanted at h
  unfold Region.wanted
  split at h
  · rename_i hg; simp only [Option.some.injEq] at h; simp [hg, h]
  · rename_i j want hg
    simp only [hg]
    split at h
    · rename_i d hd
      split at h
      · rename_i b hb
        simp only [Option.some.injEq] at h
        have hv : a.tmps.getD d undef = .bool b := hσ d _ hb
        have hv' : a.tmps[d]? = some (.bool b) := by
          rw [Array.getD_eq_getD_getElem?] at hv
          cases hx : a.tmps[d]? with
          | none => rw [hx] at hv; simp [undef] at hv
          | some u => rw [hx] at hv; simpa using hv
        simp only [yielded, hd, Option.bind_some, hv']
        rw [← h]
        cases b <;> cases want <;> rfl
      · rename_i l hb
        simp only [Option.some.injEq] at h
        obtain ⟨vs, hv, _⟩ := hσ d _ hb
        have hy : yielded ops a.tmps j = none := by
          unfold yielded
          rw [hd, Option.bind_some]
          rw [Array.getD_eq_getD_getElem?] at hv
          cases hx : a.tmps[d]? with
          | none => rfl
          | some u =>
            rw [hx] at hv
            simp only [Option.getD_some] at hv
            subst hv; rfl
        rw [hy, ← h]; rfl
      · cases h
    · cases h

def usesIdx : Op → Bool
  | .indexAddr .. | .index .. | .slice .. => true
  | .binOp .quo .. | .binOp .rem .. | .binOp .shl .. | .binOp .shr .. => true
  | _ => false

/-- A bool that is decided is laid as a premise. -/
def fixed (d : D) (v : LV) : List Prop × LV :=
  match v with
  | .a (.bool b) => match d with
    | .k => ([], v)
    | .t => ([b = true], .a (.bool true))
    | .f => ([b = false], .a (.bool false))
  | _ => ([], v)

theorem fixed_spec {φ : Phi} {d : D} {v : LV} {x : Value} (ho : Alls (fixed d v).1) (h : v.rel φ x) : (fixed d v).2.rel φ x := by
  unfold fixed at *
  split
  · rename_i b
    cases d
    · exact h
    · have hb : b = true := ho.1
      subst hb; exact h
    · have hb : b = false := ho.1
      subst hb; exact h
  · exact h

def isB : LV → Bool
  | .a (.bool _) => true
  | _ => false

abbrev Item := LV × Option (Nat × List At)

def lstep (P : Program) (T : Tab) (ops : Array Oper) (id : Nat) (σ : Sig) (μ : Loc) (d : D) (o : Oper) : Option (List Prop × Item × Bool) :=
  match lwanted σ ops o with
  | some false => some ([], (.t [], none), false)
  | some true => match lop P T id σ μ d o with
    | some (obs, v, ef) => match usesIdx o.op with
      | true => some (obs, (v, ef), true)
      | false => some ((fixed d v).1 ++ obs, ((fixed d v).2, ef), isB v)
    | none => none
  | none => none

section
variable {P : Program} {w0 : World} {may : Nat → Prop} {φ : Phi} {σ : Sig} {μ : Loc} {fr : Nat → Prop} {w : World} {a : Act} {o : Oper}

theorem lstep_wp {T : Tab} (hT : TOK P T) {ops : Array Oper} {id : Nat} {d : D} {obs : List Prop} {v : LV} {ef : Option (Nat × List At)} {u : Bool} (h : lstep P T ops id σ μ d o = some (obs, (v, ef), u)) (ho : Alls obs)
    (hσ : TRel φ σ a.tmps) (hM : MR w0 may φ μ fr w) (hid : fr id) {next : Act → World → Prop} {Q : Exit → Act → World → Prop}
    (hn : ∀ φ' x w', φ.le φ' → v.rel φ' x → MR w0 may φ' (eff μ ef) (fun b => fr b ∧ b ≠ id) w' → next (a.put o.dst x) w') :
    if Region.wanted o (yielded ops a.tmps) then o.wp P a w next Q ∨ (o.asks P a w ∧ LetsOut Q) else next (a.put o.dst undef) w := by
  unfold lstep at h
  split at h
  · rename_i hw
    simp only [Option.some.injEq, Prod.mk.injEq] at h
    obtain ⟨_, ⟨rfl, rfl⟩, _⟩ := h
    rw [lwanted_spec hw hσ]
    exact hn φ _ w φ.le_refl ⟨#[], rfl, .nil⟩ (hM.drop fun _ hb => hb.1)
  · rename_i hw
    rw [lwanted_spec hw hσ]
    refine .inl ?_
    split at h
    · rename_i obs' v' ef' hl
      split at h
      · simp only [Option.some.injEq, Prod.mk.injEq] at h
        obtain ⟨rfl, ⟨rfl, rfl⟩, _⟩ := h
        exact lop_wp hT hl ho hσ hM hid hn
      · simp only [Option.some.injEq, Prod.mk.injEq] at h
        obtain ⟨rfl, ⟨rfl, rfl⟩, _⟩ := h
        obtain ⟨h1, h2⟩ := Alls.append.1 ho
        exact lop_wp hT hl h2 hσ hM hid fun φ' x w' hle hr hm => hn φ' x w' hle (fixed_spec h1 hr) hm
    · cases h
  · cases h

end

def putT (tm : List (Nat × LV)) (dst : Option Nat) (v : LV) : List (Nat × LV) :=
  match dst with
  | some d => (d, v) :: tm
  | none => tm

def dstOK (dst : Option Nat) (n : Nat) : Bool :=
  match dst with
  | some d => Nat.blt d n
  | none => true

def putM (mem : List (Nat × List At)) (ef : Option (Nat × List At)) : List (Nat × List At) :=
  match ef with
  | some (b, l) => (b, l) :: mem
  | none => mem

def tailD (u : Bool) (ds : List D) : List D :=
  match u with
  | true => ds.tail
  | false => ds

/-- Which blocks an operation looks into. -/
def rblk (σ : Sig) (o : Oper) : List Nat :=
  match o.op with
  | .load _ x | .store _ x _ => match lev σ x with
    | some (.a (.ptr b _)) => [b]
    | _ => []
  | _ => []

/-- The whole list in the text's order: premises, temporaries, memory, what is left of the decisions; and what each has yielded. -/
def levOps (P : Program) (T : Tab) (n : Nat) (ops : Array Oper) : List Oper → Nat → List (Nat × LV) → List (Nat × List At) → List D → Option (List Prop × List (Nat × LV) × List (Nat × List At) × List D × List (Item × D × List Nat))
  | [], _, tm, mem, ds => some ([], tm, mem, ds, [])
  | o :: rest, id, tm, mem, ds =>
    match lstep P T ops id (look tm) (look mem) (ds.headD .k) o with
    | some (obs, it, u) =>
      match dstOK o.dst n with
      | true => match levOps P T n ops rest (id + 1) (putT tm o.dst it.1) (putM mem it.2) (tailD u ds) with
        | some (obs', tm'', mem'', ds', its) => some (obs ++ obs', tm'', mem'', ds', (it, ds.headD .k, rblk (look tm) o) :: its)
        | none => none
      | false => none
    | none => none

def putS (σ : Sig) (dst : Option Nat) (v : LV) : Sig :=
  match dst with
  | some d => upd σ d v
  | none => σ

theorem put_rel {φ : Phi} {σ : Sig} {a : Act} {n : Nat} (hσ : TRel φ σ a.tmps) (hn : a.tmps.size = n) {dst : Option Nat} {v : LV} {x : Value} (hv : v.rel φ x) (hd : dstOK dst n = true) :
    TRel φ (putS σ dst v) (a.put dst x).tmps ∧ (a.put dst x).tmps.size = n ∧ (a.put dst x).defers = a.defers := by
  cases dst with
  | none => exact ⟨hσ, hn, rfl⟩
  | some d =>
    have hd' : d < n := Nat.le_of_ble_eq_true hd
    refine ⟨?_, by simp [Act.put, hn], rfl⟩
    intro t lv e
    unfold putS upd at e
    simp only [Act.put]
    simp only at e
    split at e
    · simp only [Option.some.injEq] at e; subst e; subst_vars
      rw [Array.getD_eq_getD_getElem?, Array.getElem?_setIfInBounds]
      simp [hd', hv]
    · rename_i hne
      have := hσ t lv e
      rw [Array.getD_eq_getD_getElem?, Array.getElem?_setIfInBounds]
      rw [if_neg (fun e' => hne e'.symm)]
      rw [Array.getD_eq_getD_getElem?] at this
      exact this

theorem look_putT (tm : List (Nat × LV)) (dst : Option Nat) (v : LV) : look (putT tm dst v) = putS (look tm) dst v := by
  cases dst with
  | none => rfl
  | some d => exact look_cons _ _ _

theorem look_putM (mem : List (Nat × List At)) (ef : Option (Nat × List At)) : look (putM mem ef) = eff (look mem) ef := by
  cases ef with
  | none => rfl
  | some p => exact look_cons _ _ _

section
variable {P : Program} {w0 : World} {may : Nat → Prop}

theorem levOps_wp {T : Tab} (hT : TOK P T) {n : Nat} {ops : Array Oper} {Q : Exit → Act → World → Prop} : ∀ (rest : List Oper) (i id : Nat) (tm : List (Nat × LV)) (mem : List (Nat × List At)) (ds : List D) {obs : List Prop}
    {tm' : List (Nat × LV)} {mem' : List (Nat × List At)} {ds' : List D} {its : List (Item × D × List Nat)}, levOps P T n ops rest id tm mem ds = some (obs, tm', mem', ds', its) → ops.toList.drop i = rest → Alls obs →
    ∀ {φ : Phi} {a : Act} {w : World}, TRel φ (look tm) a.tmps → a.tmps.size = n → a.defers = [] → MR w0 may φ (look mem) (fun b => id ≤ b) w →
    (∀ φ' a' w', φ.le φ' → TRel φ' (look tm') a'.tmps → a'.tmps.size = n → a'.defers = [] → MR w0 may φ' (look mem') (fun b => id + rest.length ≤ b) w' → Q .normal a' w') →
    wpOps P ops Q ((List.range' i rest.length)) a w
  | [], i, id, tm, mem, ds, obs, tm', mem', ds', its, h, _, _, φ, a, w, hσ, hn, hd, hM, hQ => by
    simp only [levOps, Option.some.injEq, Prod.mk.injEq] at h
    obtain ⟨_, rfl, rfl, _, _⟩ := h
    exact hQ φ a w φ.le_refl hσ hn hd hM
  | o :: rest, i, id, tm, mem, ds, obs, tm', mem', ds', its, h, hr, ho, φ, a, w, hσ, hn, hd, hM, hQ => by
    unfold levOps at h
    split at h
    · rename_i ob it u hs
      split at h
      · rename_i hdst
        split at h
        · rename_i obs' tm'' mem'' ds'' its' hrec
          simp only [Option.some.injEq, Prod.mk.injEq] at h
          obtain ⟨rfl, rfl, rfl, rfl, rfl⟩ := h
          obtain ⟨h1, h2⟩ := Alls.append.1 ho
          have hget : ops[i]? = some o := by
            have := congrArg (fun l => l[0]?) hr
            simpa using this
          have hrest : ops.toList.drop (i + 1) = rest := by
            have := congrArg List.tail hr
            simpa using this
          simp only [List.length_cons, List.range'_succ]
          unfold wpOps
          simp only [hget]
          refine lstep_wp hT hs h1 hσ hM (Nat.le_refl _) fun φ' x w' hle hv hm => ?_
          obtain ⟨g1, g2, g3⟩ := put_rel (n := n) (hσ.mono hle) hn hv hdst
          rw [← look_putT] at g1
          have ih := levOps_wp hT rest (i + 1) (id + 1) _ _ _ hrec hrest h2 (φ := φ') (a := a.put o.dst x) (w := w') (Q := Q) g1 g2 (g3.trans hd)
            (by rw [look_putM]; exact hm.drop fun b hb => ⟨by omega, by omega⟩)
            (fun φ'' a' w'' hle' r1 r2 r3 r4 => hQ φ'' a' w'' (Phi.le_trans hle hle') r1 r2 r3 (r4.drop fun b hb => by simp at hb; omega))
          exact ih
        · cases h
      · cases h
    · cases h

end
end Go.Proofs.Ythgjacfikicgnaa.K
