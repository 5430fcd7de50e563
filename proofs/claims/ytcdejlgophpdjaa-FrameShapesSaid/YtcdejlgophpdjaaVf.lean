/-
  A region of operations: in the text's order, and in whatever order the edges leave open (first part: what is laid one upon the other).
-/
import Derived.Test.YtcdejlgophpdjaaVe8
namespace Go.Proofs.Ytcdejlgophpdjaa.V
open Go Go.RowKit

section fold
variable {β : Type}

def foldS (S : Nat → Bool) : Nat → List (List (Nat × β)) → (Nat → Option β) → (Nat → Option β)
  | _, [], f => f
  | i, u :: us, f => foldS S (i + 1) us (match S i with
    | true => updL f u
    | false => f)

theorem updL_other {f : Nat → Option β} {u : List (Nat × β)} {k : Nat} (h : ∀ v, (k, v) ∉ u) : updL f u k = f k := by
  induction u generalizing f with
  | nil => rfl
  | cons p r ih =>
    obtain ⟨k', v⟩ := p
    simp only [updL]
    rw [ih (fun v' hv' => h v' (List.mem_cons_of_mem _ hv'))]
    exact upd_other f v fun e => by subst e; exact h v (by simp)

theorem updL_congr {f g : Nat → Option β} {u : List (Nat × β)} {k : Nat} (h : f k = g k) : updL f u k = updL g u k := by
  induction u generalizing f g with
  | nil => exact h
  | cons p r ih =>
    obtain ⟨k', v⟩ := p
    simp only [updL]
    exact ih (by unfold upd; split <;> simp_all)

/-- Where a key is written, what was there does not count. -/
theorem updL_hit {f g : Nat → Option β} {u : List (Nat × β)} {k : Nat} {v : β} (h : (k, v) ∈ u) : updL f u k = updL g u k := by
  induction u generalizing f g with
  | nil => cases h
  | cons p r ih =>
    obtain ⟨k', v'⟩ := p
    simp only [updL]
    rcases List.mem_cons.1 h with e | h
    · simp only [Prod.mk.injEq] at e; obtain ⟨rfl, rfl⟩ := e
      exact updL_congr (by rw [upd_same, upd_same])
    · exact ih h

theorem foldS_congr {S S' : Nat → Bool} {k : Nat} : ∀ (us : List (List (Nat × β))) (i : Nat) (f f' : Nat → Option β), (∀ j u, us[j]? = some u → (∃ v, (k, v) ∈ u) → S (i + j) = S' (i + j)) → f k = f' k → foldS S i us f k = foldS S' i us f' k
  | [], i, f, f', _, hf => hf
  | u :: us, i, f, f', h, hf => by
    unfold foldS
    refine foldS_congr us (i + 1) _ _ (fun j u' hj hu => ?_) ?_
    · have := h (j + 1) u' (by simpa using hj) hu
      rw [show i + 1 + j = i + (j + 1) by omega]; exact this
    · by_cases hu : ∃ v, (k, v) ∈ u
      · have := h 0 u (by simp) hu
        simp only [Nat.add_zero] at this
        rw [← this]
        cases S i
        · exact hf
        · exact updL_congr hf
      · have hu' : ∀ v, (k, v) ∉ u := fun v e => hu ⟨v, e⟩
        have g1 : (match S i with
          | true => updL f u
          | false => f) k = f k := by cases S i; rfl; exact updL_other hu'
        have g2 : (match S' i with
          | true => updL f' u
          | false => f') k = f' k := by cases S' i; rfl; exact updL_other hu'
        rw [g1, g2]; exact hf

theorem foldS_none {S : Nat → Bool} {k : Nat} (us : List (List (Nat × β))) (i : Nat) (f : Nat → Option β) (h : ∀ j u, us[j]? = some u → (∃ v, (k, v) ∈ u) → S (i + j) = false) : foldS S i us f k = f k := by
  have := foldS_congr (S := S) (S' := fun _ => false) us i f f h rfl
  rw [this]
  clear this h
  induction us generalizing i with
  | nil => rfl
  | cons u us ih => unfold foldS; exact ih (i + 1)

theorem foldS_last {S : Nat → Bool} {k : Nat} {v : β} {g : Nat → Option β} : ∀ (us : List (List (Nat × β))) (i j : Nat) (f : Nat → Option β) (u : List (Nat × β)), us[j]? = some u → (k, v) ∈ u → S (i + j) = true →
    (∀ j' u', j < j' → us[j']? = some u' → (∃ v', (k, v') ∈ u') → S (i + j') = false) → foldS S i us f k = updL g u k
  | [], i, j, f, u, h, _, _, _ => by simp at h
  | u0 :: us, i, 0, f, u, h, hv, hs, hl => by
    simp only [List.getElem?_cons_zero, Option.some.injEq] at h
    subst h
    unfold foldS
    rw [foldS_none]
    · simp only [Nat.add_zero] at hs; rw [hs]; exact updL_hit hv
    · intro j' u' hj hv'
      have := hl (j' + 1) u' (by omega) (by simpa using hj) hv'
      rw [show i + 1 + j' = i + (j' + 1) by omega]; exact this
  | u0 :: us, i, j + 1, f, u, h, hv, hs, hl => by
    unfold foldS
    refine foldS_last us (i + 1) j _ u (by simpa using h) hv (by rw [show i + 1 + j = i + (j + 1) by omega]; exact hs) fun j' u' hlt hj hv' => ?_
    have := hl (j' + 1) u' (by omega) (by simpa using hj) hv'
    rw [show i + 1 + j' = i + (j' + 1) by omega]; exact this

/-- One more: it comes last, if none of the later ones that are there writes the same. -/
theorem foldS_put {S S' : Nat → Bool} {us : List (List (Nat × β))} {i : Nat} {u : List (Nat × β)} (hu : us[i]? = some u) (hS' : ∀ j, S' j = (S j || Nat.beq j i))
    (hl : ∀ j k v u', i < j → (k, v) ∈ u → us[j]? = some u' → (∃ v', (k, v') ∈ u') → S j = false) (f : Nat → Option β) : foldS S' 0 us f = updL (foldS S 0 us f) u := by
  funext k
  have other : ∀ j, j ≠ i → S' j = S j := fun j hj => by
    rw [hS' j]
    have : Nat.beq j i = false := by
      cases hb : Nat.beq j i
      · rfl
      · exact absurd (Nat.eq_of_beq_eq_true hb) hj
    simp [this]
  by_cases hk : ∃ v, (k, v) ∈ u
  · obtain ⟨v, hv⟩ := hk
    refine foldS_last us 0 i f u hu hv (by simp [hS']) fun j u' hlt hj hv' => ?_
    simp only [Nat.zero_add]
    rw [other j (by omega)]
    exact hl j k v u' hlt hv hj hv'
  · have hk' : ∀ v, (k, v) ∉ u := fun v e => hk ⟨v, e⟩
    rw [updL_other hk']
    refine foldS_congr us 0 f f (fun j u' hj hv => ?_) rfl
    simp only [Nat.zero_add]
    refine other j fun e => ?_
    subst e
    rw [hu] at hj
    simp only [Option.some.injEq] at hj
    subst hj
    exact hk hv

theorem foldS_shift (S : Nat → Bool) : ∀ (us : List (List (Nat × β))) (i : Nat) (f : Nat → Option β), foldS S (i + 1) us f = foldS (fun x => S (x + 1)) i us f
  | [], i, f => rfl
  | u :: us, i, f => by unfold foldS; exact foldS_shift S us (i + 1) _

theorem foldS_all (S : Nat → Bool) : ∀ (us : List (List (Nat × β))) (i : Nat) (f : Nat → Option β), (∀ j, j < us.length → S (i + j) = true) → foldS S i us f = foldS (fun _ => true) i us f
  | [], i, f, _ => rfl
  | u :: us, i, f, h => by
    have h0 := h 0 (by simp)
    simp only [Nat.add_zero] at h0
    unfold foldS
    simp only [h0]
    exact foldS_all S us (i + 1) _ fun j hj => by
      have := h (j + 1) (by simp; omega)
      rw [show i + 1 + j = i + (j + 1) by omega]; exact this

def ltB (n : Nat) (x : Nat) : Bool := Nat.blt x n

theorem ltB_iff {n x : Nat} : ltB n x = true ↔ x < n := by unfold ltB; exact ⟨fun h => Nat.le_of_ble_eq_true h, fun h => Nat.ble_eq_true_of_le h⟩

theorem foldS_lt_succ (u : List (Nat × β)) (us : List (List (Nat × β))) (f : Nat → Option β) (j : Nat) : foldS (ltB (j + 1)) 0 (u :: us) f = foldS (ltB j) 0 us (updL f u) := by
  have h0 : ltB (j + 1) 0 = true := ltB_iff.2 (by omega)
  conv => lhs; unfold foldS
  simp only [h0]
  rw [foldS_shift]
  rfl

theorem foldS_lt_zero (us : List (List (Nat × β))) (f : Nat → Option β) : foldS (ltB 0) 0 us f = f := by
  funext k
  exact foldS_none us 0 f fun j u _ _ => by
    cases h : ltB 0 (0 + j)
    · rfl
    · have := ltB_iff.1 h; omega

end fold

/-! One operation in a region. -/
def lwanted (σ : Sig) (ops : Array Oper) (o : Oper) : Option Bool :=
  match o.guard with
  | none => some true
  | some (j, want) => match (ops[j]?).bind (·.dst) with
    | some d => match σ d with
      | some (.a (.bool false b)) => match b, want with
        | true, true => some true
        | false, false => some true
        | _, _ => some false
      | some (.t _) => some false
      | _ => none
    | none => none

theorem lwanted_spec {φ : Phi} {σ : Sig} {ops : Array Oper} {o : Oper} {a : Act} {q : Bool} (h : lwanted σ ops o = some q) (hσ : TRel φ σ a.tmps) : Region.wanted o (yielded ops a.tmps) = q := by
  unfold lwanted at h
  unfold Region.wanted
  split at h
  · rename_i hg; simp only [Option.some.injEq] at h; simp [hg, h]
  · rename_i j want hg
    simp only [hg]
    split at h
    · rename_i d hd
      split at h
      · rename_i b hb
        have hv : a.tmps.getD d undef = .bool b := hσ d _ hb
        have hv' : a.tmps[d]? = some (.bool b) := by
          rw [Array.getD_eq_getD_getElem?] at hv
          cases hx : a.tmps[d]? with
          | none => rw [hx] at hv; simp [undef] at hv
          | some u => rw [hx] at hv; simpa using hv
        simp only [yielded, hd, Option.bind_some, hv']
        cases b <;> cases want <;> simp at h <;> subst h <;> rfl
      · rename_i l hb
        simp only [Option.some.injEq] at h
        obtain ⟨vs, hv, _⟩ := hσ d _ hb
        have hy : yielded ops a.tmps j = none := by
          unfold yielded
          rw [hd, Option.bind_some]
          rw [Array.getD_eq_getD_getElem?] at hv
          cases hx : a.tmps[d]? with
          | none => rfl
          | some u =>
            rw [hx] at hv
            simp only [Option.getD_some] at hv
            subst hv; rfl
        rw [hy, ← h]; rfl
      · cases h
    · cases h

def atB : LV → List Nat
  | .a (.ptr b _) => [b]
  | .a (.prw _ b _ _ _ _ _) => [b]
  | .a (.slc _ b _ _ _ _ _) => [b]
  | .a (.vec b _ _) => [b]
  | _ => []

def opB (σ : Sig) (x : Operand) : List Nat :=
  match lev σ x with
  | some v => atB v
  | none => []

def opsB (σ : Sig) : List Operand → List Nat
  | [] => []
  | x :: r => opB σ x ++ opsB σ r

/-! A block's head is named by an odd number, its cells by an even one. -/
def hdL : List Nat → List Nat
  | [] => []
  | b :: r => (2 * b + 1) :: hdL r

def alL : List Nat → List Nat
  | [] => []
  | b :: r => (2 * b) :: (2 * b + 1) :: alL r

theorem mem_hdL {b : Nat} : ∀ {l : List Nat}, b ∈ l → 2 * b + 1 ∈ hdL l
  | _ :: _, h => by
    unfold hdL
    rcases List.mem_cons.1 h with rfl | h
    · simp
    · exact List.mem_cons_of_mem _ (mem_hdL h)

theorem mem_alL {b : Nat} : ∀ {l : List Nat}, b ∈ l → 2 * b ∈ alL l ∧ 2 * b + 1 ∈ alL l
  | _ :: _, h => by
    unfold alL
    rcases List.mem_cons.1 h with rfl | h
    · simp
    · have := mem_alL h
      exact ⟨List.mem_cons_of_mem _ (List.mem_cons_of_mem _ this.1), List.mem_cons_of_mem _ (List.mem_cons_of_mem _ this.2)⟩

/-- What an operation looks at: blocks' heads, cells. -/
def rblk (σ : Sig) (foot : List Nat) (o : Oper) : List Nat :=
  match o.op with
  | .load _ x | .store _ x _ | .convert _ _ x => alL (opB σ x)
  | .nilCheck x | .fieldAddr _ x _ | .indexAddr _ x _ | .slice _ x _ _ _ => hdL (opB σ x)
  | .binOp _ _ x y _ => hdL (opB σ x ++ opB σ y)
  | .call c => match c.callee with
    | .value _ => alL foot
    | .builtin .append | .builtin .len | .builtin .copy => alL (opsB σ c.args.toList)
    | _ => []
  | _ => []

structure It where
  v : LV
  cs : List (Nat × At)
  hs : List (Nat × Hd)
  foot : List Nat
  rb : List Nat
  wb : List Nat

def lit (v v0 : LV) : Prop := ∀ (φ : Phi) (x : Value), v0.rel φ x → v.rel φ x

/-- That an operation does, in a state of the local memory, what 'it' tells. -/
def StepOK (P : Program) (T : Tab) (ops : Array Oper) (id : Nat) (σ : Sig) (μ : Mem) (ρ : Hds) (o : Oper) (it : It) : Prop :=
  ((lwanted σ ops o = some false ∧ it.v = .t [] ∧ it.cs = [] ∧ it.hs = []) ∨
    (lwanted σ ops o = some true ∧ ∃ obs v0, lop P T id it.foot σ μ ρ o = some (obs, v0, it.cs, it.hs) ∧ Alls obs ∧ lit it.v v0)) ∧
  it.rb = rblk σ it.foot o ∧ (∀ k x, (k, x) ∈ it.cs → 2 * (k / 65536) ∈ it.wb) ∧ (∀ k x, (k, x) ∈ it.hs → 2 * k + 1 ∈ it.wb)

section
variable {P : Program} {w0 : World} {may : Nat → Prop} {φ : Phi} {σ : Sig} {μ : Mem} {ρ : Hds} {fr : Nat → Prop} {w : World} {a : Act} {o : Oper}

theorem step_wp {T : Tab} (hT : TOK P T) {ops : Array Oper} {id : Nat} {it : It} (h : StepOK P T ops id σ μ ρ o it) (hσ : TRel φ σ a.tmps) (hM : MR w0 may φ μ ρ fr w) (hid : ∀ j, j < 16 → fr (id + j))
    {next : Act → World → Prop} {Q : Exit → Act → World → Prop}
    (hn : ∀ φ' x w', φ.le φ' → it.v.rel φ' x → MR w0 may φ' (updL μ it.cs) (updL ρ it.hs) (fun b => fr b ∧ ∀ j, j < 16 → b ≠ id + j) w' → next (a.put o.dst x) w') :
    if Region.wanted o (yielded ops a.tmps) then o.wp P a w next Q ∨ (o.asks P a w ∧ LetsOut Q) else next (a.put o.dst undef) w := by
  rcases h.1 with ⟨h1, h2, h3, h4⟩ | ⟨h1, obs, v0, h2, h3, h4⟩
  · rw [lwanted_spec h1 hσ]
    simp only [Bool.false_eq_true, if_false]
    refine hn φ _ w φ.le_refl (by rw [h2]; exact ⟨#[], rfl, .nil⟩) ?_
    rw [h3, h4]
    exact hM.drop fun _ hb => hb.1
  · rw [lwanted_spec h1 hσ]
    simp only [if_true]
    exact .inl (lop_wp hT h2 h3 hσ hM hid fun φ' v w' k1 k2 k3 => hn φ' v w' k1 (h4 φ' v k2) k3)

end

def dstOK (dst : Option Nat) (n : Nat) : Bool :=
  match dst with
  | some d => Nat.blt d n
  | none => true

def putS (σ : Sig) (dst : Option Nat) (v : LV) : Sig :=
  match dst with
  | some d => upd σ d v
  | none => σ

def putL (dst : Option Nat) (v : LV) : List (Nat × LV) :=
  match dst with
  | some d => [(d, v)]
  | none => []

theorem putS_updL (σ : Sig) (dst : Option Nat) (v : LV) : putS σ dst v = updL σ (putL dst v) := by cases dst <;> rfl

theorem put_rel {φ : Phi} {σ : Sig} {a : Act} {n : Nat} (hσ : TRel φ σ a.tmps) (hn : a.tmps.size = n) {dst : Option Nat} {v : LV} {x : Value} (hv : v.rel φ x) (hd : dstOK dst n = true) :
    TRel φ (putS σ dst v) (a.put dst x).tmps ∧ (a.put dst x).tmps.size = n ∧ (a.put dst x).defers = a.defers := by
  cases dst with
  | none => exact ⟨hσ, hn, rfl⟩
  | some d =>
    have hd' : d < n := Nat.le_of_ble_eq_true hd
    refine ⟨?_, by simp [Act.put, hn], rfl⟩
    intro t lv e
    unfold putS upd at e
    simp only [Act.put]
    simp only at e
    split at e
    · simp only [Option.some.injEq] at e; subst e; subst_vars
      rw [Array.getD_eq_getD_getElem?, Array.getElem?_setIfInBounds]
      simp [hd', hv]
    · rename_i hne
      have := hσ t lv e
      rw [Array.getD_eq_getD_getElem?, Array.getElem?_setIfInBounds]
      rw [if_neg (fun e' => hne e'.symm)]
      rw [Array.getD_eq_getD_getElem?] at this
      exact this

/-- The whole list in the text's order. -/
def Run (P : Program) (T : Tab) (n : Nat) (ops : Array Oper) : List Oper → Nat → Sig → Mem → Hds → List It → Prop
  | [], _, _, _, _, [] => True
  | o :: r, id, σ, μ, ρ, it :: its => StepOK P T ops id σ μ ρ o it ∧ dstOK o.dst n = true ∧ Run P T n ops r (id + 16) (updL σ (putL o.dst it.v)) (updL μ it.cs) (updL ρ it.hs) its
  | _, _, _, _, _, _ => False

/-- What it leaves. -/
def endT : List Oper → List It → Sig → Sig
  | o :: r, it :: its, σ => endT r its (updL σ (putL o.dst it.v))
  | _, _, σ => σ
def endM : List It → Mem → Mem
  | [], μ => μ
  | it :: its, μ => endM its (updL μ it.cs)
def endH : List It → Hds → Hds
  | [], ρ => ρ
  | it :: its, ρ => endH its (updL ρ it.hs)

section
variable {P : Program} {w0 : World} {may : Nat → Prop}

theorem run_wp {T : Tab} (hT : TOK P T) {n : Nat} {ops : Array Oper} {Q : Exit → Act → World → Prop} : ∀ (rest : List Oper) (i id : Nat) (σ : Sig) (μ : Mem) (ρ : Hds) {its : List It}, Run P T n ops rest id σ μ ρ its → ops.toList.drop i = rest →
    ∀ {φ : Phi} {a : Act} {w : World}, TRel φ σ a.tmps → a.tmps.size = n → a.defers = [] → MR w0 may φ μ ρ (fun b => id ≤ b) w →
    (∀ φ' a' w', φ.le φ' → TRel φ' (endT rest its σ) a'.tmps → a'.tmps.size = n → a'.defers = [] → MR w0 may φ' (endM its μ) (endH its ρ) (fun b => id + 16 * rest.length ≤ b) w' → Q .normal a' w') →
    wpOps P ops Q ((List.range' i rest.length)) a w
  | [], i, id, σ, μ, ρ, its, h, _, φ, a, w, hσ, hn, hd, hM, hQ => by
    cases its with
    | nil => exact hQ φ a w φ.le_refl hσ hn hd hM
    | cons _ _ => exact h.elim
  | o :: rest, i, id, σ, μ, ρ, [], h, _, φ, a, w, hσ, hn, hd, hM, hQ => h.elim
  | o :: rest, i, id, σ, μ, ρ, it :: its, h, hr, φ, a, w, hσ, hn, hd, hM, hQ => by
    obtain ⟨h1, h2, h3⟩ := h
    have hget : ops[i]? = some o := by
      have := congrArg (fun l => l[0]?) hr
      simpa using this
    have hrest : ops.toList.drop (i + 1) = rest := by
      have := congrArg List.tail hr
      simpa using this
    simp only [List.length_cons, List.range'_succ]
    unfold wpOps
    simp only [hget]
    refine step_wp hT h1 hσ hM (fun j _ => Nat.le_add_right _ _) fun φ' x w' hle hv hm => ?_
    obtain ⟨g1, g2, g3⟩ := put_rel (n := n) (hσ.mono hle) hn hv h2
    rw [putS_updL] at g1
    refine run_wp hT rest (i + 1) (id + 16) _ _ _ h3 hrest (φ := φ') (a := a.put o.dst x) (w := w') (Q := Q) g1 g2 (g3.trans hd)
      (hm.drop fun b hb => ⟨by omega, fun j hj => by omega⟩)
      (fun φ'' a' w'' hle' r1 r2 r3 r4 => hQ φ'' a' w'' (Phi.le_trans hle hle') r1 r2 r3 (r4.drop fun b hb => by simp at hb; omega))

end
end Go.Proofs.Ytcdejlgophpdjaa.V
