/-
  Loops: rounds by a function on a typed state; what a loop is to the code around it.
-/
import Derived.Test.YtcdejlgophpdjaaVp
namespace Go.Proofs.Ytcdejlgophpdjaa.V
open Go Go.RowKit

section
variable {α : Type}

def pick1 : List (X × Bool × α) → Option (X × α)
  | [] => none
  | (x, g, v) :: r => match g with
    | true => some (x, v)
    | false => pick1 r

/-- The rounds. -/
def lrun (st : α → List Prop × List (X × Bool × α)) : Nat → α → Option (X × α)
  | 0, _ => none
  | k + 1, v => match pick1 (st v).2 with
    | some (.n, v') => lrun st k v'
    | r => r

/-- What each of them asks for; and that they end. -/
def lok (st : α → List Prop × List (X × Bool × α)) : Nat → α → Prop
  | 0, _ => False
  | k + 1, v => Alls (st v).1 ∧ match pick1 (st v).2 with
    | some (.n, v') => lok st k v'
    | _ => True

theorem pick1_some : ∀ {l : List (X × Bool × α)} {q : X × Bool × α}, q ∈ l → q.2.1 = true → ∃ q0 ∈ l, q0.2.1 = true ∧ pick1 l = some (q0.1, q0.2.2)
  | [], q, h, _ => by cases h
  | (x, g, v) :: r, q, h, hg => by
    cases g with
    | true => exact ⟨_, List.mem_cons_self, rfl, rfl⟩
    | false =>
      rcases List.mem_cons.1 h with rfl | h
      · cases hg
      · obtain ⟨q0, h1, h2, h3⟩ := pick1_some h hg
        exact ⟨q0, List.mem_cons_of_mem _ h1, h2, h3⟩
end

section
variable {P : Program} {T : Tab} {w0 : World} {may : Nat → Prop} {n : Nat} {lv ts : List Nat} {α : Type}

theorem rounds_ok (hT : TOK P T) (hF : P.follows .mixedOrders = true) {LT : List (Nat × Sum)} {kf : Nat} {W G : List Nat} {c : Code} {p : Nat} {hd : α → HS} {st : α → List Prop × List (X × Bool × α)}
    (hE : ∀ v, bodyF P T n lv ts LT kf W G c p (hd v) = some ((st v).1, (st v).2.map fun q => (q.1, q.2.1, hd q.2.2))) (hL : LOK P n lv LT c p) {Q : Exit → Act → World → Prop} :
    ∀ (k : Nat) (v : α) (φ : Phi) (a : Act) (w : World), HR n lv w0 may φ (hd v) a w → lok st k v → (∀ x v' ψ a' w', lrun st k v = some (x, v') → x ≠ .n → Kp G φ ψ → HR n lv w0 may ψ (hd v') a' w' → (hd v').bs.length = (hd v).bs.length → Q x.real a' w') → Code.rounds P c Q k a w
  | 0, v, φ, a, w, _, hk, _ => hk.elim
  | k + 1, v, φ, a, w, hr, hk, hQ => by
    obtain ⟨ho, hk⟩ := hk
    rw [rounds_succ]
    have := body_wp hT hF (hE v) hL ho hr (Q := Exit.then (Code.rounds P c Q k) Q) fun x a' w' q hq hg _ hall => by
      obtain ⟨q1, hq1, rfl⟩ := List.mem_map.1 hq
      obtain ⟨q0, h1, h2, h3⟩ := pick1_some hq1 hg
      obtain ⟨e, χ, c1, c2, c3⟩ := hall _ (List.mem_map.2 ⟨q0, h1, rfl⟩) h2
      simp only at e c2 c3
      rw [h3] at hk
      cases x with
      | n =>
        rw [e] at hk h3
        have := rounds_ok hT hF hE hL (Q := Q) k q0.2.2 χ a' w' c2 hk fun x' v' ψ a'' w'' hrun hx hkp hhr hlen => hQ x' v' ψ a'' w'' (by simp only [lrun, h3]; exact hrun) hx (c1.trans hkp) hhr (hlen.trans c3)
        show Code.rounds P c Q k a' w'
        simpa using this
      | e i =>
        rw [e] at h3
        exact hQ (.e i) q0.2.2 χ a' w' (by simp only [lrun, h3]) (by simp) c1 c2 c3
      | r =>
        rw [e] at h3
        exact hQ .r q0.2.2 χ a' w' (by simp only [lrun, h3]) (by simp) c1 c2 c3
    simpa using this
end

/-! Into the loop. -/
def roW (W : List Nat) : Nat → List BC → List BC
  | _, [] => []
  | i, c :: r => (match memN i W with
    | true => c
    | false => ⟨roH c.h, c.cs⟩) :: roW W (i + 1) r

/-- Slices that are nil and are to grow: a block of none behind each. -/
def conv : List (Nat × List Kd) → HS → HS
  | [], h => h
  | (t, sh) :: r, h => match look h.tm t with
    | some (.a .nils) => conv r ⟨(t, .a (.vec h.bs.length 0 sh.length)) :: h.tm, h.bs ++ [⟨⟨0, 0, false, some ⟨0, sh, [], none⟩⟩, []⟩]⟩
    | _ => conv r h

/-- Only what is asked for, in this order. -/
def ordT (tm : List (Nat × LV)) : List Nat → List (Nat × LV)
  | [] => []
  | t :: r => match look tm t with
    | some v => (t, v) :: ordT tm r
    | none => ordT tm r

def ordH (lv : List Nat) (h : HS) : HS := ⟨ordT h.tm lv, h.bs⟩

/-! Out of the loop. -/
def bumpC (G : List Nat) : List (Nat × Nat) → Bool
  | [] => true
  | (b, _) :: r => match memN b G with
    | true => false
    | false => bumpC G r

def bumpA (G : List Nat) : At → At
  | .ptr b o => match memN b G with
    | true => .unk
    | false => .ptr b o
  | .prw s b v st e i j => match memN b G with
    | true => .prw s b (v + 1) st e i j
    | false => .prw s b v st e i j
  | .slc s b v st e off len => match memN b G with
    | true => .slc s b (v + 1) st e off len
    | false => .slc s b v st e off len
  | .vec b v e => match memN b G with
    | true => .vec b (v + 1) e
    | false => .vec b v e
  | .fn f caps => match bumpC G caps with
    | true => .fn f caps
    | false => .unk
  | x => x

def bumpL (G : List Nat) : List At → List At
  | [] => []
  | x :: r => bumpA G x :: bumpL G r

def bumpV (G : List Nat) : LV → LV
  | .a x => .a (bumpA G x)
  | .g l => .g (bumpL G l)
  | _ => .u

def bumpOs (G : List Nat) : List (Option At) → List (Option At)
  | [] => []
  | some x :: r => some (bumpA G x) :: bumpOs G r
  | none :: r => none :: bumpOs G r

def outL (W G : List Nat) : Nat → List BC → List (Option BC)
  | _, [] => []
  | i, c :: r => (match memN i W with
    | true => some ⟨⟨(match memN i G with
      | true => 1
      | false => 0), c.h.z, c.h.ro, c.h.R⟩, bumpOs G c.cs⟩
    | false => none) :: outL W G (i + 1) r

/-- Is it fit to be left: what becomes more is written; what is new is written. -/
def outOK (W G : List Nat) (m : Nat) : Nat → List BC → Bool
  | _, [] => true
  | i, c :: r => match (memN i W || Nat.blt i m) && (!memN i G || (memN i W && c.h.grows)) with
    | true => outOK W G m (i + 1) r
    | false => false

def tmL (G : List Nat) (ρ : Hds) (foot : List Nat) (id : Nat) (tm : List (Nat × LV)) : List Nat → List (Nat × LV)
  | [] => []
  | t :: r => (t, match look tm t with
    | some v => match backV ρ foot id (bumpV G v) with
      | some u' => u'
      | none => .u
    | none => .u) :: tmL G ρ foot id tm r

def refTs (σ : Sig) (ρ : Hds) : List Nat → List Nat
  | [] => []
  | t :: r => (match σ t with
    | some v => refV ρ v
    | none => []) ++ refTs σ ρ r

def isX {α : Type} (x : X) : Option (X × α) → Bool
  | some (y, _) => xeq x y
  | none => false

def valOf {α : Type} [Inhabited α] : Option (X × α) → α
  | some (_, v) => v
  | none => default

def altsL (id : Nat) (bs : List X) (d : Pre) (nx : Nat) (g : X → Bool) : List Alt :=
  match bs with
  | [] => []
  | x :: r => out1 id ⟨x, true, g x, d, nx⟩ :: altsL id r d nx g

def loopO (XS : List X) (lv W G : List Nat) (id : Nat) (ρ : Hds) (nx : Nat) (foot : List Nat) (bs0 : List BC) (ok : Prop) (g : X → Bool) (h : HS) : Outs :=
  match outOK W G bs0.length 0 h.bs && Nat.ble bs0.length h.bs.length && (cellBound (outL W G 0 h.bs) && zOK bs0 (outL W G 0 h.bs) && vOK ρ foot nx 0 (outL W G 0 h.bs) && Nat.ble (outL W G 0 h.bs).length (foot.length + 16) && allSet ((outL W G 0 h.bs).drop foot.length)) with
  | true => match backBlks ρ foot nx 0 (outL W G 0 h.bs) with
    | (cs, hs) => some ([ok], altsL id XS ⟨tmL G ρ foot nx h.tm lv, pushL cs [], pushL hs []⟩ (nx + 16) g)
  | false => none

def loopI {α : Type} [Inhabited α] (hd : α → HS) (rd : HS → Option α) (st : α → List Prop × List (X × Bool × α)) (F : Nat) (XS : List X) (lv ts W G : List Nat) (CV : List (Nat × List Kd)) (id : Nat) (σ : Sig) (μ : Mem) (ρ : Hds) (nx : Nat) (foot : List Nat) : Outs :=
  match blksOf μ ρ foot foot, nodupB foot with
  | some bs0, true => match rd (symH (ordH ts (conv CV ⟨entT ρ foot (filt lv σ) lv, roW W 0 bs0⟩))) with
    | some v0 => loopO XS lv W G id ρ nx foot bs0 (lok st F v0) (fun x => isX x (lrun st F v0)) (hd (valOf (lrun st F v0)))
    | none => none
  | _, _ => none

/-- A loop in its block, to the code around it. -/
def loopS {α : Type} [Inhabited α] (hd : α → HS) (rd : HS → Option α) (st : α → List Prop × List (X × Bool × α)) (F : Nat) (XS : List X) (lv ts W G : List Nat) (CV : List (Nat × List Kd)) (id : Nat) : Sum := fun σ μ ρ nx =>
  loopI hd rd st F XS lv ts W G CV id σ μ ρ nx (footGo μ ρ 100 (refTs (filt lv σ) ρ ts) [])

/-! It is so. -/
section
variable {P : Program} {T : Tab} {w0 : World} {may : Nat → Prop} {φ : Phi} {σ : Sig} {μ : Mem} {ρ : Hds} {fr : Nat → Prop} {w : World} {a : Act} {n : Nat} {lv : List Nat}

theorem roW_get {W : List Nat} : ∀ {bs : List BC} {k i : Nat}, (roW W k bs)[i]? = (bs[i]?).map fun c => match memN (k + i) W with
    | true => c
    | false => ⟨roH c.h, c.cs⟩
  | [], k, i => by simp [roW]
  | c :: r, k, 0 => by simp [roW]
  | c :: r, k, i + 1 => by
    simp only [roW, List.getElem?_cons_succ]
    rw [roW_get (bs := r), show k + 1 + i = k + (i + 1) by omega]

theorem roW_mem {W : List Nat} {bs : List BC} : memOf (roW W 0 bs) = memOf bs := by
  funext k
  unfold memOf
  rw [roW_get]
  cases bs[k / 65536]? with
  | none => rfl
  | some c => simp only [Option.map_some]; split <;> rfl

theorem outL_get {W G : List Nat} : ∀ {bs : List BC} {k i : Nat}, (outL W G k bs)[i]? = (bs[i]?).map fun c => match memN (k + i) W with
    | true => some ⟨⟨(match memN (k + i) G with
      | true => 1
      | false => 0), c.h.z, c.h.ro, c.h.R⟩, bumpOs G c.cs⟩
    | false => none
  | [], k, i => by simp [outL]
  | c :: r, k, 0 => by simp [outL]
  | c :: r, k, i + 1 => by
    simp only [outL, List.getElem?_cons_succ]
    rw [outL_get (bs := r), show k + 1 + i = k + (i + 1) by omega]

theorem outL_len {W G : List Nat} : ∀ {bs : List BC} {k : Nat}, (outL W G k bs).length = bs.length
  | [], k => rfl
  | c :: r, k => by simp [outL, outL_len (bs := r)]

theorem outOK_get {W G : List Nat} {m : Nat} : ∀ {bs : List BC} {k i : Nat} {c : BC}, outOK W G m k bs = true → bs[i]? = some c → (memN (k + i) W = true ∨ k + i < m) ∧ (memN (k + i) G = true → memN (k + i) W = true ∧ c.h.grows = true)
  | [], k, i, c, _, h => by simp at h
  | c0 :: r, k, i, c, hok, h => by
    unfold outOK at hok
    split at hok
    · rename_i hb
      cases i with
      | zero =>
        simp at h; subst h
        simp only [Nat.add_zero, Bool.and_eq_true, Bool.or_eq_true, Bool.not_eq_true'] at hb ⊢
        refine ⟨hb.1.imp id fun e => Nat.le_of_ble_eq_true e, fun hG => ?_⟩
        rcases hb.2 with e | e
        · rw [hG] at e; cases e
        · exact e
      | succ i =>
        have := outOK_get (k := k + 1) (i := i) hok (by simpa using h)
        rw [show k + 1 + i = k + (i + 1) by omega] at this
        exact this
    · cases hok

theorem hdsIn_ro {W G : List Nat} {bs0 bsK : List BC} (hl : bs0.length ≤ bsK.length) : hdsIn bs0 (outL W G 0 bsK) = hdsB (roW W 0 bs0) := by
  funext b
  unfold hdsIn hdsB
  rw [roW_get, outL_get]
  cases h0 : bs0[b]? with
  | none => rfl
  | some c =>
    have hb : b < bsK.length := by have := (List.getElem?_eq_some_iff.1 h0).1; omega
    simp only [hb, getElem?_pos, Option.map_some, Nat.zero_add]
    cases memN b W <;> rfl

theorem MR.fr_eq {fr' : Nat → Prop} (h : MR w0 may φ μ ρ fr w) (e : ∀ b, fr' b ↔ fr b) : MR w0 may φ μ ρ fr' w := h.drop fun b hb => (e b).1 hb

/-- Blocks that become more, by another version. -/
def phiG (φ : Phi) (G : List Nat) : Phi := fun i => match φ i with
  | some j => match memN i G with
    | true => some ⟨j.ty, j.a, j.z, j.n, 1, j.ro⟩
    | false => some j
  | none => none

theorem phiG_get {G : List Nat} {i : Nat} {j' : Inf} (h : phiG φ G i = some j') : ∃ j, φ i = some j ∧ j'.ty = j.ty ∧ j'.a = j.a ∧ j'.z = j.z ∧ j'.n = j.n ∧ j'.ro = j.ro ∧ (memN i G = false → j' = j) ∧ (memN i G = true → j'.v = 1) := by
  unfold phiG at h
  split at h
  · rename_i j hj
    split at h
    · rename_i hG
      simp only [Option.some.injEq] at h; subst h
      exact ⟨j, hj, rfl, rfl, rfl, rfl, rfl, (fun e => by rw [hG] at e; cases e), fun _ => rfl⟩
    · rename_i hG
      simp only [Option.some.injEq] at h; subst h
      exact ⟨j, hj, rfl, rfl, rfl, rfl, rfl, (fun _ => rfl), (fun e => by rw [hG] at e; cases e)⟩
  · cases h

theorem phiG_mk {G : List Nat} {i : Nat} {j : Inf} (h : φ i = some j) : phiG φ G i = some (match memN i G with
    | true => ⟨j.ty, j.a, j.z, j.n, 1, j.ro⟩
    | false => j) := by
  unfold phiG; rw [h]; simp only; split <;> rfl

theorem bump_moves {G : List Nat} (hv : ∀ i j, φ i = some j → j.v = 0) {b v : Nat} : Moves φ (phiG φ G) b v b (match memN b G with
    | true => v + 1
    | false => v) := by
  intro j hj hle
  have h0 := hv b j hj
  refine ⟨_, phiG_mk hj, ?_, ?_⟩
  · cases memN b G
    · exact hle
    · show v + 1 ≤ 1; omega
  · cases memN b G
    · intro e; exact ⟨e, rfl, rfl, rfl⟩
    · intro e
      have e : v + 1 = 1 := e
      exact ⟨by omega, rfl, rfl, rfl⟩

theorem bumpC_rel {G : List Nat} (hv : ∀ i j, φ i = some j → j.v = 0) : ∀ {l : List (Nat × Nat)} {vs : List Value}, bumpC G l = true → All2 (prel φ) l vs → All2 (prel (phiG φ G)) l vs
  | [], vs, _, h => by cases h; exact .nil
  | (b, o) :: r, vs, hb, h => by
    unfold bumpC at hb
    split at hb
    · cases hb
    · rename_i hG
      cases h with
      | cons x y =>
        refine .cons (prel_move x ?_) (bumpC_rel hv hb y)
        have := bump_moves hv (G := G) (b := b) (v := 0)
        rw [hG] at this
        exact this

theorem bumpA_rel {G : List Nat} (hv : ∀ i j, φ i = some j → j.v = 0) {x : At} {v : Value} (h : x.rel φ v) : (bumpA G x).rel (phiG φ G) v := by
  have hu := At.rel_one h
  cases x with
  | bool s b => exact h
  | int s k n => exact h
  | str s y => exact h
  | nil => exact h
  | nils => exact h
  | nilfn => exact h
  | unk => exact h
  | ptr b o =>
    simp only [bumpA]
    have := bump_moves hv (G := G) (b := b) (v := 0)
    cases hG : memN b G with
    | true => exact hu
    | false => rw [hG] at this; exact prel_move h this
  | prw s b ver st e p q =>
    simp only [bumpA]
    have := bump_moves hv (G := G) (b := b) (v := ver)
    cases hG : memN b G <;> rw [hG] at this <;> exact vrel_move prwR_move h this
  | slc s b ver st e off len =>
    simp only [bumpA]
    have := bump_moves hv (G := G) (b := b) (v := ver)
    cases hG : memN b G <;> rw [hG] at this <;> exact vrel_move slcR_move h this
  | vec b ver e =>
    simp only [bumpA]
    have := bump_moves hv (G := G) (b := b) (v := ver)
    cases hG : memN b G <;> rw [hG] at this <;> exact vrel_move vecR_move h this
  | fn f caps =>
    simp only [bumpA]
    split
    · rename_i hb
      obtain ⟨cs, e, g⟩ := h
      exact ⟨cs, e, bumpC_rel hv hb g⟩
    · exact hu

theorem bumpL_rel {G : List Nat} (hv : ∀ i j, φ i = some j → j.v = 0) : ∀ {l : List At} {vs : List Value}, All2 (At.rel φ) l vs → All2 (At.rel (phiG φ G)) (bumpL G l) vs
  | _, _, .nil => .nil
  | _, _, .cons h t => .cons (bumpA_rel hv h) (bumpL_rel hv t)

theorem bumpV_rel {G : List Nat} (hv : ∀ i j, φ i = some j → j.v = 0) {x : LV} {v : Value} (h : x.rel φ v) : (bumpV G x).rel (phiG φ G) v := by
  cases x with
  | a x => exact bumpA_rel hv h
  | g l => obtain ⟨cs, e, k⟩ := h; exact ⟨cs, e, bumpL_rel hv k⟩
  | t l => trivial
  | u => trivial

theorem bumpOs_get {G : List Nat} : ∀ {l : List (Option At)} {i : Nat} {x : At}, (bumpOs G l)[i]? = some (some x) → ∃ y, l[i]? = some (some y) ∧ x = bumpA G y
  | [], i, x, h => by simp [bumpOs] at h
  | some y :: r, 0, x, h => by simp [bumpOs] at h; exact ⟨y, by simp, h.symm⟩
  | none :: r, 0, x, h => by simp [bumpOs] at h
  | some y :: r, i + 1, x, h => by obtain ⟨z, h1, h2⟩ := bumpOs_get (l := r) (by simpa [bumpOs] using h); exact ⟨z, by simpa using h1, h2⟩
  | none :: r, i + 1, x, h => by obtain ⟨z, h1, h2⟩ := bumpOs_get (l := r) (by simpa [bumpOs] using h); exact ⟨z, by simpa using h1, h2⟩

/-- Out of the loop: what the code around is handed. -/
theorem leave_mr {W G : List Nat} {bs0 : List BC} {hK : HS} {φK : Phi} {w' : World} {a' : Act} (hM0 : MR w0 may φ (memOf bs0) (hdsIn bs0 (outL W G 0 hK.bs)) (fun b => bs0.length ≤ b) w) (h0 : w0 = w)
    (hv0 : ∀ i j, φ i = some j → j.v = 0) (hkp : Kp G φ φK) (hr : HR n lv w0 may φK hK a' w') (hok : outOK W G bs0.length 0 hK.bs = true) (hl : bs0.length ≤ hK.bs.length) :
    φ.le (phiG φK G) ∧ MR w0 may (phiG φK G) (memAft bs0 (outL W G 0 hK.bs)) (hdsAft bs0 (outL W G 0 hK.bs)) (fun b => (outL W G 0 hK.bs).length ≤ b) w' := by
  have hvK : ∀ i j, φK i = some j → j.v = 0 := fun i j hj => (hr.v0 i j hj).2
  have hM := hr.sr.mr
  have hle : φ.le (phiG φK G) := by
    intro i j hj
    obtain ⟨j', h1, h2, h3⟩ := hkp i j hj
    refine ⟨_, phiG_mk h1, ?_⟩
    cases hG : memN i G with
    | true => right; show j.v < 1; rw [hv0 i j hj]; omega
    | false => left; exact (h3 hG).symm
  refine ⟨hle, ?_⟩
  -- what is told of a block
  have told : ∀ i c, aft bs0 (outL W G 0 hK.bs) i = some c → (∃ c1, hK.bs[i]? = some c1 ∧ memN i W = true ∧ (memN i G = true → c1.h.grows = true) ∧ c = ⟨⟨(match memN i G with
      | true => 1
      | false => 0), c1.h.z, c1.h.ro, c1.h.R⟩, bumpOs G c1.cs⟩) ∨ (memN i W = false ∧ memN i G = false ∧ ∃ c0, bs0[i]? = some c0 ∧ c = ⟨roH c0.h, c0.cs⟩) := by
    intro i c h
    unfold aft at h
    rw [outL_get] at h
    cases hb : hK.bs[i]? with
    | none => rw [hb] at h; simp at h
    | some c1 =>
      rw [hb] at h
      obtain ⟨k1, k2⟩ := outOK_get hok hb
      rw [Nat.zero_add] at k1 k2
      simp only [Option.map_some, Nat.zero_add] at h
      cases hW : memN i W with
      | true =>
        rw [hW] at h
        simp only [Option.some.injEq] at h
        exact .inl ⟨c1, rfl, rfl, fun hG => (k2 hG).2, h.symm⟩
      | false =>
        rw [hW] at h
        simp only at h
        have hG : memN i G = false := by
          cases hG : memN i G with
          | false => rfl
          | true => have := (k2 hG).1; rw [hW] at this; cases this
        split at h
        · rename_i c0 hc0
          simp only [Option.some.injEq] at h
          exact .inr ⟨rfl, hG, c0, hc0, h.symm⟩
        · cases h
  -- a block that is not written
  have keep : ∀ i c0, memN i W = false → memN i G = false → bs0[i]? = some c0 → hdsIn bs0 (outL W G 0 hK.bs) i = some (roH c0.h) ∧ ∃ j, φ i = some j ∧ phiG φK G i = some j ∧ ∀ r o, j.a = some (r, o) → w'.heap[r]? = w.heap[r]? := by
    intro i c0 hW hG hc0
    have hi : i < hK.bs.length := by have := (List.getElem?_eq_some_iff.1 hc0).1; omega
    have e1 : hdsIn bs0 (outL W G 0 hK.bs) i = some (roH c0.h) := by
      unfold hdsIn
      rw [hc0, outL_get]
      simp [hi, hW]
    obtain ⟨j, g1, g2⟩ := hM0.hdr i _ e1
    refine ⟨e1, j, g1, ?_, fun r o ha => ?_⟩
    · obtain ⟨j', h1, _, h3⟩ := hkp i j g1
      rw [phiG_mk h1, hG, h3 hG]
    · have hro : j.ro = true := g2.2.1
      obtain ⟨k1, k2⟩ := hM0.keep i j r o g1 ha hro
      rw [hM.block r k1 k2, h0]
  have hdr : ∀ i h, hdsAft bs0 (outL W G 0 hK.bs) i = some h → (∃ h1, hdsB hK.bs i = some h1 ∧ memN i W = true ∧ (memN i G = true → h1.grows = true) ∧ h = ⟨(match memN i G with
      | true => 1
      | false => 0), h1.z, h1.ro, h1.R⟩) ∨ (memN i W = false ∧ memN i G = false ∧ ∃ c0, bs0[i]? = some c0 ∧ h = roH c0.h) := by
    intro i h hh
    unfold hdsAft at hh
    split at hh
    · rename_i c hc
      simp only [Option.some.injEq] at hh; subst hh
      rcases told i c hc with ⟨c1, g1, g2, g3, rfl⟩ | ⟨g1, g2, c0, g3, rfl⟩
      · exact .inl ⟨c1.h, by simp [hdsB, g1], g2, g3, rfl⟩
      · exact .inr ⟨g1, g2, c0, g3, rfl⟩
    · cases hh
  have cell : ∀ k x, memAft bs0 (outL W G 0 hK.bs) k = some x → (∃ y, memOf hK.bs k = some y ∧ memN (k / 65536) W = true ∧ x = bumpA G y) ∨ (memN (k / 65536) W = false ∧ memN (k / 65536) G = false ∧ (∃ c0, bs0[k / 65536]? = some c0) ∧ memOf bs0 k = some x) := by
    intro k x hx
    unfold memAft at hx
    split at hx
    · rename_i c hc
      rcases told _ c hc with ⟨c1, g1, g2, g3, rfl⟩ | ⟨g1, g2, c0, g3, rfl⟩
      · unfold cellOf at hx
        split at hx
        · rename_i y hy
          simp only [Option.some.injEq] at hx; subst hx
          obtain ⟨z, k1, k2⟩ := bumpOs_get hy
          exact .inl ⟨z, by simp [memOf, g1, cellOf, k1], g2, k2⟩
        · cases hx
      · exact .inr ⟨g1, g2, ⟨c0, g3⟩, by simp only [memOf, g3]; exact hx⟩
    · cases hx
  constructor
  · intro k x hx
    rcases cell k x hx with ⟨y, h1, h2, rfl⟩ | ⟨h1, h2, ⟨c0, h3⟩, h4⟩
    · by_cases hy : y = .unk
      · subst hy; exact .inl rfl
      · rcases hM.cell k y h1 with e | ⟨j, g1, g2, g3, r, o, arr, ty, fz, v, g4, g5, g6, g7⟩
        · exact absurd e hy
        · have hG : memN (k / 65536) G = false := by
            cases hG : memN (k / 65536) G with
            | false => rfl
            | true =>
              exfalso
              obtain ⟨c1, q1⟩ : ∃ c1, hK.bs[k / 65536]? = some c1 := by
                unfold memOf at h1
                split at h1
                · rename_i c1 hc1; exact ⟨c1, hc1⟩
                · cases h1
              have := (outOK_get hok q1).2 (by rw [Nat.zero_add]; exact hG)
              have hap := hM.apart k y c1.h h1 hy (by simp [hdsB, q1])
              have hg := hap.1
              rw [this.2] at hg
              cases hg
          refine .inr ⟨j, ?_, g2, g3, r, o, arr, ty, fz, v, g4, g5, g6, bumpA_rel hvK g7⟩
          rw [phiG_mk g1, hG]
    · rcases hM0.cell k x h4 with e | hc
      · exact .inl e
      · obtain ⟨j, g1, g2⟩ := hc
        obtain ⟨_, j', k1, k2, k3⟩ := keep _ c0 h1 h2 h3
        rw [k1] at g1; simp only [Option.some.injEq] at g1; subst g1
        exact .inr ⟨j', k2, g2.other hle k3⟩
  · intro i h hh
    rcases hdr i h hh with ⟨h1, g1, g2, g3, rfl⟩ | ⟨g1, g2, c0, g3, rfl⟩
    · obtain ⟨j, k1, k2, k3, k4, k5⟩ := hM.hdr i h1 g1
      refine ⟨_, phiG_mk k1, ?_⟩
      cases hG : memN i G with
      | true =>
        refine ⟨rfl, k3, fun hg => ?_, k5⟩
        have := g3 hG
        rw [show Hd.grows ⟨1, h1.z, h1.ro, h1.R⟩ = h1.grows from rfl, this] at hg
        cases hg
      | false =>
        exact ⟨hvK i j k1, k3, fun hg => k4 hg, k5⟩
    · obtain ⟨e1, j, k1, k2, k3⟩ := keep i c0 g1 g2 g3
      obtain ⟨j', q1, q2⟩ := hM0.hdr i _ e1
      rw [k1] at q1; simp only [Option.some.injEq] at q1; subst q1
      exact ⟨j, k2, q2.other k3⟩
  · intro k x h hx hne hh
    rcases cell k x hx with ⟨y, h1, h2, rfl⟩ | ⟨h1, h2, ⟨c0, h3⟩, h4⟩
    · rcases hdr _ h hh with ⟨hh1, g1, g2, g3, rfl⟩ | ⟨g1, _⟩
      · have hy : y ≠ .unk := fun e => by subst e; exact hne rfl
        exact hM.apart k y hh1 h1 hy g1
      · rw [h2] at g1; cases g1
    · rcases hdr _ h hh with ⟨_, _, g2, _⟩ | ⟨_, _, c1, g3, rfl⟩
      · rw [h1] at g2; cases g2
      · rw [h3] at g3; simp only [Option.some.injEq] at g3; subst g3
        exact hM0.apart k x _ h4 hne (keep _ c0 h1 h2 h3).1
  · intro i i' j j' r o o' hi hi' ha ha'
    obtain ⟨j1, h1, _, h3, _, _, h6, _⟩ := phiG_get hi
    obtain ⟨j2, g1, _, g3, _, _, g6, _⟩ := phiG_get hi'
    rcases hM.inj i i' j1 j2 r o o' h1 g1 (h3 ▸ ha) (g3 ▸ ha') with e | ⟨e1, e2⟩
    · exact .inl e
    · exact .inr ⟨h6.trans e1, g6.trans e2⟩
  · intro i j r o hi ha hro
    obtain ⟨j1, h1, h2, h3, h4, _, h6, _⟩ := phiG_get hi
    rw [h2, h4]
    exact hM.own i j1 r o h1 (h3 ▸ ha) (h6 ▸ hro)
  · intro i j r o hi ha hro
    obtain ⟨j1, h1, h2, h3, h4, _, h6, _⟩ := phiG_get hi
    exact hM.keep i j1 r o h1 (h3 ▸ ha) (h6 ▸ hro)
  · intro i hi
    have hi : (outL W G 0 hK.bs).length ≤ i := hi
    rw [outL_len] at hi
    have := hM.dom i hi
    simp [phiG, this]
  · intro i j r o hi ha
    obtain ⟨j1, h1, h2, h3, _⟩ := phiG_get hi
    exact hM.big i j1 r o h1 (h3 ▸ ha)
  · exact hM.os
  · exact hM.tape
  · exact hM.output
  · exact hM.size
  · exact hM.block
  · exact hM.frz

end
end Go.Proofs.Ytcdejlgophpdjaa.V
