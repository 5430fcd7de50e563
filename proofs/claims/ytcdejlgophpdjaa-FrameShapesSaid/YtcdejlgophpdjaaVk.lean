/-
  A region, run on the local memory; apart at the bools that guard, and made one again.
-/
import Derived.Test.YtcdejlgophpdjaaVj
namespace Go.Proofs.Ytcdejlgophpdjaa.V
open Go Go.RowKit

def refB (ρ : Hds) (b v : Nat) : List Nat := match cur ρ b v with
  | some _ => [b]
  | none => []

def refC (ρ : Hds) : List (Nat × Nat) → List Nat
  | [] => []
  | (b, _) :: r => refB ρ b 0 ++ refC ρ r

def refA (ρ : Hds) : At → List Nat
  | .ptr b _ => refB ρ b 0
  | .prw _ b v _ _ _ _ => refB ρ b v
  | .slc _ b v _ _ _ _ => refB ρ b v
  | .vec b v _ => refB ρ b v
  | .fn _ caps => refC ρ caps
  | _ => []

def refG (ρ : Hds) : List At → List Nat
  | [] => []
  | x :: r => refA ρ x ++ refG ρ r

def refV (ρ : Hds) : LV → List Nat
  | .a x => refA ρ x
  | .g l => refG ρ l
  | _ => []

def refsIn (μ : Mem) (ρ : Hds) (b : Nat) : Nat → Nat → List Nat
  | _, 0 => []
  | k, n + 1 => (match μ (b * 65536 + k) with
    | some x => refA ρ x
    | none => []) ++ refsIn μ ρ b (k + 1) n

def footGo (μ : Mem) (ρ : Hds) : Nat → List Nat → List Nat → List Nat
  | 0, _, acc => acc.reverse
  | _ + 1, [], acc => acc.reverse
  | k + 1, b :: r, acc => match memN b acc with
    | true => footGo μ ρ k r acc
    | false => match ρ b with
      | some h => footGo μ ρ k (refsIn μ ρ b 0 h.z ++ r) (b :: acc)
      | none => footGo μ ρ k r acc

def refOs (σ : Sig) (ρ : Hds) : List Operand → List Nat
  | [] => []
  | x :: r => (match lev σ x with
    | some v => refV ρ v
    | none => []) ++ refOs σ ρ r

def footOf (σ : Sig) (μ : Mem) (ρ : Hds) (o : Oper) : List Nat :=
  match o.op with
  | .call ⟨.value f, as, _⟩ => footGo μ ρ 100 (refOs σ ρ (as.toList ++ [f])) []
  | _ => []

def wbM : List (Nat × At) → List Nat → List Nat
  | [], acc => acc
  | (k, _) :: r, acc => match memN (2 * (k / 65536)) acc with
    | true => wbM r acc
    | false => wbM r (2 * (k / 65536) :: acc)

def wbH : List (Nat × Hd) → List Nat → List Nat
  | [], acc => acc
  | (k, _) :: r, acc => wbH r ((2 * k + 1) :: acc)

theorem wbM_acc : ∀ {l : List (Nat × At)} {acc : List Nat} {b : Nat}, b ∈ acc → b ∈ wbM l acc
  | [], acc, b, h => h
  | (k, x) :: r, acc, b, h => by
    unfold wbM
    split
    · exact wbM_acc h
    · exact wbM_acc (List.mem_cons_of_mem _ h)

theorem wbM_mem : ∀ {l : List (Nat × At)} {acc : List Nat} {k : Nat} {x : At}, (k, x) ∈ l → 2 * (k / 65536) ∈ wbM l acc
  | [], acc, k, x, h => by cases h
  | (k', x') :: r, acc, k, x, h => by
    unfold wbM
    split
    · rename_i hm
      rcases List.mem_cons.1 h with e | h
      · simp only [Prod.mk.injEq] at e; obtain ⟨rfl, _⟩ := e; exact wbM_acc (memN_iff.1 hm)
      · exact wbM_mem h
    · rcases List.mem_cons.1 h with e | h
      · simp only [Prod.mk.injEq] at e; obtain ⟨rfl, _⟩ := e; exact wbM_acc (by simp)
      · exact wbM_mem h

theorem wbH_acc : ∀ {l : List (Nat × Hd)} {acc : List Nat} {b : Nat}, b ∈ acc → b ∈ wbH l acc
  | [], acc, b, h => h
  | (k, x) :: r, acc, b, h => by unfold wbH; exact wbH_acc (List.mem_cons_of_mem _ h)

theorem wbH_mem : ∀ {l : List (Nat × Hd)} {acc : List Nat} {k : Nat} {x : Hd}, (k, x) ∈ l → 2 * k + 1 ∈ wbH l acc
  | [], acc, k, x, h => by cases h
  | (k', x') :: r, acc, k, x, h => by
    unfold wbH
    rcases List.mem_cons.1 h with e | h
    · simp only [Prod.mk.injEq] at e; obtain ⟨rfl, _⟩ := e; exact wbH_acc (by simp)
    · exact wbH_mem h

def guards (i : Nat) : List Oper → Bool
  | [] => false
  | o :: r => match o.guard with
    | some (j, _) => match Nat.beq i j with
      | true => true
      | false => guards i r
    | none => guards i r

def liveL (lv : List Nat) : List (Nat × LV) → List (Nat × LV)
  | [] => []
  | (k, v) :: r => match memN k lv with
    | true => (k, v) :: liveL lv r
    | false => liveL lv r

def pushL {β : Type} (l d : List (Nat × β)) : List (Nat × β) := l.foldl (fun d p => p :: d) d

def under (b c : Bool) : List Prop → List Prop
  | [] => []
  | p :: r => (b = c → p) :: under b c r

theorem under_spec {b : Bool} : ∀ {l : List Prop}, Alls (under b b l) → Alls l
  | [], _ => trivial
  | _ :: _, h => ⟨h.1 rfl, under_spec h.2⟩

theorem under_spec' {b c : Bool} (e : b = c) {l : List Prop} (h : Alls (under b c l)) : Alls l := by subst e; exact under_spec h

section
variable (P : Program) (T : Tab) (n : Nat) (lv : List Nat) (nx : Nat) (σ0 : Sig) (μ0 : Mem) (ρ0 : Hds) (ops : Array Oper) (draw : Bool)

def levR : List Oper → Nat → Nat → List (Nat × LV) → List (Nat × At) → List (Nat × Hd) → List It → Option (List Prop × Pre)
  | [], _, _, rt, rm, rh, its => match draw with
    | false => some ([], ⟨liveL lv rt, rm, rh⟩)
    | true => match drawOK ops.toList its.reverse with
      | true => some ([], ⟨liveL lv rt, rm, rh⟩)
      | false => none
  | o :: rest, i, id, rt, rm, rh, its => match dstOK o.dst n with
    | false => none
    | true => match lwanted (over rt (filt lv σ0)) ops o with
      | none => none
      | some false => levR rest (i + 1) (id + 16) (pushL (putL o.dst (.t [])) rt) rm rh (⟨.t [], [], [], [], rblk (over rt (filt lv σ0)) [] o, []⟩ :: its)
      | some true => match lop P T id (footOf (over rt (filt lv σ0)) (over rm μ0) (over rh ρ0) o) (over rt (filt lv σ0)) (over rm μ0) (over rh ρ0) o with
        | none => none
        | some (obs, v, cs, hs) => match guards i rest, v with
          | true, .a (.bool true b) =>
            match levR rest (i + 1) (id + 16) (pushL (putL o.dst (.a (.bool false true))) rt) (pushL cs rm) (pushL hs rh) (⟨.a (.bool false true), cs, hs, footOf (over rt (filt lv σ0)) (over rm μ0) (over rh ρ0) o, rblk (over rt (filt lv σ0)) (footOf (over rt (filt lv σ0)) (over rm μ0) (over rh ρ0) o) o, wbH hs (wbM cs [])⟩ :: its),
              levR rest (i + 1) (id + 16) (pushL (putL o.dst (.a (.bool false false))) rt) (pushL cs rm) (pushL hs rh) (⟨.a (.bool false false), cs, hs, footOf (over rt (filt lv σ0)) (over rm μ0) (over rh ρ0) o, rblk (over rt (filt lv σ0)) (footOf (over rt (filt lv σ0)) (over rm μ0) (over rh ρ0) o) o, wbH hs (wbM cs [])⟩ :: its) with
            | some (o1, p1), some (o2, p2) => match merge lv nx σ0 μ0 ρ0 b p1 p2 with
              | some m => some (obs ++ (under b true o1 ++ under b false o2), m)
              | none => none
            | _, _ => none
          | _, v => match levR rest (i + 1) (id + 16) (pushL (putL o.dst v) rt) (pushL cs rm) (pushL hs rh) (⟨v, cs, hs, footOf (over rt (filt lv σ0)) (over rm μ0) (over rh ρ0) o, rblk (over rt (filt lv σ0)) (footOf (over rt (filt lv σ0)) (over rm μ0) (over rh ρ0) o) o, wbH hs (wbM cs [])⟩ :: its) with
            | some (o', p) => some (obs ++ o', p)
            | none => none

end

/-- What one state stands for, the other one stands for. -/
def Wk (n : Nat) (lv : List Nat) (σ0 : Sig) (μ0 : Mem) (ρ0 : Hds) (p q : Pre) : Prop := ∀ (w0 : World) (may : Nat → Prop) (φ : Phi) (nx' : Nat) (a : Act) (w : World),
  SR n lv w0 may φ (over p.tm σ0) (over p.mem μ0) (over p.hs ρ0) nx' a w → ∃ ψ, φ.le ψ ∧ SR n lv w0 may ψ (over q.tm σ0) (over q.mem μ0) (over q.hs ρ0) nx' a w

theorem Wk.refl {n : Nat} {lv : List Nat} {σ0 : Sig} {μ0 : Mem} {ρ0 : Hds} (p : Pre) : Wk n lv σ0 μ0 ρ0 p p := fun _ _ φ _ _ _ h => ⟨φ, φ.le_refl, h⟩
theorem Wk.trans {n : Nat} {lv : List Nat} {σ0 : Sig} {μ0 : Mem} {ρ0 : Hds} {p q r : Pre} (h : Wk n lv σ0 μ0 ρ0 p q) (k : Wk n lv σ0 μ0 ρ0 q r) : Wk n lv σ0 μ0 ρ0 p r := fun w0 may φ nx a w hs => by
  obtain ⟨ψ, h1, h2⟩ := h w0 may φ nx a w hs
  obtain ⟨χ, k1, k2⟩ := k w0 may ψ nx a w h2
  exact ⟨χ, Phi.le_trans h1 k1, k2⟩

section
variable {P : Program} {T : Tab} {n : Nat} {lv : List Nat} {nx : Nat} {σ0 : Sig} {μ0 : Mem} {ρ0 : Hds} {ops : Array Oper} {draw : Bool}

theorem lit_refl (v : LV) : lit v v := fun _ _ h => h
theorem lit_bool {s b c : Bool} (e : b = c) : lit (.a (.bool false c)) (.a (.bool s b)) := fun φ x h => by subst e; exact h

/-- The run that it is in truth. -/
theorem levR_run (hf1 : ∀ b, nx ≤ b → ρ0 b = none) (hf2 : ∀ k x, nx ≤ k / 65536 → μ0 k = some x → x = .unk) : ∀ (rest : List Oper) (i id : Nat) (rt : List (Nat × LV)) (rm : List (Nat × At)) (rh : List (Nat × Hd)) (its : List It) {obs : List Prop} {p : Pre},
    levR P T n lv nx σ0 μ0 ρ0 ops draw rest i id rt rm rh its = some (obs, p) → Alls obs →
    ∃ its2 rt2 rm2 rh2, Run P T n ops rest id (over rt (filt lv σ0)) (over rm μ0) (over rh ρ0) its2 ∧ endT rest its2 (over rt (filt lv σ0)) = over rt2 (filt lv σ0) ∧ endM its2 (over rm μ0) = over rm2 μ0 ∧ endH its2 (over rh ρ0) = over rh2 ρ0 ∧
      (draw = true → drawOK ops.toList (its.reverse ++ its2) = true) ∧ Wk n lv σ0 μ0 ρ0 ⟨liveL lv rt2, rm2, rh2⟩ p
  | [], i, id, rt, rm, rh, its, obs, p, h, _ => by
    refine ⟨[], rt, rm, rh, trivial, rfl, rfl, rfl, ?_⟩
    unfold levR at h
    split at h
    · simp only [Option.some.injEq, Prod.mk.injEq] at h
      obtain ⟨_, rfl⟩ := h
      exact ⟨fun e => (by cases e), Wk.refl _⟩
    · split at h
      · rename_i hd
        simp only [Option.some.injEq, Prod.mk.injEq] at h
        obtain ⟨_, rfl⟩ := h
        exact ⟨fun _ => by simpa using hd, Wk.refl _⟩
      · cases h
  | o :: rest, i, id, rt, rm, rh, its, obs, p, h, ho => by
    unfold levR at h
    split at h
    · cases h
    rename_i hdst
    -- one more, then the rest
    have next : ∀ {it : It} {q : Pre}, StepOK P T ops id (over rt (filt lv σ0)) (over rm μ0) (over rh ρ0) o it →
        (∃ its2 rt2 rm2 rh2, Run P T n ops rest (id + 16) (over (pushL (putL o.dst it.v) rt) (filt lv σ0)) (over (pushL it.cs rm) μ0) (over (pushL it.hs rh) ρ0) its2 ∧ endT rest its2 (over (pushL (putL o.dst it.v) rt) (filt lv σ0)) = over rt2 (filt lv σ0) ∧
          endM its2 (over (pushL it.cs rm) μ0) = over rm2 μ0 ∧ endH its2 (over (pushL it.hs rh) ρ0) = over rh2 ρ0 ∧ (draw = true → drawOK ops.toList ((it :: its).reverse ++ its2) = true) ∧ Wk n lv σ0 μ0 ρ0 ⟨liveL lv rt2, rm2, rh2⟩ q) →
        ∃ its2 rt2 rm2 rh2, Run P T n ops (o :: rest) id (over rt (filt lv σ0)) (over rm μ0) (over rh ρ0) its2 ∧ endT (o :: rest) its2 (over rt (filt lv σ0)) = over rt2 (filt lv σ0) ∧ endM its2 (over rm μ0) = over rm2 μ0 ∧ endH its2 (over rh ρ0) = over rh2 ρ0 ∧
          (draw = true → drawOK ops.toList (its.reverse ++ its2) = true) ∧ Wk n lv σ0 μ0 ρ0 ⟨liveL lv rt2, rm2, rh2⟩ q := by
      intro it q hst ⟨its2, rt2, rm2, rh2, k1, k2, k3, k4, k5, k6⟩
      have e1 : over (pushL (putL o.dst it.v) rt) (filt lv σ0) = updL (over rt (filt lv σ0)) (putL o.dst it.v) := over_of_updL _ _ _
      have e2 : over (pushL it.cs rm) μ0 = updL (over rm μ0) it.cs := over_of_updL _ _ _
      have e3 : over (pushL it.hs rh) ρ0 = updL (over rh ρ0) it.hs := over_of_updL _ _ _
      rw [e1, e2, e3] at k1
      rw [e1] at k2; rw [e2] at k3; rw [e3] at k4
      exact ⟨it :: its2, rt2, rm2, rh2, ⟨hst, hdst, k1⟩, k2, k3, k4, fun hd => by have := k5 hd; simpa using this, k6⟩
    have stp : ∀ {foot : List Nat} {obs' : List Prop} {v0 v : LV} {cs : List (Nat × At)} {hs : List (Nat × Hd)}, lwanted (over rt (filt lv σ0)) ops o = some true → lop P T id foot (over rt (filt lv σ0)) (over rm μ0) (over rh ρ0) o = some (obs', v0, cs, hs) → Alls obs' → lit v v0 →
        StepOK P T ops id (over rt (filt lv σ0)) (over rm μ0) (over rh ρ0) o ⟨v, cs, hs, foot, rblk (over rt (filt lv σ0)) foot o, wbH hs (wbM cs [])⟩ :=
      fun hw hl ho' hv => ⟨.inr ⟨hw, _, _, hl, ho', hv⟩, rfl, fun k x hx => wbH_acc (wbM_mem hx), fun k x hx => wbH_mem hx⟩
    split at h
    · cases h
    · rename_i hw
      refine next (it := ⟨.t [], [], [], [], rblk (over rt (filt lv σ0)) [] o, []⟩) ⟨.inl ⟨hw, rfl, rfl, rfl⟩, rfl, (fun k x hx => by cases hx), (fun k x hx => by cases hx)⟩ ?_
      exact levR_run hf1 hf2 rest (i + 1) (id + 16) _ _ _ _ h ho
    · rename_i hw
      split at h
      · cases h
      rename_i obs' v0 cs hs hl
      split at h
      · rename_i b hg
        split at h
        case h_2 => cases h
        rename_i o1 p1 o2 p2 h1 h2
        split at h
        case h_2 => cases h
        rename_i m hm
        simp only [Option.some.injEq, Prod.mk.injEq] at h
        obtain ⟨rfl, rfl⟩ := h
        obtain ⟨ho1, ho2⟩ := Alls.append.1 ho
        obtain ⟨ho3, ho4⟩ := Alls.append.1 ho2
        cases b with
        | true =>
          obtain ⟨its2, rt2, rm2, rh2, k1, k2, k3, k4, k5, k6⟩ := levR_run hf1 hf2 rest (i + 1) (id + 16) _ _ _ _ h1 (under_spec ho3)
          refine next (stp hw hl ho1 (lit_bool rfl)) ⟨its2, rt2, rm2, rh2, k1, k2, k3, k4, k5, k6.trans ?_⟩
          intro w0 may φ nx' a w hs'
          exact merge_sr hm hf1 hf2 hs'
        | false =>
          obtain ⟨its2, rt2, rm2, rh2, k1, k2, k3, k4, k5, k6⟩ := levR_run hf1 hf2 rest (i + 1) (id + 16) _ _ _ _ h2 (under_spec ho4)
          refine next (stp hw hl ho1 (lit_bool rfl)) ⟨its2, rt2, rm2, rh2, k1, k2, k3, k4, k5, k6.trans ?_⟩
          intro w0 may φ nx' a w hs'
          exact merge_sr hm hf1 hf2 hs'
      · split at h
        case h_2 => cases h
        rename_i o' p' hr
        simp only [Option.some.injEq, Prod.mk.injEq] at h
        obtain ⟨rfl, rfl⟩ := h
        obtain ⟨ho1, ho2⟩ := Alls.append.1 ho
        refine next (stp hw hl ho1 (lit_refl _)) ?_
        exact levR_run hf1 hf2 rest (i + 1) (id + 16) _ _ _ _ hr ho2

theorem liveL_mem {t : Nat} {x : LV} : ∀ {l : List (Nat × LV)}, (t, x) ∈ liveL lv l → (t, x) ∈ l
  | [], h => by cases h
  | (k, v) :: r, h => by
    unfold liveL at h
    split at h
    · rcases List.mem_cons.1 h with e | h
      · rw [e]; simp
      · exact List.mem_cons_of_mem _ (liveL_mem h)
    · exact List.mem_cons_of_mem _ (liveL_mem h)

theorem live_over {t : Nat} (ht : memN t lv = true) : ∀ (l : List (Nat × LV)), over (liveL lv l) σ0 t = over l (filt lv σ0) t
  | [] => by simp only [liveL, over, filt, ht]
  | (k, v) :: r => by
    unfold liveL
    split
    · simp only [over, live_over ht r]
    · rename_i hk
      have hne : Nat.beq t k = false := by
        cases hb : Nat.beq t k
        · rfl
        · have := Nat.eq_of_beq_eq_true hb
          subst this
          rw [ht] at hk; cases hk
      simp only [over, hne, live_over ht r]

theorem region_wp (hT : TOK P T) (hF : P.follows .mixedOrders = true) {id : Nat} {obs : List Prop} {p : Pre} {w0 : World} {may : Nat → Prop} {φ : Phi} {a : Act} {w : World}
    (h : levR P T n lv nx σ0 μ0 ρ0 ops draw ops.toList 0 nx [] [] [] [] = some (obs, p)) (ho : Alls obs) (hs : SR n lv w0 may φ σ0 μ0 ρ0 nx a w) {Q : Exit → Act → World → Prop}
    (hQ : ∀ φ' a' w', φ.le φ' → SR n lv w0 may φ' (over p.tm σ0) (over p.mem μ0) (over p.hs ρ0) (nx + 16 * ops.size) a' w' → Q .normal a' w') : (Code.region id ops draw).wp P Q a w := by
  have hf1 : ∀ b, nx ≤ b → ρ0 b = none := fun b hb => by
    cases e : ρ0 b with
    | none => rfl
    | some g =>
      obtain ⟨i, hi, _⟩ := hs.mr.hdr b g e
      rw [hs.mr.dom b hb] at hi; cases hi
  have hf2 : ∀ k x, nx ≤ k / 65536 → μ0 k = some x → x = .unk := fun k x hk hx => cell_none hs.mr hx (hs.mr.dom _ hk)
  obtain ⟨its2, rt2, rm2, rh2, k1, k2, k3, k4, k5, k6⟩ := levR_run hf1 hf2 ops.toList 0 nx [] [] [] [] h ho
  have fin : ∀ φ' a' w', φ.le φ' → TRel φ' (endT ops.toList its2 (filt lv σ0)) a'.tmps → a'.tmps.size = n → a'.defers = [] → MR w0 may φ' (endM its2 μ0) (endH its2 ρ0) (fun b => nx + 16 * ops.toList.length ≤ b) w' → Q .normal a' w' := by
    intro φ' a' w' hle h1 h2 h3 h4
    have h1' : TRel φ' (over rt2 (filt lv σ0)) a'.tmps := by rw [← k2]; exact h1
    have h4' : MR w0 may φ' (over rm2 μ0) (over rh2 ρ0) (fun b => nx + 16 * ops.size ≤ b) w' := by rw [← k3, ← k4]; simpa [over] using h4
    obtain ⟨ψ, q1, q2⟩ := k6 w0 may φ' (nx + 16 * ops.size) a' w' ⟨(fun t x hx => by
        unfold filt at hx
        split at hx
        · rename_i ht
          rw [live_over ht] at hx
          exact h1' t x hx
        · cases hx), h2, h3, h4'⟩
    exact hQ ψ a' w' (Phi.le_trans hle q1) q2
  cases draw with
  | false =>
    refine wp_region ?_
    have := run_wp hT (Q := Q) ops.toList 0 nx (filt lv σ0) μ0 ρ0 k1 rfl hs.tr hs.sz hs.df hs.mr fin
    simpa [List.range_eq_range'] using this
  | true =>
    refine wp_region_any hF ?_
    have e : ops.toList.toArray = ops := by simp
    have hm : (setOf (Array.replicate ops.size false)) = fun _ => false := by
      funext j
      simp [setOf, Array.getD_eq_getD_getElem?, Array.getElem?_replicate]
      split <;> rfl
    have hnone : ∀ {β : Type} (us : List (List (Nat × β))) (f : Nat → Option β), foldS (fun _ => false) 0 us f = f := fun us f => by
      funext k; exact foldS_none us 0 f fun _ _ _ _ => rfl
    have k1' : Run P T n ops.toList.toArray ops.toList nx (filt lv σ0) μ0 ρ0 its2 := by rw [e]; exact k1
    have := any_wp hT (w0 := w0) (may := may) k1' (by have := k5 rfl; simpa using this) (Q := Q) ops.size (Array.replicate ops.size false) (by simp) (by
        unfold unlisted
        have := List.countP_le_length (p := (· == false)) (l := (Array.replicate ops.size false).toList)
        simpa using this) (by
        intro i o hi hS; rw [hm] at hS; cases hS) (φ := φ) (a := a) (w := { w with drawn := w.drawn + 1 }) (by rw [hm, hnone]; exact hs.tr) hs.sz hs.df (by
        rw [hm, hnone, hnone]
        exact (hs.mr.drawn _).drop fun b hb => hb.1) fin
    rw [e] at this
    exact this

end
end Go.Proofs.Ytcdejlgophpdjaa.V
