/-
  A region whose order is open (third part): the checks; whatever order the tape picks, it ends as in the text's order.
-/
import Derived.Test.YtcdejlgophpdjaaVg
namespace Go.Proofs.Ytcdejlgophpdjaa.V
open Go Go.RowKit

def direct (o : Oper) : List Nat := (o.after.toList.filter fun e => Region.binds .any e).map (·.on)

def maskOf (acc : List Nat) : List Nat → Nat
  | [] => 0
  | j :: r => Nat.lor (Nat.lor (Nat.shiftLeft 1 j) (acc.getD j 0)) (maskOf acc r)

def masks : List Oper → List Nat → List Nat
  | [], acc => acc
  | o :: r, acc => masks r (acc ++ [maskOf acc (direct o)])

def memN (x : Nat) : List Nat → Bool
  | [] => false
  | y :: r => match Nat.beq x y with
    | true => true
    | false => memN x r

theorem memN_iff {x : Nat} : ∀ {l : List Nat}, memN x l = true ↔ x ∈ l
  | [] => by simp [memN]
  | y :: r => by
    unfold memN
    cases hb : Nat.beq x y
    · have : x ≠ y := fun e => by subst e; simp at hb
      simp [this, memN_iff (l := r)]
    · have : x = y := Nat.eq_of_beq_eq_true hb
      simp [this]

structure Info where
  looks : List Nat
  dst : Option Nat
  rb : List Nat
  wb : List Nat

def apartN (x : Option Nat) (l : List Nat) : Bool := match x with
  | some d => !memN d l
  | none => true

def apartO (x y : Option Nat) : Bool := match x, y with
  | some d, some e => !Nat.beq d e
  | _, _ => true

def apartL : List Nat → List Nat → Bool
  | [], _ => true
  | x :: r, l => match memN x l with
    | true => false
    | false => apartL r l

theorem apartL_spec {l : List Nat} : ∀ {m : List Nat}, apartL m l = true → ∀ b, b ∈ m → b ∉ l
  | [], _, b, hb => by cases hb
  | x :: r, h, b, hb => by
    unfold apartL at h
    split at h
    · cases h
    · rename_i hx
      rcases List.mem_cons.1 hb with rfl | hb
      · intro hm; rw [memN_iff.2 hm] at hx; cases hx
      · exact apartL_spec h b hb

/-- Two operations that don't meet. -/
def indep (y x : Info) : Bool := apartN y.dst x.looks && apartN x.dst y.looks && apartO x.dst y.dst && apartL y.wb x.rb && apartL x.wb y.rb && apartL x.wb y.wb

def chk1 (m : Nat) (x : Info) : List (Nat × Info) → Bool
  | [] => true
  | (i, y) :: r => (Nat.testBit m i || indep y x) && chk1 m x r

def chk : Nat → List Info → List Nat → List (Nat × Info) → Bool
  | _, [], _, _ => true
  | j, x :: r, m :: ms, prev => chk1 m x prev && chk (j + 1) r ms ((j, x) :: prev)
  | _, _, _, _ => false

def ltAll (l : List Nat) (i : Nat) : Bool := l.all fun k => Nat.blt k i

def ordOK : List Oper → Nat → Bool
  | [], _ => true
  | o :: r, i => ltAll (direct o) i && ordOK r (i + 1)

def infos (ops : Array Oper) : List Oper → List It → List Info
  | o :: r, it :: its => ⟨Oper.looksAt ops o, o.dst, it.rb, it.wb⟩ :: infos ops r its
  | _, _ => []

def drawOK (ops : List Oper) (its : List It) : Bool :=
  ordOK ops 0 && chk 0 (infos ops.toArray ops its) (masks ops []) []

theorem ordOK_spec : ∀ {ops : List Oper} {s : Nat}, ordOK ops s = true → ∀ {i : Nat} {o : Oper}, ops[i]? = some o → ∀ k ∈ direct o, k < s + i
  | [], s, _, i, o, h => by simp at h
  | p :: r, s, h, 0, o, ho => by
    simp only [List.getElem?_cons_zero, Option.some.injEq] at ho
    subst ho
    unfold ordOK ltAll at h
    simp only [Bool.and_eq_true, List.all_eq_true] at h
    intro k hk
    exact Nat.le_of_ble_eq_true (h.1 k hk)
  | p :: r, s, h, i + 1, o, ho => by
    unfold ordOK at h
    simp only [Bool.and_eq_true] at h
    intro k hk
    have := ordOK_spec h.2 (i := i) (o := o) (by simpa using ho) k hk
    omega

theorem masks_len : ∀ (ops : List Oper) (acc : List Nat), (masks ops acc).length = acc.length + ops.length
  | [], acc => by simp [masks]
  | o :: r, acc => by simp [masks, masks_len r]; omega

theorem masks_pre : ∀ (ops : List Oper) (acc : List Nat) {i : Nat}, i < acc.length → (masks ops acc)[i]? = acc[i]?
  | [], acc, i, h => rfl
  | o :: r, acc, i, h => by
    unfold masks
    rw [masks_pre r _ (by simp; omega), List.getElem?_append_left h]

theorem maskOf_spec {acc : List Nat} {k : Nat} : ∀ {l : List Nat}, Nat.testBit (maskOf acc l) k = true → ∃ j ∈ l, k = j ∨ Nat.testBit (acc.getD j 0) k = true
  | [], h => by simp [maskOf] at h
  | j :: r, h => by
    unfold maskOf at h
    have e : ∀ a b : Nat, Nat.testBit (Nat.lor a b) k = (Nat.testBit a k || Nat.testBit b k) := fun a b => Nat.testBit_or a b k
    rw [e, e] at h
    simp only [Bool.or_eq_true] at h
    rcases h with (h | h) | h
    · refine ⟨j, by simp, .inl ?_⟩
      have h' : Nat.testBit (1 <<< j) k = true := h
      rw [Nat.one_shiftLeft, Nat.testBit_two_pow] at h'
      have e2 : j = k := by simpa using h'
      exact e2.symm
    · exact ⟨j, by simp, .inr h⟩
    · obtain ⟨j', h1, h2⟩ := maskOf_spec h
      exact ⟨j', by simp [h1], h2⟩

/-- A set that holds, with an operation, all that is ordered ahead of it. -/
def Down (ops : List Oper) (S : Nat → Bool) : Prop := ∀ i o, ops[i]? = some o → S i = true → ∀ k ∈ direct o, S k = true

theorem masks_down {all : List Oper} {S : Nat → Bool} (hS : Down all S) : ∀ (ops : List Oper) (acc : List Nat), all.drop acc.length = ops →
    (∀ i m, acc[i]? = some m → S i = true → ∀ k, Nat.testBit m k = true → S k = true) → (∀ i m, (masks ops acc)[i]? = some m → S i = true → ∀ k, Nat.testBit m k = true → S k = true)
  | [], acc, _, h => h
  | o :: r, acc, hd, h => by
    unfold masks
    refine masks_down hS r _ ?_ ?_
    · have := congrArg List.tail hd
      simpa using this
    · intro i m hi hSi k hk
      by_cases hlt : i < acc.length
      · rw [List.getElem?_append_left hlt] at hi
        exact h i m hi hSi k hk
      · have hi' : i = acc.length := by
          have := (List.getElem?_eq_some_iff.1 hi).1
          simp at this; omega
        subst hi'
        simp at hi
        subst hi
        have ho : all[acc.length]? = some o := by
          have := congrArg (fun l => l[0]?) hd
          simpa using this
        obtain ⟨j, hj, hk'⟩ := maskOf_spec hk
        have hSj := hS _ o ho hSi j hj
        rcases hk' with rfl | hk'
        · exact hSj
        · by_cases hjl : j < acc.length
          · have hg : acc[j]? = some (acc.getD j 0) := by simp [List.getD_eq_getElem?_getD, hjl]
            exact h j _ hg hSj k hk'
          · have : acc.getD j 0 = 0 := by simp [List.getD_eq_getElem?_getD, hjl]
            rw [this] at hk'; simp at hk'

theorem chk1_spec {m : Nat} {x : Info} : ∀ {l : List (Nat × Info)}, chk1 m x l = true → ∀ i y, (i, y) ∈ l → Nat.testBit m i = true ∨ indep y x = true
  | [], _, i, y, h => by cases h
  | (i', y') :: r, h, i, y, hm => by
    unfold chk1 at h
    simp only [Bool.and_eq_true, Bool.or_eq_true] at h
    rcases List.mem_cons.1 hm with e | hm
    · simp only [Prod.mk.injEq] at e; obtain ⟨rfl, rfl⟩ := e; exact h.1
    · exact chk1_spec h.2 i y hm

theorem chk_spec : ∀ {xs : List Info} {ms : List Nat} {prev : List (Nat × Info)} {j0 : Nat}, chk j0 xs ms prev = true → ∀ j x, xs[j]? = some x → ∃ m, ms[j]? = some m ∧
    (∀ i y, (i, y) ∈ prev → Nat.testBit m i = true ∨ indep y x = true) ∧ (∀ i y, i < j → xs[i]? = some y → Nat.testBit m (j0 + i) = true ∨ indep y x = true)
  | [], ms, prev, j0, _, j, x, h => by simp at h
  | x' :: r, [], prev, j0, hc, j, x, h => by simp [chk] at hc
  | x' :: r, m' :: ms, prev, j0, hc, 0, x, h => by
    simp only [List.getElem?_cons_zero, Option.some.injEq] at h
    subst h
    unfold chk at hc
    simp only [Bool.and_eq_true] at hc
    exact ⟨m', by simp, chk1_spec hc.1, fun i y hi => by omega⟩
  | x' :: r, m' :: ms, prev, j0, hc, j + 1, x, h => by
    unfold chk at hc
    simp only [Bool.and_eq_true] at hc
    obtain ⟨m, h1, h2, h3⟩ := chk_spec hc.2 j x (by simpa using h)
    refine ⟨m, by simpa using h1, fun i y hy => h2 i y (by simp [hy]), fun i y hi hy => ?_⟩
    cases i with
    | zero =>
      simp only [List.getElem?_cons_zero, Option.some.injEq] at hy
      subst hy
      exact h2 j0 _ (by simp)
    | succ i =>
      have := h3 i y (by omega) (by simpa using hy)
      rw [show j0 + (i + 1) = j0 + 1 + i by omega]; exact this

/-! The trace of the text's order. -/
def usT : List Oper → List It → List (List (Nat × LV))
  | o :: r, it :: its => putL o.dst it.v :: usT r its
  | _, _ => []

def usM (its : List It) : List (List (Nat × At)) := its.map (·.cs)
def usH (its : List It) : List (List (Nat × Hd)) := its.map (·.hs)

theorem run_trace {P : Program} {T : Tab} {n : Nat} {ops : Array Oper} : ∀ (rest : List Oper) (id : Nat) (σ : Sig) (μ : Mem) (ρ : Hds) {its : List It}, Run P T n ops rest id σ μ ρ its →
    its.length = rest.length ∧
    (∀ (j : Nat) (o : Oper), rest[j]? = some o → ∃ it, its[j]? = some it ∧ dstOK o.dst n = true ∧
      StepOK P T ops (id + 16 * j) (foldS (ltB j) 0 (usT rest its) σ) (foldS (ltB j) 0 (usM its) μ) (foldS (ltB j) 0 (usH its) ρ) o it) ∧
    endT rest its σ = foldS (fun _ => true) 0 (usT rest its) σ ∧ endM its μ = foldS (fun _ => true) 0 (usM its) μ ∧ endH its ρ = foldS (fun _ => true) 0 (usH its) ρ
  | [], id, σ, μ, ρ, its, h => by
    cases its with
    | nil => exact ⟨rfl, fun j o hj => by simp at hj, rfl, rfl, rfl⟩
    | cons _ _ => exact h.elim
  | o :: rest, id, σ, μ, ρ, [], h => h.elim
  | o :: rest, id, σ, μ, ρ, it :: its, h => by
    obtain ⟨h1, h2, h3⟩ := h
    obtain ⟨r1, r2, r3, r4, r5⟩ := run_trace rest (id + 16) _ _ _ h3
    refine ⟨by simp [r1], ?_, ?_, ?_, ?_⟩
    · intro j p hj
      cases j with
      | zero =>
        simp only [List.getElem?_cons_zero, Option.some.injEq] at hj
        subst hj
        refine ⟨it, by simp, h2, ?_⟩
        rw [foldS_lt_zero, foldS_lt_zero, foldS_lt_zero]; exact h1
      | succ j =>
        obtain ⟨it', g1, g2, g3⟩ := r2 j p (by simpa using hj)
        refine ⟨it', by simpa using g1, g2, ?_⟩
        simp only [usT, usM, usH, List.map_cons, foldS_lt_succ]
        rw [show id + 16 * (j + 1) = id + 16 + 16 * j by omega]
        exact g3
    · simp only [endT]; rw [r3]
      simp only [usT]
      conv => rhs; unfold foldS
      rw [foldS_shift]
    · simp only [endM]; rw [r4]
      simp only [usM, List.map_cons]
      conv => rhs; unfold foldS
      rw [foldS_shift]
    · simp only [endH]; rw [r5]
      simp only [usH, List.map_cons]
      conv => rhs; unfold foldS
      rw [foldS_shift]

theorem usT_get : ∀ {ops : List Oper} {its : List It} {j : Nat} {o : Oper} {it : It}, ops[j]? = some o → its[j]? = some it → (usT ops its)[j]? = some (putL o.dst it.v)
  | [], its, j, o, it, h, _ => by simp at h
  | p :: r, [], j, o, it, _, h => by simp at h
  | p :: r, q :: its, 0, o, it, h, h' => by
    simp only [List.getElem?_cons_zero, Option.some.injEq] at h h'
    subst h; subst h'; rfl
  | p :: r, q :: its, j + 1, o, it, h, h' => by
    simp only [usT, List.getElem?_cons_succ]
    exact usT_get (by simpa using h) (by simpa using h')

theorem usT_inv : ∀ {ops : List Oper} {its : List It} {j : Nat} {u : List (Nat × LV)}, (usT ops its)[j]? = some u → ∃ o it, ops[j]? = some o ∧ its[j]? = some it ∧ u = putL o.dst it.v
  | [], its, j, u, h => by simp [usT] at h
  | p :: r, [], j, u, h => by simp [usT] at h
  | p :: r, q :: its, 0, u, h => by
    simp only [usT, List.getElem?_cons_zero, Option.some.injEq] at h
    exact ⟨p, q, rfl, rfl, h.symm⟩
  | p :: r, q :: its, j + 1, u, h => by
    simp only [usT, List.getElem?_cons_succ] at h
    obtain ⟨o, it, h1, h2, h3⟩ := usT_inv h
    exact ⟨o, it, by simpa using h1, by simpa using h2, h3⟩

theorem infos_get {all : Array Oper} : ∀ {ops : List Oper} {its : List It} {j : Nat} {o : Oper} {it : It}, ops[j]? = some o → its[j]? = some it →
    (infos all ops its)[j]? = some ⟨Oper.looksAt all o, o.dst, it.rb, it.wb⟩
  | [], its, j, o, it, h, _ => by simp at h
  | p :: r, [], j, o, it, _, h => by simp at h
  | p :: r, q :: its, 0, o, it, h, h' => by
    simp only [List.getElem?_cons_zero, Option.some.injEq] at h h'
    subst h; subst h'; rfl
  | p :: r, q :: its, j + 1, o, it, h, h' => by
    simp only [infos, List.getElem?_cons_succ]
    exact infos_get (by simpa using h) (by simpa using h')

theorem mem_putL {d : Option Nat} {v x : LV} {t : Nat} : (t, x) ∈ putL d v ↔ d = some t ∧ x = v := by
  cases d with
  | none => simp [putL]
  | some e => simp only [putL, List.mem_singleton, Prod.mk.injEq, Option.some.injEq]; exact ⟨fun ⟨a, b⟩ => ⟨a.symm, b⟩, fun ⟨a, b⟩ => ⟨a.symm, b⟩⟩

def setOf (listed : Array Bool) (i : Nat) : Bool := listed.getD i false

theorem apartN_spec {d : Nat} {l : List Nat} (h : apartN (some d) l = true) : d ∉ l := by
  intro hm
  simp [apartN, memN_iff.2 hm] at h

theorem apartO_spec {d e : Nat} (h : apartO (some d) (some e) = true) : d ≠ e := by
  intro he
  subst he
  simp [apartO] at h

theorem usT_len : ∀ (ops : List Oper) (its : List It), (usT ops its).length ≤ ops.length
  | [], _ => by simp [usT]
  | _ :: _, [] => by simp [usT]
  | _ :: r, _ :: its => by simp only [usT, List.length_cons]; exact Nat.succ_le_succ (usT_len r its)

section
variable {P : Program} {w0 : World} {may : Nat → Prop} {T : Tab}

theorem ready_of {ops : List Oper} {listed : Array Bool} {i : Nat} (h : i ∈ Region.ready .any ops.toArray listed) : i < ops.length ∧ listed.getD i true = false ∧ ∃ o, ops[i]? = some o ∧ ∀ k ∈ direct o, setOf listed k = true := by
  unfold Region.ready at h
  rw [List.mem_filter] at h
  obtain ⟨h1, h2⟩ := h
  have hi : i < ops.length := by simpa using h1
  refine ⟨hi, ?_, ?_⟩
  · simp only [Bool.and_eq_true, Bool.not_eq_true'] at h2; exact h2.1
  · simp only [Bool.and_eq_true] at h2
    have ho : ops[i]? = some ops[i] := by simp [hi]
    refine ⟨ops[i], ho, fun k hk => ?_⟩
    have h3 := h2.2
    simp [hi] at h3
    obtain ⟨e, he, rfl⟩ := List.mem_map.1 hk
    rw [List.mem_filter] at he
    have he1 : e ∈ ops[i].after := by simpa using he.1
    obtain ⟨q, hq, rfl⟩ := Array.mem_iff_getElem.1 he1
    have := h3 q hq
    rw [he.2] at this
    simpa [setOf, Array.getD_eq_getD_getElem?] using this

def unlisted (listed : Array Bool) : Nat := listed.toList.countP (· == false)

theorem any_wp (hT : TOK P T) {n : Nat} {ops : List Oper} {id : Nat} {σ : Sig} {μ : Mem} {ρ : Hds} {its : List It} (h : Run P T n ops.toArray ops id σ μ ρ its) (hc : drawOK ops its = true)
    {Q : Exit → Act → World → Prop} : ∀ (fuel : Nat) (listed : Array Bool), listed.size = ops.length → unlisted listed ≤ fuel → Down ops (setOf listed) → ∀ {φ : Phi} {a : Act} {w : World},
    TRel φ (foldS (setOf listed) 0 (usT ops its) σ) a.tmps → a.tmps.size = n → a.defers = [] →
    MR w0 may φ (foldS (setOf listed) 0 (usM its) μ) (foldS (setOf listed) 0 (usH its) ρ) (fun b => id ≤ b ∧ ∀ j, setOf listed j = true → ∀ q, q < 16 → b ≠ id + 16 * j + q) w →
    (∀ φ' a' w', φ.le φ' → TRel φ' (endT ops its σ) a'.tmps → a'.tmps.size = n → a'.defers = [] → MR w0 may φ' (endM its μ) (endH its ρ) (fun b => id + 16 * ops.length ≤ b) w' → Q .normal a' w') →
    wpAny P .any ops.toArray Q fuel listed a w := by
  obtain ⟨t1, t2, t3, t4, t5⟩ := run_trace (n := n) ops id σ μ ρ h
  unfold drawOK at hc
  simp only [Bool.and_eq_true] at hc
  have hord := fun {i : Nat} {o : Oper} => ordOK_spec hc.1 (i := i) (o := o)
  have hchk := chk_spec hc.2
  have haux : ∀ S, Down ops S → ∀ (i m : Nat), (masks ops [])[i]? = some m → S i = true → ∀ k, Nat.testBit m k = true → S k = true := fun S hS =>
    masks_down hS ops [] rfl (fun i m hi => by simp at hi)
  -- two operations, the lower one not there, the higher one there: they don't meet
  have meet : ∀ S, Down ops S → ∀ (i j : Nat) yi yj, i < j → (infos ops.toArray ops its)[i]? = some yi → (infos ops.toArray ops its)[j]? = some yj → S i = false → S j = true → indep yi yj = true := by
    intro S hS i j yi yj hij hi hj hSi hSj
    obtain ⟨m, m1, _, m3⟩ := hchk j yj hj
    rcases m3 i yi hij hi with hb | hb
    · rw [Nat.zero_add] at hb
      have := haux S hS j m m1 hSj i hb
      rw [hSi] at this; cases this
    · exact hb
  have atEnd : ∀ (listed : Array Bool) {φ : Phi} {a : Act} {w : World}, listed.size = ops.length → (∀ i, i < ops.length → setOf listed i = true) → TRel φ (foldS (setOf listed) 0 (usT ops its) σ) a.tmps → a.tmps.size = n → a.defers = [] →
      MR w0 may φ (foldS (setOf listed) 0 (usM its) μ) (foldS (setOf listed) 0 (usH its) ρ) (fun b => id ≤ b ∧ ∀ j, setOf listed j = true → ∀ q, q < 16 → b ≠ id + 16 * j + q) w →
      (∀ φ' a' w', φ.le φ' → TRel φ' (endT ops its σ) a'.tmps → a'.tmps.size = n → a'.defers = [] → MR w0 may φ' (endM its μ) (endH its ρ) (fun b => id + 16 * ops.length ≤ b) w' → Q .normal a' w') → Q .normal a w := by
    intro listed φ a w hs hall g1 g2 g3 g4 hQ
    have lenT : (usT ops its).length ≤ ops.length := usT_len ops its
    refine hQ φ a w φ.le_refl ?_ g2 g3 ?_
    · rw [t3, ← foldS_all (setOf listed) (usT ops its) 0 σ (fun j hj => by rw [Nat.zero_add]; exact hall j (by omega))]; exact g1
    · rw [t4, t5, ← foldS_all (setOf listed) (usM its) 0 μ (fun j hj => by rw [Nat.zero_add]; exact hall j (by simp [usM] at hj; omega)), ← foldS_all (setOf listed) (usH its) 0 ρ (fun j hj => by rw [Nat.zero_add]; exact hall j (by simp [usH] at hj; omega))]
      refine g4.drop fun b hb => ⟨by omega, fun j hj q hq => ?_⟩
      have : j < listed.size := by
        unfold setOf at hj
        rw [Array.getD_eq_getD_getElem?] at hj
        cases hx : listed[j]? with
        | none => rw [hx] at hj; cases hj
        | some u => exact (Array.getElem?_eq_some_iff.1 hx).1
      omega
  intro fuel
  induction fuel with
  | zero =>
    intro listed hsz hun hdn φ a w g1 g2 g3 g4 hQ
    have hall : ∀ i, i < ops.length → setOf listed i = true := by
      intro i hi
      have h0 : listed.toList.countP (· == false) = 0 := by unfold unlisted at hun; omega
      rw [List.countP_eq_zero] at h0
      have hi' : i < listed.size := by omega
      have := h0 listed[i] (by simp)
      simpa [setOf, Array.getD_eq_getD_getElem?, hi'] using this
    unfold wpAny
    refine ⟨?_, atEnd listed hsz hall g1 g2 g3 g4 hQ⟩
    apply List.eq_nil_iff_forall_not_mem.2
    intro i hi
    obtain ⟨r1, r2, _⟩ := ready_of hi
    have := hall i r1
    have hi' : i < listed.size := by omega
    simp [setOf, Array.getD_eq_getD_getElem?, hi'] at this r2
    rw [this] at r2; cases r2
  | succ fuel ih =>
    intro listed hsz hun hdn φ a w g1 g2 g3 g4 hQ
    unfold wpAny
    refine ⟨fun hr => ?_, fun i hi => ?_⟩
    · -- none is ready: all are there
      refine atEnd listed hsz ?_ g1 g2 g3 g4 hQ
      intro i
      induction i using Nat.strongRecOn with
      | _ i ihs =>
        intro hi
        cases hS : setOf listed i with
        | true => rfl
        | false =>
          exfalso
          have hi' : i < listed.size := by omega
          have : i ∈ Region.ready .any ops.toArray listed := by
            unfold Region.ready
            rw [List.mem_filter]
            refine ⟨by simpa using hi, ?_⟩
            have hl : listed[i] = false := by simpa [setOf, Array.getD_eq_getD_getElem?, hi'] using hS
            simp only [List.getElem?_toArray]
            have ho : ops[i]? = some ops[i] := by simp [hi]
            rw [ho]
            simp only [Option.map_some, Option.getD_some, Bool.and_eq_true, Bool.not_eq_true']
            refine ⟨by simp [Array.getD_eq_getD_getElem?, hi', hl], ?_⟩
            rw [Array.all_eq_true]
            intro q hq
            simp only [Bool.or_eq_true, Bool.not_eq_true']
            by_cases hb : Region.binds .any ops[i].after[q] = true
            · right
              have hk : ops[i].after[q].on ∈ direct ops[i] := by
                unfold direct
                refine List.mem_map.2 ⟨ops[i].after[q], List.mem_filter.2 ⟨by simp, hb⟩, rfl⟩
              have hlt := hord ho _ hk
              exact ihs _ (by omega) (by omega)
            · left; simpa using hb
          rw [hr] at this
          cases this
    · obtain ⟨r1, r2, o, r3, r4⟩ := ready_of hi
      have hi' : i < listed.size := by omega
      have hSi : setOf listed i = false := by
        simp [Array.getD_eq_getD_getElem?, hi'] at r2
        simp [setOf, Array.getD_eq_getD_getElem?, hi', r2]
      obtain ⟨it, s1, s2, s4⟩ := t2 i o r3
      have hinf := infos_get (all := ops.toArray) r3 s1
      -- the state that is there looks, to this operation, as in the text's order
      have hDi : Down ops (fun x => setOf listed x || Nat.beq x i) := by
        intro x p hx hSx k hk
        simp only [Bool.or_eq_true] at hSx ⊢
        rcases hSx with hSx | hSx
        · exact .inl (hdn x p hx hSx k hk)
        · have : x = i := Nat.eq_of_beq_eq_true hSx
          subst this
          rw [r3] at hx
          simp only [Option.some.injEq] at hx
          subst hx
          exact .inl (r4 k hk)
      have lower : ∀ (j : Nat) yj, j < i → (infos ops.toArray ops its)[j]? = some yj → setOf listed j = false → indep yj ⟨Oper.looksAt ops.toArray o, o.dst, it.rb, it.wb⟩ = true := by
        intro j yj hj hyj hSj
        refine meet _ hDi j i _ _ hj hyj hinf ?_ (by simp)
        have : Nat.beq j i = false := by
          cases hb : Nat.beq j i
          · rfl
          · exact absurd (Nat.eq_of_beq_eq_true hb) (by omega)
        simp [hSj, this]
      have upper : ∀ (j : Nat) yj, i < j → (infos ops.toArray ops its)[j]? = some yj → setOf listed j = true → indep ⟨Oper.looksAt ops.toArray o, o.dst, it.rb, it.wb⟩ yj = true := by
        intro j yj hj hyj hSj
        exact meet _ hdn i j _ _ hj hinf hyj hSi hSj
      -- what is agreed on: where no operation that is (or isn't) there writes
      have agree : ∀ {β : Type} {us : List (List (Nat × β))} {f : Nat → Option β} {k : Nat}, (∀ (j : Nat) u, us[j]? = some u → (∃ v, (k, v) ∈ u) → ∃ p itp, ops[j]? = some p ∧ its[j]? = some itp ∧
            (indep ⟨Oper.looksAt ops.toArray p, p.dst, itp.rb, itp.wb⟩ ⟨Oper.looksAt ops.toArray o, o.dst, it.rb, it.wb⟩ = true → False) ∧ (indep ⟨Oper.looksAt ops.toArray o, o.dst, it.rb, it.wb⟩ ⟨Oper.looksAt ops.toArray p, p.dst, itp.rb, itp.wb⟩ = true → False)) →
          foldS (setOf listed) 0 us f k = foldS (ltB i) 0 us f k := by
        intro β us f k hu
        refine foldS_congr _ 0 _ _ (fun j u hj hv => ?_) rfl
        rw [Nat.zero_add]
        obtain ⟨p, itp, p1, p2, p3, p4⟩ := hu j u hj hv
        have hyj := infos_get (all := ops.toArray) p1 p2
        by_cases hlt : j < i
        · rw [ltB_iff.2 hlt]
          cases hS : setOf listed j with
          | true => rfl
          | false => exact (p3 (lower j _ hlt hyj hS)).elim
        · have hf : ltB i j = false := by
            cases hb : ltB i j
            · rfl
            · exact absurd (ltB_iff.1 hb) hlt
          rw [hf]
          cases hS : setOf listed j with
          | false => rfl
          | true =>
            by_cases hji : j = i
            · subst hji; rw [hSi] at hS; cases hS
            · exact (p4 (upper j _ (by omega) hyj hS)).elim
      have agreeT : ∀ t ∈ Oper.looksAt ops.toArray o, foldS (setOf listed) 0 (usT ops its) σ t = foldS (ltB i) 0 (usT ops its) σ t := by
        intro t ht
        refine agree fun j u hj hv => ?_
        obtain ⟨p, itp, p1, p2, rfl⟩ := usT_inv hj
        obtain ⟨v, hv⟩ := hv
        have hpd := (mem_putL.1 hv).1
        refine ⟨p, itp, p1, p2, fun hi => ?_, fun hi => ?_⟩
        · simp only [indep, Bool.and_eq_true, hpd] at hi
          exact apartN_spec hi.1.1.1.1.1 ht
        · simp only [indep, Bool.and_eq_true, hpd] at hi
          exact apartN_spec hi.1.1.1.1.2 ht
      have wbOf : ∀ (j : Nat) p itp, ops[j]? = some p → its[j]? = some itp → (∀ k x, (k, x) ∈ itp.cs → 2 * (k / 65536) ∈ itp.wb) ∧ (∀ k x, (k, x) ∈ itp.hs → 2 * k + 1 ∈ itp.wb) := by
        intro j p itp p1 p2
        obtain ⟨itp', q1, _, q3⟩ := t2 j p p1
        rw [p2] at q1; simp only [Option.some.injEq] at q1; subst q1
        exact q3.2.2
      have hl : its.length = ops.length := t1
      have opAt : ∀ (j : Nat) itp, its[j]? = some itp → ∃ p, ops[j]? = some p := by
        intro j itp hj
        have : j < ops.length := by have := (List.getElem?_eq_some_iff.1 hj).1; omega
        exact ⟨ops[j], by simp [this]⟩
      have agreeB : Agr it.rb (foldS (ltB i) 0 (usM its) μ) (foldS (setOf listed) 0 (usM its) μ) (foldS (ltB i) 0 (usH its) ρ) (foldS (setOf listed) 0 (usH its) ρ) := by
        intro b
        refine ⟨fun hb => (agree fun j u hj hv => ?_).symm, fun hb k hk => (agree fun j u hj hv => ?_).symm⟩
        · simp only [usH, List.getElem?_map, Option.map_eq_some_iff] at hj
          obtain ⟨itp, p2, rfl⟩ := hj
          obtain ⟨p, p1⟩ := opAt j itp p2
          obtain ⟨v, hv⟩ := hv
          have hw := (wbOf j p itp p1 p2).2 _ _ hv
          refine ⟨p, itp, p1, p2, fun hi => ?_, fun hi => ?_⟩
          · simp only [indep, Bool.and_eq_true] at hi
            exact apartL_spec hi.1.1.2 (2 * b + 1) hw hb
          · simp only [indep, Bool.and_eq_true] at hi
            exact apartL_spec hi.1.2 (2 * b + 1) hw hb
        · simp only [usM, List.getElem?_map, Option.map_eq_some_iff] at hj
          obtain ⟨itp, p2, rfl⟩ := hj
          obtain ⟨p, p1⟩ := opAt j itp p2
          obtain ⟨v, hv⟩ := hv
          have hw := (wbOf j p itp p1 p2).1 _ _ hv
          rw [key_div _ _ hk] at hw
          refine ⟨p, itp, p1, p2, fun hi => ?_, fun hi => ?_⟩
          · simp only [indep, Bool.and_eq_true] at hi
            exact apartL_spec hi.1.1.2 (2 * b) hw hb
          · simp only [indep, Bool.and_eq_true] at hi
            exact apartL_spec hi.1.2 (2 * b) hw hb
      have hstep := StepOK_congr (fun t ht => (agreeT t ht).symm) agreeB s4
      have hS' : ∀ j, setOf (listed.setIfInBounds i true) j = (setOf listed j || Nat.beq j i) := by
        intro j
        simp only [setOf, Array.getD_eq_getD_getElem?, Array.getElem?_setIfInBounds]
        by_cases hji : i = j
        · subst hji; simp [hi']
        · have : Nat.beq j i = false := by
            cases hb : Nat.beq j i
            · rfl
            · exact absurd (Nat.eq_of_beq_eq_true hb).symm hji
          simp [hji, this]
      have foldT : foldS (setOf (listed.setIfInBounds i true)) 0 (usT ops its) σ = putS (foldS (setOf listed) 0 (usT ops its) σ) o.dst it.v := by
        rw [putS_updL]
        refine foldS_put (usT_get r3 s1) hS' (fun j k v u' hij hu hj hv' => ?_) _
        obtain ⟨p, itp, p1, p2, rfl⟩ := usT_inv hj
        obtain ⟨v', hv'⟩ := hv'
        have h1 := (mem_putL.1 hu).1
        have h2 := (mem_putL.1 hv').1
        cases hS : setOf listed j with
        | false => rfl
        | true =>
          have := upper j _ hij (infos_get (all := ops.toArray) p1 p2) hS
          simp only [indep, Bool.and_eq_true, h1, h2] at this
          exact absurd rfl (apartO_spec this.1.1.1.2)
      have foldM : foldS (setOf (listed.setIfInBounds i true)) 0 (usM its) μ = updL (foldS (setOf listed) 0 (usM its) μ) it.cs := by
        refine foldS_put (by simp [usM, s1]) hS' (fun j k v u' hij hu hj hv' => ?_) _
        simp only [usM, List.getElem?_map, Option.map_eq_some_iff] at hj
        obtain ⟨itp, p2, rfl⟩ := hj
        obtain ⟨p, p1⟩ := opAt j itp p2
        obtain ⟨v', hv'⟩ := hv'
        cases hS : setOf listed j with
        | false => rfl
        | true =>
          have := upper j _ hij (infos_get (all := ops.toArray) p1 p2) hS
          simp only [indep, Bool.and_eq_true] at this
          exact absurd ((wbOf i o it r3 s1).1 _ _ hu) (apartL_spec this.2 _ ((wbOf j p itp p1 p2).1 _ _ hv'))
      have foldH : foldS (setOf (listed.setIfInBounds i true)) 0 (usH its) ρ = updL (foldS (setOf listed) 0 (usH its) ρ) it.hs := by
        refine foldS_put (by simp [usH, s1]) hS' (fun j k v u' hij hu hj hv' => ?_) _
        simp only [usH, List.getElem?_map, Option.map_eq_some_iff] at hj
        obtain ⟨itp, p2, rfl⟩ := hj
        obtain ⟨p, p1⟩ := opAt j itp p2
        obtain ⟨v', hv'⟩ := hv'
        cases hS : setOf listed j with
        | false => rfl
        | true =>
          have := upper j _ hij (infos_get (all := ops.toArray) p1 p2) hS
          simp only [indep, Bool.and_eq_true] at this
          exact absurd ((wbOf i o it r3 s1).2 _ _ hu) (apartL_spec this.2 _ ((wbOf j p itp p1 p2).2 _ _ hv'))
      unfold wpOp
      have hget : ops.toArray[i]? = some o := by simpa using r3
      simp only [hget]
      refine step_wp hT hstep g1 g4 (fun q hq => ⟨by omega, fun j hj q' hq' e => ?_⟩) fun φ' x w' hle hv hm => ?_
      · have : j = i := by omega
        subst this; rw [hSi] at hj; cases hj
      · obtain ⟨k1, k2, k3⟩ := put_rel (n := n) (g1.mono hle) g2 hv s2
        refine ih (listed.setIfInBounds i true) (by simpa using hsz) ?_ ?_ (φ := φ') (a := a.put o.dst x) (w := w') ?_ k2 (k3.trans g3) ?_ ?_
        · have hl : listed[i] = false := by simpa [setOf, Array.getD_eq_getD_getElem?, hi'] using hSi
          unfold unlisted at *
          rw [Array.toList_setIfInBounds, List.countP_set (by simpa using hi')]
          rw [if_pos (by simp [hl]), if_neg (by simp)]
          omega
        · intro x p hx hSx k hk
          rw [hS'] at hSx ⊢
          exact hDi x p hx hSx k hk
        · rw [foldT]; exact k1
        · rw [foldM, foldH]
          refine hm.drop fun b hb => ⟨⟨hb.1, fun j hj => hb.2 j (by rw [hS', hj]; rfl)⟩, fun q hq => hb.2 i (by simp [hS']) q hq⟩
        · intro φ'' a' w'' hle' h1 h2 h3 h4
          exact hQ φ'' a' w'' (Phi.le_trans hle hle') h1 h2 h3 h4

end
end Go.Proofs.Ytcdejlgophpdjaa.V
