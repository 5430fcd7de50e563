/-
  A region whose order is open (second part): the checks, and the theorem.
-/
import Derived.Test.YthgjacfikicgnaaKg
namespace Go.Proofs.Ythgjacfikicgnaa.K
open Go Go.RowKit

def direct (o : Oper) : List Nat := (o.after.toList.filter fun e => Region.binds .any e).map (·.on)

def maskOf (acc : List Nat) : List Nat → Nat
  | [] => 0
  | j :: r => Nat.lor (Nat.lor (Nat.shiftLeft 1 j) (acc.getD j 0)) (maskOf acc r)

def masks : List Oper → List Nat → List Nat
  | [], acc => acc
  | o :: r, acc => masks r (acc ++ [maskOf acc (direct o)])

def memN (x : Nat) : List Nat → Bool
  | [] => false
  | y :: r => match Nat.beq x y with
    | true => true
    | false => memN x r

theorem memN_iff {x : Nat} : ∀ {l : List Nat}, memN x l = true ↔ x ∈ l
  | [] => by simp [memN]
  | y :: r => by
    unfold memN
    cases hb : Nat.beq x y
    · have : x ≠ y := fun e => by subst e; simp at hb
      simp [this, memN_iff (l := r)]
    · have : x = y := Nat.eq_of_beq_eq_true hb
      simp [this]

structure Info where
  looks : List Nat
  dst : Option Nat
  rb : List Nat
  eb : Option Nat

def apartN (x : Option Nat) (l : List Nat) : Bool := match x with
  | some d => !memN d l
  | none => true

def apartO (x y : Option Nat) : Bool := match x, y with
  | some d, some e => !Nat.beq d e
  | _, _ => true

/-- Two operations that don't meet. -/
def indep (y x : Info) : Bool := apartN y.dst x.looks && apartN x.dst y.looks && apartO x.dst y.dst && apartN y.eb x.rb && apartN x.eb y.rb && apartO x.eb y.eb

def chk1 (m : Nat) (x : Info) : List (Nat × Info) → Bool
  | [] => true
  | (i, y) :: r => (Nat.testBit m i || indep y x) && chk1 m x r

def chk : Nat → List Info → List Nat → List (Nat × Info) → Bool
  | _, [], _, _ => true
  | j, x :: r, m :: ms, prev => chk1 m x prev && chk (j + 1) r ms ((j, x) :: prev)
  | _, _, _, _ => false

def ltAll (l : List Nat) (i : Nat) : Bool := l.all fun k => Nat.blt k i

def ordOK : List Oper → Nat → Bool
  | [], _ => true
  | o :: r, i => ltAll (direct o) i && ordOK r (i + 1)

def infos (ops : Array Oper) : List Oper → List (Item × D × List Nat) → List Info
  | o :: r, (it, _, rb) :: its => ⟨Oper.looksAt ops o, o.dst, rb, it.2.map (·.1)⟩ :: infos ops r its
  | _, _ => []

def drawOK (ops : List Oper) (its : List (Item × D × List Nat)) : Bool :=
  ordOK ops 0 && chk 0 (infos ops.toArray ops its) (masks ops []) []

theorem ordOK_spec : ∀ {ops : List Oper} {s : Nat}, ordOK ops s = true → ∀ {i : Nat} {o : Oper}, ops[i]? = some o → ∀ k ∈ direct o, k < s + i
  | [], s, _, i, o, h => by simp at h
  | p :: r, s, h, 0, o, ho => by
    simp only [List.getElem?_cons_zero, Option.some.injEq] at ho
    subst ho
    unfold ordOK ltAll at h
    simp only [Bool.and_eq_true, List.all_eq_true] at h
    intro k hk
    exact Nat.le_of_ble_eq_true (h.1 k hk)
  | p :: r, s, h, i + 1, o, ho => by
    unfold ordOK at h
    simp only [Bool.and_eq_true] at h
    intro k hk
    have := ordOK_spec h.2 (i := i) (o := o) (by simpa using ho) k hk
    omega

theorem masks_len : ∀ (ops : List Oper) (acc : List Nat), (masks ops acc).length = acc.length + ops.length
  | [], acc => by simp [masks]
  | o :: r, acc => by simp [masks, masks_len r]; omega

theorem masks_pre : ∀ (ops : List Oper) (acc : List Nat) {i : Nat}, i < acc.length → (masks ops acc)[i]? = acc[i]?
  | [], acc, i, h => rfl
  | o :: r, acc, i, h => by
    unfold masks
    rw [masks_pre r _ (by simp; omega), List.getElem?_append_left h]

theorem maskOf_spec {acc : List Nat} {k : Nat} : ∀ {l : List Nat}, Nat.testBit (maskOf acc l) k = true → ∃ j ∈ l, k = j ∨ Nat.testBit (acc.getD j 0) k = true
  | [], h => by simp [maskOf] at h
  | j :: r, h => by
    unfold maskOf at h
    have e : ∀ a b : Nat, Nat.testBit (Nat.lor a b) k = (Nat.testBit a k || Nat.testBit b k) := fun a b => Nat.testBit_or a b k
    rw [e, e] at h
    simp only [Bool.or_eq_true] at h
    rcases h with (h | h) | h
    · refine ⟨j, by simp, .inl ?_⟩
      have h' : Nat.testBit (1 <<< j) k = true := h
      rw [Nat.one_shiftLeft, Nat.testBit_two_pow] at h'
      have e2 : j = k := by simpa using h'
      exact e2.symm
    · exact ⟨j, by simp, .inr h⟩
    · obtain ⟨j', h1, h2⟩ := maskOf_spec h
      exact ⟨j', by simp [h1], h2⟩

/-- A set that holds, with an operation, all that is ordered ahead of it. -/
def Down (ops : List Oper) (S : Nat → Bool) : Prop := ∀ i o, ops[i]? = some o → S i = true → ∀ k ∈ direct o, S k = true

theorem masks_down {all : List Oper} {S : Nat → Bool} (hS : Down all S) : ∀ (ops : List Oper) (acc : List Nat), all.drop acc.length = ops →
    (∀ i m, acc[i]? = some m → S i = true → ∀ k, Nat.testBit m k = true → S k = true) → (∀ i m, (masks ops acc)[i]? = some m → S i = true → ∀ k, Nat.testBit m k = true → S k = true)
  | [], acc, _, h => h
  | o :: r, acc, hd, h => by
    unfold masks
    refine masks_down hS r _ ?_ ?_
    · have := congrArg List.tail hd
      simpa using this
    · intro i m hi hSi k hk
      by_cases hlt : i < acc.length
      · rw [List.getElem?_append_left hlt] at hi
        exact h i m hi hSi k hk
      · have hi' : i = acc.length := by
          have := (List.getElem?_eq_some_iff.1 hi).1
          simp at this; omega
        subst hi'
        simp at hi
        subst hi
        have ho : all[acc.length]? = some o := by
          have := congrArg (fun l => l[0]?) hd
          simpa using this
        obtain ⟨j, hj, hk'⟩ := maskOf_spec hk
        have hSj := hS _ o ho hSi j hj
        rcases hk' with rfl | hk'
        · exact hSj
        · by_cases hjl : j < acc.length
          · have hg : acc[j]? = some (acc.getD j 0) := by simp [List.getD_eq_getElem?_getD, hjl]
            exact h j _ hg hSj k hk'
          · have : acc.getD j 0 = 0 := by simp [List.getD_eq_getElem?_getD, hjl]
            rw [this] at hk'; simp at hk'

theorem chk1_spec {m : Nat} {x : Info} : ∀ {l : List (Nat × Info)}, chk1 m x l = true → ∀ i y, (i, y) ∈ l → Nat.testBit m i = true ∨ indep y x = true
  | [], _, i, y, h => by cases h
  | (i', y') :: r, h, i, y, hm => by
    unfold chk1 at h
    simp only [Bool.and_eq_true, Bool.or_eq_true] at h
    rcases List.mem_cons.1 hm with e | hm
    · simp only [Prod.mk.injEq] at e; obtain ⟨rfl, rfl⟩ := e; exact h.1
    · exact chk1_spec h.2 i y hm

theorem chk_spec : ∀ {xs : List Info} {ms : List Nat} {prev : List (Nat × Info)} {j0 : Nat}, chk j0 xs ms prev = true → ∀ j x, xs[j]? = some x → ∃ m, ms[j]? = some m ∧
    (∀ i y, (i, y) ∈ prev → Nat.testBit m i = true ∨ indep y x = true) ∧ (∀ i y, i < j → xs[i]? = some y → Nat.testBit m (j0 + i) = true ∨ indep y x = true)
  | [], ms, prev, j0, _, j, x, h => by simp at h
  | x' :: r, [], prev, j0, hc, j, x, h => by simp [chk] at hc
  | x' :: r, m' :: ms, prev, j0, hc, 0, x, h => by
    simp only [List.getElem?_cons_zero, Option.some.injEq] at h
    subst h
    unfold chk at hc
    simp only [Bool.and_eq_true] at hc
    exact ⟨m', by simp, chk1_spec hc.1, fun i y hi => by omega⟩
  | x' :: r, m' :: ms, prev, j0, hc, j + 1, x, h => by
    unfold chk at hc
    simp only [Bool.and_eq_true] at hc
    obtain ⟨m, h1, h2, h3⟩ := chk_spec hc.2 j x (by simpa using h)
    refine ⟨m, by simpa using h1, fun i y hy => h2 i y (by simp [hy]), fun i y hi hy => ?_⟩
    cases i with
    | zero =>
      simp only [List.getElem?_cons_zero, Option.some.injEq] at hy
      subst hy
      exact h2 j0 _ (by simp)
    | succ i =>
      have := h3 i y (by omega) (by simpa using hy)
      rw [show j0 + (i + 1) = j0 + 1 + i by omega]; exact this

/-! The trace of the text's order. -/
def usT : List Oper → List (Item × D × List Nat) → List (Option (Nat × LV))
  | o :: r, (it, _, _) :: its => o.dst.map (·, it.1) :: usT r its
  | _, _ => []

def usM (its : List (Item × D × List Nat)) : List (Option (Nat × List At)) := its.map fun p => p.1.2

def ltB (n : Nat) (x : Nat) : Bool := Nat.blt x n

theorem ltB_iff {n x : Nat} : ltB n x = true ↔ x < n := by unfold ltB; exact ⟨fun h => Nat.le_of_ble_eq_true h, fun h => Nat.ble_eq_true_of_le h⟩

theorem foldS_lt_succ {β : Type} (u : Option (Nat × β)) (us : List (Option (Nat × β))) (f : Nat → Option β) (j : Nat) : foldS (ltB (j + 1)) 0 (u :: us) f = foldS (ltB j) 0 us (updO f u) := by
  have h0 : ltB (j + 1) 0 = true := ltB_iff.2 (by omega)
  conv => lhs; unfold foldS
  simp only [h0]
  rw [foldS_shift]
  rfl

theorem foldS_lt_zero {β : Type} (us : List (Option (Nat × β))) (f : Nat → Option β) : foldS (ltB 0) 0 us f = f := by
  funext k
  exact foldS_none us 0 f fun j v _ => by
    cases h : ltB 0 (0 + j)
    · rfl
    · have := ltB_iff.1 h; omega

theorem levOps_trace {P : Program} {T : Tab} {n : Nat} {ops : Array Oper} : ∀ (rest : List Oper) (id : Nat) (tm : List (Nat × LV)) (mem : List (Nat × List At)) (ds : List D) {obs : List Prop}
    {tm' : List (Nat × LV)} {mem' : List (Nat × List At)} {ds' : List D} {its : List (Item × D × List Nat)}, levOps P T n ops rest id tm mem ds = some (obs, tm', mem', ds', its) → Alls obs →
    its.length = rest.length ∧
    (∀ j o, rest[j]? = some o → ∃ it d, its[j]? = some (it, d, rblk (foldS (ltB j) 0 (usT rest its) (look tm)) o) ∧ dstOK o.dst n = true ∧
      ∃ ob u, Alls ob ∧ lstep P T ops (id + j) (foldS (ltB j) 0 (usT rest its) (look tm)) (foldS (ltB j) 0 (usM its) (look mem)) d o = some (ob, it, u)) ∧
    look tm' = foldS (fun _ => true) 0 (usT rest its) (look tm) ∧ look mem' = foldS (fun _ => true) 0 (usM its) (look mem)
  | [], id, tm, mem, ds, obs, tm', mem', ds', its, h, _ => by
    simp only [levOps, Option.some.injEq, Prod.mk.injEq] at h
    obtain ⟨_, rfl, rfl, _, rfl⟩ := h
    exact ⟨rfl, fun j o hj => by simp at hj, rfl, rfl⟩
  | o :: rest, id, tm, mem, ds, obs, tm', mem', ds', its, h, ho => by
    unfold levOps at h
    split at h
    · rename_i ob it u hs
      split at h
      · rename_i hdst
        split at h
        · rename_i obs' tm'' mem'' ds'' its' hrec
          simp only [Option.some.injEq, Prod.mk.injEq] at h
          obtain ⟨rfl, rfl, rfl, rfl, rfl⟩ := h
          obtain ⟨h1, h2⟩ := Alls.append.1 ho
          obtain ⟨r1, r2, r3, r4⟩ := levOps_trace rest (id + 1) _ _ _ hrec h2
          have eT : look (putT tm o.dst it.1) = updO (look tm) (o.dst.map (·, it.1)) := by rw [look_putT, putS_updO]
          have eM : look (putM mem it.2) = updO (look mem) it.2 := by rw [look_putM, eff_updO]
          refine ⟨by simp [r1], ?_, ?_, ?_⟩
          · intro j p hj
            cases j with
            | zero =>
              simp only [List.getElem?_cons_zero, Option.some.injEq] at hj
              subst hj
              refine ⟨it, ds.headD .k, ?_, hdst, ob, u, h1, ?_⟩
              · rw [foldS_lt_zero]; rfl
              · rw [foldS_lt_zero, foldS_lt_zero]; exact hs
            | succ j =>
              obtain ⟨it', d', g1, g2, ob', u', g3, g4⟩ := r2 j p (by simpa using hj)
              refine ⟨it', d', ?_, g2, ob', u', g3, ?_⟩
              · rw [eT] at g1
                simp only [usT, foldS_lt_succ]
                simpa using g1
              · rw [eT, eM] at g4
                simp only [usT, usM, List.map_cons, foldS_lt_succ]
                rw [show id + (j + 1) = id + 1 + j by omega]
                exact g4
          · rw [r3, eT]
            simp only [usT]
            conv => rhs; unfold foldS
            rw [foldS_shift]
          · rw [r4, eM]
            simp only [usM, List.map_cons]
            conv => rhs; unfold foldS
            rw [foldS_shift]
        · cases h
      · cases h
    · cases h

theorem usT_get : ∀ {ops : List Oper} {its : List (Item × D × List Nat)} {j : Nat} {o : Oper} {it : Item} {d : D} {rb : List Nat}, ops[j]? = some o → its[j]? = some (it, d, rb) → (usT ops its)[j]? = some (o.dst.map (·, it.1))
  | [], its, j, o, it, d, rb, h, _ => by simp at h
  | p :: r, [], j, o, it, d, rb, _, h => by simp at h
  | p :: r, q :: its, 0, o, it, d, rb, h, h' => by
    simp only [List.getElem?_cons_zero, Option.some.injEq] at h h'
    subst h; subst h'; rfl
  | p :: r, q :: its, j + 1, o, it, d, rb, h, h' => by
    simp only [usT, List.getElem?_cons_succ]
    exact usT_get (by simpa using h) (by simpa using h')

theorem usT_inv : ∀ {ops : List Oper} {its : List (Item × D × List Nat)} {j : Nat} {u : Option (Nat × LV)}, (usT ops its)[j]? = some u → ∃ o it d rb, ops[j]? = some o ∧ its[j]? = some (it, d, rb) ∧ u = o.dst.map (·, it.1)
  | [], its, j, u, h => by simp [usT] at h
  | p :: r, [], j, u, h => by simp [usT] at h
  | p :: r, q :: its, 0, u, h => by
    simp only [usT, List.getElem?_cons_zero, Option.some.injEq] at h
    exact ⟨p, q.1, q.2.1, q.2.2, rfl, rfl, h.symm⟩
  | p :: r, q :: its, j + 1, u, h => by
    simp only [usT, List.getElem?_cons_succ] at h
    obtain ⟨o, it, d, rb, h1, h2, h3⟩ := usT_inv h
    exact ⟨o, it, d, rb, by simpa using h1, by simpa using h2, h3⟩

theorem infos_get {all : Array Oper} : ∀ {ops : List Oper} {its : List (Item × D × List Nat)} {j : Nat} {o : Oper} {it : Item} {d : D} {rb : List Nat}, ops[j]? = some o → its[j]? = some (it, d, rb) →
    (infos all ops its)[j]? = some ⟨Oper.looksAt all o, o.dst, rb, it.2.map (·.1)⟩
  | [], its, j, o, it, d, rb, h, _ => by simp at h
  | p :: r, [], j, o, it, d, rb, _, h => by simp at h
  | p :: r, q :: its, 0, o, it, d, rb, h, h' => by
    simp only [List.getElem?_cons_zero, Option.some.injEq] at h h'
    subst h; subst h'; rfl
  | p :: r, q :: its, j + 1, o, it, d, rb, h, h' => by
    simp only [infos, List.getElem?_cons_succ]
    exact infos_get (by simpa using h) (by simpa using h')

end Go.Proofs.Ythgjacfikicgnaa.K
