/-
  Two contracts of one function, each for the one answer of a bool: one of both.
-/
import Derived.Test.YtcdejlgophpdjaaVr
namespace Go.Proofs.Ytcdejlgophpdjaa.V
open Go Go.RowKit

def mixO (q : Bool) : Option At → Option At → Option At
  | some x, some y => some (mergeA [] q x y)
  | _, _ => none

def mixOs (q : Bool) : List (Option At) → List (Option At) → List (Option At)
  | x :: xs, y :: ys => mixO q x y :: mixOs q xs ys
  | _, _ => []

def mixB (q : Bool) (c d : BC) : Option BC :=
  match mergeH 0 q c.h d.h, Nat.beq c.cs.length d.cs.length with
  | some (h, []), true => some ⟨h, mixOs q c.cs d.cs⟩
  | _, _ => none

def mixOut (q : Bool) : List (Option BC) → List (Option BC) → Option (List (Option BC))
  | [], [] => some []
  | none :: r, none :: s => match mixOut q r s with
    | some l => some (none :: l)
    | none => none
  | some c :: r, some d :: s => match mixB q c d, mixOut q r s with
    | some b, some l => some (some b :: l)
    | _, _ => none
  | _, _ => none

def mixTs (q : Bool) : List LV → List LV → List LV
  | x :: xs, y :: ys => mergeV [] q x y :: mixTs q xs ys
  | _, _ => []

def mixV (q : Bool) : LV → LV → LV
  | .t l, .t m => match Nat.beq l.length m.length with
    | true => .t (mixTs q l m)
    | false => .u
  | x, y => mergeV [] q x y

def splitC (g : List LV → List BC → Option Bool) (c1 c2 : Con) : Con := fun args bs =>
  match g args bs with
  | some q => match c1 args bs, c2 args bs with
    | some (o1, v1, out1), some (o2, v2, out2) => match mixOut q out1 out2 with
      | some out => some (under q true o1 ++ under q false o2, mixV q v1 v2, out)
      | none => none
    | _, _ => none
  | none => none

theorem revS (φ : Phi) : RevL [] φ φ ∧ RevR [] φ φ := ⟨⟨φ.le_refl, fun _ _ _ _ h => by cases h⟩, ⟨φ.le_refl, fun _ _ _ _ h => by cases h⟩⟩

theorem merge_pick {φ : Phi} {q : Bool} {x y : At} {v : Value} (h : (bif q then x else y).rel φ v) : (mergeA [] q x y).rel φ v := by
  cases q
  · exact mergeA_r (revS φ).2 h
  · exact mergeA_l (revS φ).1 h
theorem mergeV_pick {φ : Phi} {q : Bool} {x y : LV} {v : Value} (h : (bif q then x else y).rel φ v) : (mergeV [] q x y).rel φ v := by
  cases q
  · exact mergeV_r (revS φ).2 h
  · exact mergeV_l (revS φ).1 h

theorem mergeA_unk' {q : Bool} {x y : At} (h : (bif q then x else y) = .unk) : mergeA [] q x y = .unk := mergeA_unk h

theorem mixTs_pick {φ : Phi} {q : Bool} : ∀ {l m : List LV} {vs : List Value}, l.length = m.length → All2 (LV.rel1 φ) (bif q then l else m) vs → All2 (LV.rel1 φ) (mixTs q l m) vs
  | [], [], vs, _, h => by cases q <;> exact h
  | [], _ :: _, vs, hl, h => by simp at hl
  | _ :: _, [], vs, hl, h => by simp at hl
  | x :: l, y :: m, vs, hl, h => by
    have hl' : l.length = m.length := by simpa using hl
    have one : ∀ {v}, (bif q then x else y).rel1 φ v → (mergeV [] q x y).rel1 φ v := fun {v} h1 => by
      have hx : (bif q then x else y).rel φ v := by
        cases q
        · cases y <;> first | exact h1 | exact h1.elim
        · cases x <;> first | exact h1 | exact h1.elim
      have := mergeV_pick hx
      generalize hz : mergeV [] q x y = z at this
      cases z with
      | t _ =>
        unfold mergeV at hz
        split at hz <;> first | (cases hz; done) | (split at hz <;> cases hz)
      | _ => exact this
    cases q with
    | true =>
      cases h with
      | cons a b => exact .cons (one a) (mixTs_pick (q := true) hl' b)
    | false =>
      cases h with
      | cons a b => exact .cons (one a) (mixTs_pick (q := false) hl' b)

theorem mixV_pick {φ : Phi} {q : Bool} {x y : LV} {v : Value} (h : (bif q then x else y).rel φ v) : (mixV q x y).rel φ v := by
  unfold mixV
  split
  · rename_i l m
    split
    · rename_i hb
      have hl := Nat.eq_of_beq_eq_true hb
      have h' : (LV.t (bif q then l else m)).rel φ v := by cases q <;> exact h
      obtain ⟨vs, e, k⟩ := h'
      exact ⟨vs, e, mixTs_pick hl k⟩
    · trivial
  · exact mergeV_pick h

theorem mergeH_pick {q : Bool} {x y h : Hd} (e : mergeH 0 q x y = some (h, [])) : h = (bif q then x else y) := by
  unfold mergeH at e
  obtain ⟨xv, xz, xro, xR⟩ := x
  obtain ⟨yv, yz, yro, yR⟩ := y
  cases xR with
  | none => cases yR with
    | none =>
      simp only at e
      split at e
      · rename_i hb
        simp only [Bool.and_eq_true] at hb
        have e1 := Nat.eq_of_beq_eq_true hb.1
        have e2 := Nat.eq_of_beq_eq_true hb.2
        simp only [Option.some.injEq, Prod.mk.injEq] at e
        obtain ⟨rfl, _⟩ := e
        subst e1 e2
        cases q <;> rfl
      · rename_i hb
        simp only [Bool.and_eq_true] at hb
        have e1 := Nat.eq_of_beq_eq_true hb.1
        have e2 := Nat.eq_of_beq_eq_true hb.2
        simp only [Option.some.injEq, Prod.mk.injEq] at e
        obtain ⟨rfl, _⟩ := e
        subst e1 e2
        cases q <;> rfl
      · cases e
    | some _ => simp at e
  | some R => cases yR with
    | none => simp at e
    | some R' =>
      obtain ⟨st, sh, l, fx⟩ := R
      obtain ⟨st', sh', l', fx'⟩ := R'
      simp only at e
      split at e
      · rename_i hb
        simp only [Bool.and_eq_true] at hb
        have e1 := Nat.eq_of_beq_eq_true hb.1.1
        have e2 := Nat.eq_of_beq_eq_true hb.1.2
        have e3 := kdsEq_spec hb.2
        subst e1 e2 e3
        split at e
        · split at e
          · rename_i hv
            have e4 := Nat.eq_of_beq_eq_true hv
            simp only [Option.some.injEq, Prod.mk.injEq] at e
            obtain ⟨rfl, _⟩ := e
            subst e4
            cases q <;> rfl
          · simp at e
        · split at e
          · rename_i hv
            simp only [Bool.and_eq_true] at hv
            have e4 := Nat.eq_of_beq_eq_true hv.1
            have e5 := Nat.eq_of_beq_eq_true hv.2
            simp only [Option.some.injEq, Prod.mk.injEq] at e
            obtain ⟨rfl, _⟩ := e
            subst e4 e5
            cases q <;> rfl
          · cases e
        · cases e
      · cases e

theorem mixOs_get {q : Bool} : ∀ {l m : List (Option At)} {i : Nat} {x : At}, (mixOs q l m)[i]? = some (some x) → ∃ a b, l[i]? = some (some a) ∧ m[i]? = some (some b) ∧ x = mergeA [] q a b
  | [], m, i, x, h => by simp [mixOs] at h
  | _ :: _, [], i, x, h => by simp [mixOs] at h
  | a :: l, b :: m, 0, x, h => by
    simp only [mixOs, List.getElem?_cons_zero, Option.some.injEq] at h
    unfold mixO at h
    split at h
    · rename_i a b
      simp only [Option.some.injEq] at h
      exact ⟨a, b, by simp, by simp, h.symm⟩
    · cases h
  | a :: l, b :: m, i + 1, x, h => by
    have := mixOs_get (l := l) (m := m) (i := i) (by simpa [mixOs] using h)
    simpa using this

theorem mixOut_get {q : Bool} : ∀ {l m out : List (Option BC)}, mixOut q l m = some out → out.length = l.length ∧ l.length = m.length ∧
    ∀ (i : Nat), (out[i]? = none ∧ l[i]? = none ∧ m[i]? = none) ∨ (out[i]? = some none ∧ l[i]? = some none ∧ m[i]? = some none) ∨ ∃ c d b, l[i]? = some (some c) ∧ m[i]? = some (some d) ∧ out[i]? = some (some b) ∧ mixB q c d = some b
  | [], [], out, h => by
    simp only [mixOut, Option.some.injEq] at h; subst h
    exact ⟨rfl, rfl, fun i => .inl (by simp)⟩
  | [], _ :: _, out, h => by simp [mixOut] at h
  | none :: _, [], out, h => by simp [mixOut] at h
  | some _ :: _, [], out, h => by simp [mixOut] at h
  | none :: _, some _ :: _, out, h => by simp [mixOut] at h
  | some _ :: _, none :: _, out, h => by simp [mixOut] at h
  | none :: r, none :: s, out, h => by
    simp only [mixOut] at h
    split at h
    · rename_i l hl
      simp only [Option.some.injEq] at h; subst h
      obtain ⟨h1, h2, h3⟩ := mixOut_get hl
      refine ⟨by simp [h1], by simp [h2], fun i => ?_⟩
      cases i with
      | zero => exact .inr (.inl (by simp))
      | succ i => simpa using h3 i
    · cases h
  | some c :: r, some d :: s, out, h => by
    simp only [mixOut] at h
    split at h
    · rename_i b l hb hl
      simp only [Option.some.injEq] at h; subst h
      obtain ⟨h1, h2, h3⟩ := mixOut_get hl
      refine ⟨by simp [h1], by simp [h2], fun i => ?_⟩
      cases i with
      | zero => exact .inr (.inr ⟨c, d, b, by simp, by simp, by simp, hb⟩)
      | succ i => simpa using h3 i
    · cases h

/-- What lies behind the call, as the one contract has it. -/
theorem mix_mr {w0 : World} {may : Nat → Prop} {φ : Phi} {bs : List BC} {q : Bool} {l m out : List (Option BC)} {w : World} (h : mixOut q l m = some out)
    (hM : MR w0 may φ (memAft bs (bif q then l else m)) (hdsAft bs (bif q then l else m)) (fun b => (bif q then l else m).length ≤ b) w) :
    MR w0 may φ (memAft bs out) (hdsAft bs out) (fun b => out.length ≤ b) w := by
  obtain ⟨h1, h2, h3⟩ := mixOut_get h
  have hlen : (bif q then l else m).length = out.length := by cases q <;> simp [h1, h2]
  have hget : ∀ i : Nat, (bif q then l else m)[i]? = bif q then l[i]? else m[i]? := fun i => by cases q <;> rfl
  have hh : hdsAft bs out = hdsAft bs (bif q then l else m) := by
    funext b
    unfold hdsAft aft
    rw [hget]
    rcases h3 b with ⟨e1, e2, e3⟩ | ⟨e1, e2, e3⟩ | ⟨c, d, b', e1, e2, e3, e4⟩
    · rw [e1, e2, e3]; cases q <;> rfl
    · rw [e1, e2, e3]; cases q <;> rfl
    · rw [e1, e2, e3]
      unfold mixB at e4
      split at e4
      · rename_i hd hm _
        simp only [Option.some.injEq] at e4; subst e4
        have := mergeH_pick hm
        cases q <;> simp [this]
      · cases e4
  rw [hh]
  have hd : MR w0 may φ (memAft bs (bif q then l else m)) (hdsAft bs (bif q then l else m)) (fun b => out.length ≤ b) w := hM.drop fun b hb => by rw [hlen]; exact hb
  refine hd.marks fun k x hx => ?_
  unfold memAft aft at hx ⊢
  rw [hget]
  rcases h3 (k / 65536) with ⟨e1, e2, e3⟩ | ⟨e1, e2, e3⟩ | ⟨c, d, b', e1, e2, e3, e4⟩
  · rw [e1] at hx; cases hx
  · rw [e1] at hx
    rw [e2, e3]
    refine ⟨x, ?_, id, fun v hv => hv⟩
    cases q <;> exact hx
  · rw [e3] at hx
    rw [e1, e2]
    unfold mixB at e4
    split at e4
    · rename_i hd hm _
      simp only [Option.some.injEq] at e4; subst e4
      have hx' : cellOf ⟨hd, mixOs q c.cs d.cs⟩ (k % 65536) = some x := hx
      unfold cellOf at hx'
      split at hx'
      · rename_i y hy
        simp only [Option.some.injEq] at hx'; subst hx'
        obtain ⟨a, b, g1, g2, rfl⟩ := mixOs_get hy
        refine ⟨bif q then a else b, ?_, fun e => mergeA_unk' e, fun v hv => merge_pick hv⟩
        cases q
        · show cellOf d (k % 65536) = some b
          unfold cellOf; rw [g2]
        · show cellOf c (k % 65536) = some a
          unfold cellOf; rw [g1]
      · cases hx'
    · cases e4

theorem hdsIn_pick {bs : List BC} {q : Bool} {l m out : List (Option BC)} (h : mixOut q l m = some out) : hdsIn bs out = hdsIn bs (bif q then l else m) := by
  obtain ⟨_, _, h3⟩ := mixOut_get h
  have hget : ∀ i : Nat, (bif q then l else m)[i]? = bif q then l[i]? else m[i]? := fun i => by cases q <;> rfl
  funext b
  unfold hdsIn
  rw [hget]
  rcases h3 b with ⟨e1, e2, e3⟩ | ⟨e1, e2, e3⟩ | ⟨c, d, b', e1, e2, e3, e4⟩
  · rw [e1, e2, e3]; cases q <;> rfl
  · rw [e1, e2, e3]; cases q <;> rfl
  · rw [e1, e2, e3]; cases q <;> rfl

theorem splitC_ok {P : Program} {f : Nat} {g : List LV → List BC → Option Bool} {c1 c2 : Con} (h1 : ConOK P f c1) (h2 : ConOK P f c2) : ConOK P f (splitC g c1 c2) := by
  intro args bs obs lv out h ho φ vs w may ha hM
  unfold splitC at h
  split at h
  case h_2 => cases h
  rename_i q hq
  split at h
  case h_2 => cases h
  rename_i o1 v1 out1 o2 v2 out2 k1 k2
  split at h
  case h_2 => cases h
  rename_i out' hout
  simp only [Option.some.injEq, Prod.mk.injEq] at h
  obtain ⟨rfl, rfl, rfl⟩ := h
  obtain ⟨p1, p2⟩ := Alls.append.1 ho
  rw [hdsIn_pick hout] at hM
  cases q with
  | true =>
    refine (h1 _ _ _ _ _ k1 (under_spec p1) φ vs w may ha hM).mono fun e w' ⟨v', ψ, e1, e2, e3, e4⟩ => ?_
    exact ⟨v', ψ, e1, e2, mixV_pick (q := true) e3, mix_mr (q := true) hout e4⟩
  | false =>
    refine (h2 _ _ _ _ _ k2 (under_spec p2) φ vs w may ha hM).mono fun e w' ⟨v', ψ, e1, e2, e3, e4⟩ => ?_
    exact ⟨v', ψ, e1, e2, mixV_pick (q := false) e3, mix_mr (q := false) hout e4⟩

end Go.Proofs.Ytcdejlgophpdjaa.V
