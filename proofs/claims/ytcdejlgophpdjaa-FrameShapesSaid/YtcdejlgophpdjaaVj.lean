/-
  Two states made one: it stands for what either of them stands for.
-/
import Derived.Test.YtcdejlgophpdjaaVi
namespace Go.Proofs.Ytcdejlgophpdjaa.V
set_option linter.unusedVariables false
open Go Go.RowKit

def filt (lv : List Nat) (σ : Sig) : Sig := fun t => match memN t lv with
  | true => σ t
  | false => none

/-- The state stands for the real one. -/
structure SR (n : Nat) (lv : List Nat) (w0 : World) (may : Nat → Prop) (φ : Phi) (σ : Sig) (μ : Mem) (ρ : Hds) (nx : Nat) (a : Act) (w : World) : Prop where
  tr : TRel φ (filt lv σ) a.tmps
  sz : a.tmps.size = n
  df : a.defers = []
  mr : MR w0 may φ μ ρ (fun b => nx ≤ b) w

structure RevS (c : Bool) (rv : Rev) (φ ψ : Phi) : Prop where
  le : φ.le ψ
  s : ∀ b va vb v, revOf rv b va vb = some v → Moves φ ψ b (bif c then va else vb) b v

theorem mergeA_s {c : Bool} {rv : Rev} {φ ψ : Phi} (h : RevS c rv φ ψ) {x y : At} {v : Value} (hx : (bif c then x else y).rel φ v) : (mergeA rv c x y).rel ψ v := by
  cases c with
  | true => exact mergeA_l ⟨h.le, h.s⟩ hx
  | false => exact mergeA_r ⟨h.le, h.s⟩ hx

theorem mergeV_s {c : Bool} {rv : Rev} {φ ψ : Phi} (h : RevS c rv φ ψ) {x y : LV} {v : Value} (hx : (bif c then x else y).rel φ v) : (mergeV rv c x y).rel ψ v := by
  cases c with
  | true => exact mergeV_l ⟨h.le, h.s⟩ hx
  | false => exact mergeV_r ⟨h.le, h.s⟩ hx

theorem mergeA_unk {rv : Rev} {c : Bool} {x y : At} (h : (bif c then x else y) = .unk) : mergeA rv c x y = .unk := by
  cases c with
  | true => have h : x = .unk := h; subst h; cases y <;> rfl
  | false =>
    have h : y = .unk := h
    subst h
    cases x with
    | bool s b => cases s <;> cases b <;> rfl
    | prw s b v st e i j => cases s <;> rfl
    | fn f caps => cases caps <;> rfl
    | _ => rfl

theorem over_spec {β : Type} {f : Nat → Option β} {k : Nat} {x : β} : ∀ {l : List (Nat × β)}, over l f k = some x → (k, x) ∈ l ∨ ((∀ y, (k, y) ∉ l) ∧ f k = some x)
  | [], h => .inr ⟨(fun y h => by cases h), h⟩
  | (k', v) :: r, h => by
    simp only [over] at h
    split at h
    · rename_i hb
      have := Nat.eq_of_beq_eq_true hb
      subst this
      simp only [Option.some.injEq] at h; subst h
      exact .inl (by simp)
    · rename_i hb
      have hne : k ≠ k' := fun e => by subst e; simp at hb
      rcases over_spec h with h | ⟨h1, h2⟩
      · exact .inl (List.mem_cons_of_mem _ h)
      · refine .inr ⟨fun y hy => ?_, h2⟩
        rcases List.mem_cons.1 hy with e | hy
        · simp only [Prod.mk.injEq] at e; exact hne e.1
        · exact h1 y hy

theorem over_none {β : Type} {f : Nat → Option β} {k : Nat} : ∀ {l : List (Nat × β)}, (∀ y, (k, y) ∉ l) → over l f k = f k
  | [], _ => rfl
  | (k', v) :: r, h => by
    simp only [over]
    have hne : k ≠ k' := fun e => h v (by subst e; simp)
    have : Nat.beq k k' = false := by
      cases hb : Nat.beq k k'
      · rfl
      · exact absurd (Nat.eq_of_beq_eq_true hb) hne
    rw [this]
    exact over_none fun y hy => h y (List.mem_cons_of_mem _ hy)

theorem look_none {β : Type} {k : Nat} : ∀ {l : List (Nat × β)}, look l k = none → ∀ y, (k, y) ∉ l
  | [], _, y, h => by cases h
  | (k', v) :: r, h, y, hy => by
    simp only [look] at h
    split at h
    · cases h
    · rename_i hb
      have hne : k ≠ k' := fun e => by subst e; simp at hb
      rcases List.mem_cons.1 hy with e | hy
      · simp only [Prod.mk.injEq] at e; exact hne e.1
      · exact look_none h y hy

theorem keysOf_mem {β : Type} {k : Nat} : ∀ {l : List (Nat × β)} {acc : List Nat}, (k ∈ acc ∨ ∃ y, (k, y) ∈ l) → k ∈ keysOf l acc
  | [], acc, h => by
    rcases h with h | ⟨y, h⟩
    · exact h
    · cases h
  | (k', v) :: r, acc, h => by
    simp only [keysOf]
    split
    · rename_i hm
      refine keysOf_mem ?_
      rcases h with h | ⟨y, h⟩
      · exact .inl h
      · rcases List.mem_cons.1 h with e | h
        · simp only [Prod.mk.injEq] at e; obtain ⟨rfl, _⟩ := e; exact .inl (memN_iff.1 hm)
        · exact .inr ⟨y, h⟩
    · refine keysOf_mem ?_
      rcases h with h | ⟨y, h⟩
      · exact .inl (by simp [h])
      · rcases List.mem_cons.1 h with e | h
        · simp only [Prod.mk.injEq] at e; obtain ⟨rfl, _⟩ := e; exact .inl (by simp)
        · exact .inr ⟨y, h⟩

theorem keysOf_nodup {β : Type} : ∀ {l : List (Nat × β)} {acc : List Nat}, acc.Nodup → (keysOf l acc).Nodup
  | [], acc, h => h
  | (k, v) :: r, acc, h => by
    simp only [keysOf]
    split
    · exact keysOf_nodup h
    · rename_i hm
      refine keysOf_nodup (List.nodup_cons.2 ⟨fun e => ?_, h⟩)
      rw [memN_iff.2 e] at hm; cases hm

/-- Of a head made of two: what holds of it. -/
theorem mergeH_spec {b : Nat} {c : Bool} {x y h : Hd} {rv : Rev} (e : mergeH b c x y = some (h, rv)) :
    h.z = (bif c then x else y).z ∧ h.ro = (bif c then x else y).ro ∧ h.grows = (bif c then x else y).grows ∧
    (∀ R, h.R = some R → ∃ R', (bif c then x else y).R = some R' ∧ R.st = R'.st ∧ R.sh = R'.sh ∧ R.l = R'.l ∧ R.fx = R'.fx) ∧ (h.R = none → (bif c then x else y).R = none) ∧
    ((rv = [] ∧ h.v = (bif c then x else y).v) ∨ (rv = [(b, x.v, y.v, h.v)] ∧ (bif c then x else y).v < h.v ∧ h.grows = true)) := by
  unfold mergeH at e
  split at e
  · rename_i hx hy
    have go : (Nat.beq x.v y.v && Nat.beq x.z y.z) = true → x.ro = y.ro → h = x → rv = [] → h.z = (bif c then x else y).z ∧ h.ro = (bif c then x else y).ro ∧ h.grows = (bif c then x else y).grows ∧
        (∀ R, h.R = some R → ∃ R', (bif c then x else y).R = some R' ∧ R.st = R'.st ∧ R.sh = R'.sh ∧ R.l = R'.l ∧ R.fx = R'.fx) ∧ (h.R = none → (bif c then x else y).R = none) ∧
        ((rv = [] ∧ h.v = (bif c then x else y).v) ∨ (rv = [(b, x.v, y.v, h.v)] ∧ (bif c then x else y).v < h.v ∧ h.grows = true)) := by
      intro hb hro h1 h2
      simp only [Bool.and_eq_true] at hb
      have b1 := Nat.eq_of_beq_eq_true hb.1
      have b2 := Nat.eq_of_beq_eq_true hb.2
      subst h1 h2
      cases c with
      | true => exact ⟨rfl, rfl, rfl, fun R hR => ⟨R, hR, rfl, rfl, rfl, rfl⟩, fun hR => hR, .inl ⟨rfl, rfl⟩⟩
      | false => exact ⟨b2, hro, by simp [Hd.grows, hx, hy], fun R hR => (by rw [hx] at hR; cases hR), fun _ => hy, .inl ⟨rfl, b1⟩⟩
    split at e
    · rename_i hb h1 h2
      simp only [Option.some.injEq, Prod.mk.injEq] at e
      exact go hb (h1.trans h2.symm) e.1.symm e.2.symm
    · rename_i hb h1 h2
      simp only [Option.some.injEq, Prod.mk.injEq] at e
      exact go hb (h1.trans h2.symm) e.1.symm e.2.symm
    · cases e
  · rename_i R R' hx hy
    split at e
    case h_2 => cases e
    rename_i hb h1 h2
    simp only [Bool.and_eq_true] at hb
    have b1 := Nat.eq_of_beq_eq_true hb.1.1
    have b2 := Nat.eq_of_beq_eq_true hb.1.2
    have b3 := kdsEq_spec hb.2
    split at e
    · rename_i f1 f2
      split at e
      · rename_i hv
        have hv := Nat.eq_of_beq_eq_true hv
        simp only [Option.some.injEq, Prod.mk.injEq] at e
        obtain ⟨rfl, rfl⟩ := e
        cases c with
        | true => exact ⟨rfl, h1.symm, by simp [Hd.grows, hx, f1], fun Q hQ => by simp only [Option.some.injEq] at hQ; subst hQ; exact ⟨R, hx, rfl, rfl, rfl, f1.symm⟩, (fun hQ => by cases hQ), .inl ⟨rfl, rfl⟩⟩
        | false => exact ⟨b1, h2.symm, by simp [Hd.grows, hy, f2], fun Q hQ => by simp only [Option.some.injEq] at hQ; subst hQ; exact ⟨R', hy, b2, b3, rfl, f2.symm⟩, (fun hQ => by cases hQ), .inl ⟨rfl, hv⟩⟩
      · simp only [Option.some.injEq, Prod.mk.injEq] at e
        obtain ⟨rfl, rfl⟩ := e
        cases c with
        | true => exact ⟨rfl, h1.symm, by simp [Hd.grows, hx, f1], fun Q hQ => by simp only [Option.some.injEq] at hQ; subst hQ; exact ⟨R, hx, rfl, rfl, rfl, f1.symm⟩, (fun hQ => by cases hQ), .inr ⟨rfl, by simp; omega, by simp [Hd.grows]⟩⟩
        | false => exact ⟨b1, h2.symm, by simp [Hd.grows, hy, f2], fun Q hQ => by simp only [Option.some.injEq] at hQ; subst hQ; exact ⟨R', hy, b2, b3, rfl, f2.symm⟩, (fun hQ => by cases hQ), .inr ⟨rfl, by simp; omega, by simp [Hd.grows]⟩⟩
    · rename_i N N' f1 f2
      split at e
      · rename_i hv
        simp only [Bool.and_eq_true] at hv
        have v1 := Nat.eq_of_beq_eq_true hv.1
        have v2 := Nat.eq_of_beq_eq_true hv.2
        simp only [Option.some.injEq, Prod.mk.injEq] at e
        obtain ⟨rfl, rfl⟩ := e
        cases c with
        | true => exact ⟨rfl, h1.symm, by simp [Hd.grows, hx, f1], fun Q hQ => by simp only [Option.some.injEq] at hQ; subst hQ; exact ⟨R, hx, rfl, rfl, rfl, f1.symm⟩, (fun hQ => by cases hQ), .inl ⟨rfl, rfl⟩⟩
        | false => exact ⟨b1, h2.symm, by simp [Hd.grows, hy, f2], fun Q hQ => by simp only [Option.some.injEq] at hQ; subst hQ; exact ⟨R', hy, b2, b3, rfl, by rw [f2, v1]⟩, (fun hQ => by cases hQ), .inl ⟨rfl, v2⟩⟩
      · cases e
    · cases e
  · cases e

theorem mergeHs_spec {nx : Nat} {ρ : Hds} {c : Bool} {ha hb : List (Nat × Hd)} : ∀ {l : List Nat} {hs : List (Nat × Hd)} {rv : Rev}, mergeHs nx ρ c ha hb l = some (hs, rv) → l.Nodup →
    (∀ b h, (b, h) ∈ hs → b ∈ l ∧ b < nx ∧ ∃ x y rv', over ha ρ b = some x ∧ over hb ρ b = some y ∧ mergeH b c x y = some (h, rv') ∧ ∀ q, q ∈ rv' → q ∈ rv) ∧
    (∀ b, b ∈ l → b < nx → ∃ h, (b, h) ∈ hs) ∧
    (∀ b va vb v, (b, va, vb, v) ∈ rv → b ∈ l ∧ b < nx ∧ ∃ x y h, over ha ρ b = some x ∧ over hb ρ b = some y ∧ mergeH b c x y = some (h, [(b, va, vb, v)]) ∧ (b, h) ∈ hs)
  | [], hs, rv, e, _ => by
    simp only [mergeHs, Option.some.injEq, Prod.mk.injEq] at e
    obtain ⟨rfl, rfl⟩ := e
    exact ⟨(fun b h hm => by cases hm), (fun b hb => by cases hb), (fun b va vb v hm => by cases hm)⟩
  | b0 :: r, hs, rv, e, hn => by
    obtain ⟨hn1, hn2⟩ := List.nodup_cons.1 hn
    unfold mergeHs at e
    split at e
    · rename_i hlt
      obtain ⟨g1, g2, g3⟩ := mergeHs_spec e hn2
      have hnlt : ¬ b0 < nx := fun h => by have : Nat.blt b0 nx = true := Nat.ble_eq_true_of_le h; rw [this] at hlt; cases hlt
      refine ⟨fun b h hm => ?_, fun b hb hlt' => ?_, fun b va vb v hm => ?_⟩
      · obtain ⟨q1, q2⟩ := g1 b h hm; exact ⟨by simp [q1], q2⟩
      · rcases List.mem_cons.1 hb with rfl | hb
        · exact absurd hlt' hnlt
        · exact g2 b hb hlt'
      · obtain ⟨q1, q2⟩ := g3 b va vb v hm; exact ⟨by simp [q1], q2⟩
    · rename_i hlt
      have hlt : b0 < nx := Nat.le_of_ble_eq_true hlt
      split at e
      case h_2 => cases e
      rename_i x y l rv0 hx hy hl
      split at e
      case h_2 => cases e
      rename_i h rv' hm
      simp only [Option.some.injEq, Prod.mk.injEq] at e
      obtain ⟨rfl, rfl⟩ := e
      obtain ⟨g1, g2, g3⟩ := mergeHs_spec hl hn2
      refine ⟨fun b h' hm' => ?_, fun b hb hlt' => ?_, fun b va vb v hm' => ?_⟩
      · rcases List.mem_cons.1 hm' with e | hm'
        · simp only [Prod.mk.injEq] at e; obtain ⟨rfl, rfl⟩ := e
          exact ⟨by simp, hlt, x, y, rv', hx, hy, hm, fun q hq => List.mem_append_left _ hq⟩
        · obtain ⟨q1, q2, x', y', rv1, q3, q4, q5, q6⟩ := g1 b h' hm'
          exact ⟨by simp [q1], q2, x', y', rv1, q3, q4, q5, fun q hq => List.mem_append_right _ (q6 q hq)⟩
      · rcases List.mem_cons.1 hb with rfl | hb
        · exact ⟨h, by simp⟩
        · obtain ⟨h', q⟩ := g2 b hb hlt'; exact ⟨h', by simp [q]⟩
      · rcases List.mem_append.1 hm' with hm' | hm'
        · rcases (mergeH_spec hm).2.2.2.2.2 with ⟨e1, _⟩ | ⟨e1, _⟩
          · rw [e1] at hm'; cases hm'
          · rw [e1] at hm'
            simp only [List.mem_singleton, Prod.mk.injEq] at hm'
            obtain ⟨rfl, rfl, rfl, rfl⟩ := hm'
            exact ⟨by simp, hlt, x, y, h, hx, hy, by rw [hm, e1], by simp⟩
        · obtain ⟨q1, q2, x', y', h', q3, q4, q5, q6⟩ := g3 b va vb v hm'
          exact ⟨by simp [q1], q2, x', y', h', q3, q4, q5, by simp [q6]⟩

theorem mergeMs_spec {nx : Nat} {μ : Mem} {rv : Rev} {c : Bool} {ma mb : List (Nat × At)} {k : Nat} {x : At} : ∀ {l : List Nat}, (k, x) ∈ mergeMs nx μ rv c ma mb l → k ∈ l ∧ k < nx * 65536 ∧
    (x = .unk ∨ ∃ x0 y0, over ma μ k = some x0 ∧ over mb μ k = some y0 ∧ x = mergeA rv c x0 y0)
  | [], h => by cases h
  | k0 :: r, h => by
    unfold mergeMs at h
    split at h
    · obtain ⟨h1, h2⟩ := mergeMs_spec h; exact ⟨by simp [h1], h2⟩
    · rename_i hlt
      rcases List.mem_cons.1 h with e | h
      · simp only [Prod.mk.injEq] at e
        obtain ⟨rfl, rfl⟩ := e
        refine ⟨by simp, Nat.le_of_ble_eq_true hlt, ?_⟩
        split
        · rename_i x0 y0 h1 h2; exact .inr ⟨x0, y0, h1, h2, rfl⟩
        · exact .inl rfl
      · obtain ⟨h1, h2⟩ := mergeMs_spec h; exact ⟨by simp [h1], h2⟩

theorem mergeMs_has {nx : Nat} {μ : Mem} {rv : Rev} {c : Bool} {ma mb : List (Nat × At)} {k : Nat} : ∀ {l : List Nat}, k ∈ l → k < nx * 65536 → ∃ x, (k, x) ∈ mergeMs nx μ rv c ma mb l
  | [], h, _ => by cases h
  | k0 :: r, h, hk => by
    unfold mergeMs
    split
    · rename_i hlt
      rcases List.mem_cons.1 h with rfl | h
      · have : Nat.blt k (nx * 65536) = true := Nat.ble_eq_true_of_le hk
        rw [this] at hlt; cases hlt
      · exact mergeMs_has h hk
    · rcases List.mem_cons.1 h with rfl | h
      · exact ⟨_, List.mem_cons_self⟩
      · obtain ⟨x, hx⟩ := mergeMs_has (nx := nx) (μ := μ) (rv := rv) (c := c) (ma := ma) (mb := mb) h hk; exact ⟨x, by simp [hx]⟩

theorem mergeTs_spec {σ : Sig} {rv : Rev} {c : Bool} {ta tb : List (Nat × LV)} {k : Nat} {x : LV} : ∀ {l : List Nat}, (k, x) ∈ mergeTs σ rv c ta tb l → (x = .u ∨ ∃ x0 y0, over ta σ k = some x0 ∧ over tb σ k = some y0 ∧ x = mergeV rv c x0 y0)
  | [], h => by cases h
  | k0 :: r, h => by
    unfold mergeTs at h
    split at h
    · exact mergeTs_spec h
    · rcases List.mem_cons.1 h with e | h
      · simp only [Prod.mk.injEq] at e
        obtain ⟨rfl, rfl⟩ := e
        split
        · rename_i x0 y0 h1 h2; exact .inr ⟨x0, y0, h1, h2, rfl⟩
        · exact .inl rfl
      · exact mergeTs_spec h

theorem mergeTs_none {σ : Sig} {rv : Rev} {c : Bool} {ta tb : List (Nat × LV)} {k : Nat} : ∀ {l : List Nat}, k ∈ l → (∀ y, (k, y) ∉ mergeTs σ rv c ta tb l) → look ta k = none ∧ look tb k = none
  | [], h, _ => by cases h
  | k0 :: r, h, hno => by
    unfold mergeTs at hno
    split at hno
    · rename_i h1 h2
      rcases List.mem_cons.1 h with rfl | h
      · exact ⟨h1, h2⟩
      · exact mergeTs_none h hno
    · rcases List.mem_cons.1 h with rfl | h
      · exact absurd List.mem_cons_self (hno _)
      · exact mergeTs_none (σ := σ) (rv := rv) (c := c) h fun y hy => hno y (List.mem_cons_of_mem _ hy)

def phiV (φ : Phi) (rv : Rev) : Phi := fun b => match rv.find? (fun q => Nat.beq q.1 b) with
  | some q => match φ b with
    | some i => some ⟨i.ty, i.a, i.z, i.n, q.2.2.2, i.ro⟩
    | none => none
  | none => φ b

theorem merge0_sr {n : Nat} {lv : List Nat} {w0 : World} {may : Nat → Prop} {φ : Phi} {σ : Sig} {μ : Mem} {ρ : Hds} {nx nx' : Nat} {a : Act} {w : World} {c : Bool} {p q m : Pre} (hm : merge0 lv nx σ μ ρ c p q = some m)
    (hf1 : ∀ b, nx ≤ b → ρ b = none) (hf2 : ∀ k x, nx ≤ k / 65536 → μ k = some x → x = .unk)
    (hs : SR n lv w0 may φ (over (bif c then p else q).tm σ) (over (bif c then p else q).mem μ) (over (bif c then p else q).hs ρ) nx' a w) :
    ∃ ψ, φ.le ψ ∧ SR n lv w0 may ψ (over m.tm σ) (over m.mem μ) (over m.hs ρ) nx' a w := by
  unfold merge0 at hm
  split at hm
  case h_2 => cases hm
  rename_i hs' rv hh
  simp only [Option.some.injEq] at hm
  subst hm
  obtain ⟨g1, g2, g3⟩ := mergeHs_spec hh (keysOf_nodup (keysOf_nodup List.nodup_nil))
  have hM := hs.mr
  -- the chosen side, of each map
  have selH : ∀ b x y, over p.hs ρ b = some x → over q.hs ρ b = some y → over (bif c then p else q).hs ρ b = some (bif c then x else y) := by
    intro b x y h1 h2; cases c <;> assumption
  have selM : ∀ k x y, over p.mem μ k = some x → over q.mem μ k = some y → over (bif c then p else q).mem μ k = some (bif c then x else y) := by
    intro b x y h1 h2; cases c <;> assumption
  have selT : ∀ k x y, over p.tm σ k = some x → over q.tm σ k = some y → over (bif c then p else q).tm σ k = some (bif c then x else y) := by
    intro b x y h1 h2; cases c <;> assumption
  -- versions
  have rvone : ∀ b va vb v, (b, va, vb, v) ∈ rv → ∃ h, (b, h) ∈ hs' ∧ h.v = v ∧ h.grows = true ∧ ∃ i, φ b = some i ∧ i.v = (bif c then va else vb) ∧ i.v < v := by
    intro b va vb v hmem
    obtain ⟨_, _, x, y, h, k1, k2, k3, k4⟩ := g3 b va vb v hmem
    obtain ⟨_, _, _, _, _, k5⟩ := mergeH_spec k3
    rcases k5 with ⟨k5, _⟩ | ⟨k5, k6, k7⟩
    · cases k5
    · simp only [List.cons.injEq, Prod.mk.injEq, and_true] at k5
      obtain ⟨_, e1, e2, e3⟩ := k5
      obtain ⟨i, i1, i2, _⟩ := hM.hdr b _ (selH b x y k1 k2)
      refine ⟨h, k4, e3.symm, k7, i, i1, ?_, by rw [i2]; omega⟩
      rw [i2, e1, e2]; cases c <;> rfl
  have hsuniq : ∀ b h h', (b, h) ∈ hs' → (b, h') ∈ hs' → h = h' := by
    intro b h h' e1 e2
    obtain ⟨_, _, x, y, r1, a1, a2, a3, _⟩ := g1 b h e1
    obtain ⟨_, _, x', y', r2, b1, b2, b3, _⟩ := g1 b h' e2
    rw [a1] at b1; rw [a2] at b2
    simp only [Option.some.injEq] at b1 b2
    subst b1; subst b2
    rw [a3] at b3
    simp only [Option.some.injEq, Prod.mk.injEq] at b3
    exact b3.1
  have phiVget : ∀ b, (∃ va vb v i, (b, va, vb, v) ∈ rv ∧ φ b = some i ∧ i.v = (bif c then va else vb) ∧ i.v < v ∧ phiV φ rv b = some ⟨i.ty, i.a, i.z, i.n, v, i.ro⟩) ∨ ((∀ va vb v, (b, va, vb, v) ∉ rv) ∧ phiV φ rv b = φ b) := by
    intro b
    cases hfd : rv.find? (fun q => Nat.beq q.1 b) with
    | none =>
      right
      refine ⟨fun va vb v hmem => ?_, by simp [phiV, hfd]⟩
      have := List.find?_eq_none.1 hfd _ hmem
      simp at this
    | some r =>
      left
      obtain ⟨b', va, vb, v⟩ := r
      have hb := List.find?_some hfd
      have hb : b' = b := Nat.eq_of_beq_eq_true hb
      subst hb
      have hmem := List.mem_of_find?_eq_some hfd
      obtain ⟨h, k1, k2, k3, i, i1, i2, i3⟩ := rvone _ _ _ _ hmem
      exact ⟨va, vb, v, i, hmem, i1, i2, i3, by simp [phiV, hfd, i1]⟩
  have hle : φ.le (phiV φ rv) := by
    intro b i hi
    rcases phiVget b with ⟨va, vb, v, i', _, h2, h3, h4, h5⟩ | ⟨_, h⟩
    · rw [hi] at h2; simp only [Option.some.injEq] at h2; subst h2
      exact ⟨_, h5, .inr h4⟩
    · exact ⟨i, by rw [h]; exact hi, i.le_refl⟩
  have revmem : ∀ {l : Rev} {b va vb v : Nat}, revOf l b va vb = some v → (b, va, vb, v) ∈ l := by
    intro l
    induction l with
    | nil => intro b va vb v h; simp [revOf] at h
    | cons r l ih =>
      intro b va vb v h
      obtain ⟨c', x, y, u⟩ := r
      simp only [revOf] at h
      split at h
      · rename_i hb
        simp only [Bool.and_eq_true] at hb
        have b1 := Nat.eq_of_beq_eq_true hb.1.1
        have b2 := Nat.eq_of_beq_eq_true hb.1.2
        have b3 := Nat.eq_of_beq_eq_true hb.2
        simp only [Option.some.injEq] at h
        subst b1; subst b2; subst b3; subst h
        simp
      · exact List.mem_cons_of_mem _ (ih h)
  have hrev : RevS c rv φ (phiV φ rv) := by
    refine ⟨hle, fun b va vb v h => ?_⟩
    have hmem := revmem h
    obtain ⟨h1, k1, k2, k3, i, i1, i2, i3⟩ := rvone _ _ _ _ hmem
    intro i' hi' hv
    rw [i1] at hi'; simp only [Option.some.injEq] at hi'; subst hi'
    rcases phiVget b with ⟨va', vb', v', i', q1, q2, q3, q4, q5⟩ | ⟨q1, _⟩
    · obtain ⟨h2, p1, p2, _⟩ := rvone _ _ _ _ q1
      have := hsuniq b h1 h2 k1 p1
      subst this
      rw [i1] at q2; simp only [Option.some.injEq] at q2; subst q2
      have hvv : v' = v := by rw [← p2, k2]
      subst hvv
      exact ⟨_, q5, Nat.le_refl _, fun _ => ⟨i2.symm, rfl, rfl, rfl⟩⟩
    · exact absurd hmem (q1 _ _ _)
  have keyH : ∀ b, b < nx → (∀ h, (b, h) ∉ hs') → over (bif c then p else q).hs ρ b = ρ b ∧ ∀ va vb v, (b, va, vb, v) ∉ rv := by
    intro b hb hno
    have hnk : b ∉ keysOf q.hs (keysOf p.hs []) := fun hk => by
      obtain ⟨h, hmem⟩ := g2 b hk hb
      exact hno h hmem
    refine ⟨over_none fun y hy => hnk ?_, fun va vb v hmem => by obtain ⟨h, k1, _⟩ := rvone _ _ _ _ hmem; exact hno h k1⟩
    cases c with
    | true => exact keysOf_mem (.inl (keysOf_mem (.inr ⟨y, hy⟩)))
    | false => exact keysOf_mem (.inr ⟨y, hy⟩)
  have keyM : ∀ k, k < nx * 65536 → (∀ x, (k, x) ∉ mergeMs nx μ rv c p.mem q.mem (keysOf q.mem (keysOf p.mem []))) → over (bif c then p else q).mem μ k = μ k := by
    intro k hk hno
    have hnk : k ∉ keysOf q.mem (keysOf p.mem []) := fun hk' => by
      obtain ⟨x, hx⟩ := mergeMs_has (nx := nx) (μ := μ) (rv := rv) (c := c) (ma := p.mem) (mb := q.mem) hk' hk
      exact hno x hx
    refine over_none fun y hy => hnk ?_
    cases c with
    | true => exact keysOf_mem (.inl (keysOf_mem (.inr ⟨y, hy⟩)))
    | false => exact keysOf_mem (.inr ⟨y, hy⟩)
  -- a cell of the new state, as the side has it
  have cell : ∀ k x, over (mergeMs nx μ rv c p.mem q.mem (keysOf q.mem (keysOf p.mem []))) μ k = some x → x ≠ .unk → ∃ x0, over (bif c then p else q).mem μ k = some x0 ∧ x0 ≠ .unk ∧ ∀ v, x0.rel φ v → x.rel (phiV φ rv) v := by
    intro k x hx hne
    rcases over_spec hx with h | ⟨h1, h2⟩
    · obtain ⟨_, _, h3⟩ := mergeMs_spec h
      rcases h3 with h3 | ⟨x0, y0, h3, h4, rfl⟩
      · exact absurd h3 hne
      · exact ⟨_, selM k x0 y0 h3 h4, fun e => hne (mergeA_unk e), fun v hv => mergeA_s hrev hv⟩
    · by_cases hk : k < nx * 65536
      · exact ⟨x, by rw [keyM k hk h1]; exact h2, hne, fun v hv => At.rel_mono hle hv⟩
      · exact absurd (hf2 k x (by omega) h2) hne
  -- a head of the new state, as the side has it
  have head : ∀ b h, over hs' ρ b = some h → ∃ h0, over (bif c then p else q).hs ρ b = some h0 ∧ h.z = h0.z ∧ h.ro = h0.ro ∧ h.grows = h0.grows ∧ (∀ R, h.R = some R → ∃ R', h0.R = some R' ∧ R.st = R'.st ∧ R.sh = R'.sh ∧ R.l = R'.l ∧ R.fx = R'.fx) ∧ (h.R = none → h0.R = none) ∧
      ∃ i, φ b = some i ∧ phiV φ rv b = some ⟨i.ty, i.a, i.z, i.n, h.v, i.ro⟩ ∧ (h.v = h0.v ∨ h.grows = true) := by
    intro b h hb
    rcases over_spec hb with hmem | ⟨h1, h2⟩
    · obtain ⟨_, _, x, y, rv', k1, k2, k3, k4⟩ := g1 b h hmem
      obtain ⟨e1, e2, e3, e4, e5, e6⟩ := mergeH_spec k3
      obtain ⟨i, i1, i2, _⟩ := hM.hdr b _ (selH b x y k1 k2)
      refine ⟨_, selH b x y k1 k2, e1, e2, e3, e4, e5, i, i1, ?_⟩
      rcases phiVget b with ⟨va', vb', v', i', q1, q2, q3, q4, q5⟩ | ⟨q1, q2⟩
      · obtain ⟨h2, p1, p2, p3, _⟩ := rvone _ _ _ _ q1
        have := hsuniq b h h2 hmem p1
        subst this
        rw [i1] at q2; simp only [Option.some.injEq] at q2; subst q2
        exact ⟨by rw [q5, ← p2], .inr p3⟩
      · rcases e6 with ⟨e6, e7⟩ | ⟨e6, _⟩
        · refine ⟨?_, .inl e7⟩
          rw [q2, i1, e7, ← i2]
        · exact absurd (k4 (b, x.v, y.v, h.v) (by rw [e6]; simp)) (q1 _ _ _)
    · by_cases hlt : b < nx
      · obtain ⟨k1, k2⟩ := keyH b hlt h1
        obtain ⟨i, i1, i2, _⟩ := hM.hdr b h (by rw [k1]; exact h2)
        refine ⟨h, by rw [k1]; exact h2, rfl, rfl, rfl, fun R hR => ⟨R, hR, rfl, rfl, rfl, rfl⟩, fun hR => hR, i, i1, ?_, .inl rfl⟩
        rcases phiVget b with ⟨va', vb', v', i', q1, _⟩ | ⟨_, q2⟩
        · exact absurd q1 (k2 _ _ _)
        · rw [q2, i1, ← i2]
      · rw [hf1 b (by omega)] at h2; cases h2
  have back : ∀ b j, phiV φ rv b = some j → ∃ i, φ b = some i ∧ i.a = j.a ∧ i.z = j.z ∧ i.ro = j.ro ∧ i.ty = j.ty := by
    intro b j hj
    rcases phiVget b with ⟨va', vb', v', i', q1, q2, q3, q4, q5⟩ | ⟨_, q2⟩
    · rw [hj] at q5; simp only [Option.some.injEq] at q5; subst q5
      exact ⟨i', q2, rfl, rfl, rfl, rfl⟩
    · rw [hj] at q2; exact ⟨j, q2.symm, rfl, rfl, rfl, rfl⟩
  refine ⟨phiV φ rv, hle, ⟨?_, hs.sz, hs.df, ?_⟩⟩
  · intro t lvv ht
    unfold filt at ht
    split at ht
    · rename_i hmem
      rcases over_spec ht with h | ⟨h1, h2⟩
      · rcases mergeTs_spec h with rfl | ⟨x0, y0, k1, k2, rfl⟩
        · trivial
        · exact mergeV_s hrev (hs.tr t _ (by simp only [filt, hmem]; exact selT t x0 y0 k1 k2))
      · obtain ⟨k1, k2⟩ := mergeTs_none (memN_iff.1 hmem) h1
        refine LV.rel_mono hle (hs.tr t _ ?_)
        simp only [filt, hmem]
        rw [over_none]
        · exact h2
        · cases c with
          | true => exact look_none k1
          | false => exact look_none k2
    · cases ht
  · constructor
    · intro k x hx
      by_cases hne : x = .unk
      · exact .inl hne
      · right
        obtain ⟨x0, h1, h2, h3⟩ := cell k x hx hne
        rcases hM.cell k x0 h1 with e | ⟨i, i1, i2, i3, r, o', arr, ty, fz, v, k1, k2, k3, k4⟩
        · exact absurd e h2
        · rcases phiVget (k / 65536) with ⟨va', vb', v', i', q1, q2, q3, q4, q5⟩ | ⟨_, q2⟩
          · exfalso
            obtain ⟨h, p1, p2, p3, _⟩ := rvone _ _ _ _ q1
            obtain ⟨_, _, x', y', rv', b1, b2, b3, _⟩ := g1 _ h p1
            have := (hM.apart k x0 _ h1 h2 (selH _ x' y' b1 b2)).1
            rw [← (mergeH_spec b3).2.2.1, p3] at this; cases this
          · exact ⟨i, by rw [q2]; exact i1, i2, i3, r, o', arr, ty, fz, v, k1, k2, k3, h3 v k4⟩
    · intro b h hb
      obtain ⟨h0, k1, k2, k3, k4, k5, k6, i, i1, i2, i3⟩ := head b h hb
      obtain ⟨i', j1, j2, j3, j4, j5⟩ := hM.hdr b h0 k1
      rw [i1] at j1; simp only [Option.some.injEq] at j1; subst j1
      refine ⟨_, i2, rfl, by rw [k3]; exact j3, fun hg => ?_, fun R hR => ?_⟩
      · obtain ⟨e1, e2, e3⟩ := j4 (by rw [← k4]; exact hg)
        rcases i3 with i3 | i3
        · exact ⟨by show h.v = 0; rw [i3, ← j2]; exact e1, by show i.z = h.z; rw [k2]; exact e2, fun hR => e3 (k6 hR)⟩
        · rw [hg] at i3; cases i3
      · obtain ⟨R', e1, e2, e3, e4, e5⟩ := k5 R hR
        obtain ⟨f1, f2, f3⟩ := j5 R' e1
        have : R = R' := by cases R; cases R'; simp_all
        subst this
        exact ⟨f1, f2, f3⟩
    · intro k x h hx hne hh
      obtain ⟨x0, h1, h2, _⟩ := cell k x hx hne
      obtain ⟨h0, k1, k2, k3, k4, k5, k6, _⟩ := head _ h hh
      have := hM.apart k x0 h0 h1 h2 k1
      refine ⟨by rw [k4]; exact this.1, fun R hR => ?_⟩
      obtain ⟨R', e1, e2, e3, e4, e5⟩ := k5 R hR
      rw [e2, e3, e4]
      exact this.2 R' e1
    · intro b b' j j' r o' o'' hb hb' ha ha'
      obtain ⟨i, i1, i2, i3, i4, i5⟩ := back b j hb
      obtain ⟨i', i1', i2', i3', i4', i5'⟩ := back b' j' hb'
      rcases hM.inj b b' i i' r o' o'' i1 i1' (by rw [i2]; exact ha) (by rw [i2']; exact ha') with e | ⟨e1, e2⟩
      · exact .inl e
      · exact .inr ⟨by rw [← i4]; exact e1, by rw [← i4']; exact e2⟩
    · intro b j r o' hb ha hro
      obtain ⟨i, i1, i2, i3, i4, i5⟩ := back b j hb
      obtain ⟨e1, e2, arr, e3, e4⟩ := hM.own b i r o' i1 (by rw [i2]; exact ha) (by rw [i4]; exact hro)
      exact ⟨e1, e2, arr, by rw [← i5]; exact e3, by rw [← i3]; exact e4⟩
    · intro b j r o' hb ha hro
      obtain ⟨i, i1, i2, i3, i4, i5⟩ := back b j hb
      exact hM.keep b i r o' i1 (by rw [i2]; exact ha) (by rw [i4]; exact hro)
    · intro b hb
      have hn := hM.dom b hb
      rcases phiVget b with ⟨va', vb', v', i', q1, q2, _⟩ | ⟨_, q2⟩
      · rw [hn] at q2; cases q2
      · rw [q2]; exact hn
    · intro b j r o' hb ha
      obtain ⟨i, i1, i2, _⟩ := back b j hb
      exact hM.big b i r o' i1 (by rw [i2]; exact ha)
    · exact hM.os
    · exact hM.tape
    · exact hM.output
    · exact hM.size
    · exact hM.block
    · exact hM.frz

/-- A growable block is named anew, as that of a slice that is nil. -/
theorem nil_step {n : Nat} {lv : List Nat} {w0 : World} {may : Nat → Prop} {φ : Phi} {σ : Sig} {μ : Mem} {ρ : Hds} {nx : Nat} {a : Act} {w : World} {t b e : Nat} {x : Hd} {R : Rw}
    (hs : SR n lv w0 may φ σ μ ρ nx a w) (ht : σ t = some (.a .nils)) (hx : ρ b = some x) (hR : x.R = some R) (hfx : R.fx = none) (hro : x.ro = false) :
    ∃ ψ, φ.le ψ ∧ SR n lv w0 may ψ (upd σ t (.a (.vec b (x.v + 1) e))) μ (upd ρ b ⟨x.v + 1, 0, false, some ⟨0, R.sh, [], none⟩⟩) nx a w := by
  have hM := hs.mr
  obtain ⟨i, hi, k2, k3, _⟩ := hM.hdr b x hx
  have hver : i.v < x.v + 1 := by omega
  have hno : ∀ k y, μ k = some y → k / 65536 = b → y = .unk := fun k y hy hkb => by
    by_cases hu : y = .unk
    · exact hu
    · have := (hM.apart k y x hy hu (by rw [hkb]; exact hx)).1
      simp [Hd.grows, hR, hfx] at this
  have hle : φ.le (setP φ b ⟨i.ty, none, 0, 0, x.v + 1, false⟩) := phi_upd_le (.inr ⟨i, hi, .inr hver⟩)
  have get : ∀ c i', setP φ b ⟨i.ty, none, 0, 0, x.v + 1, false⟩ c = some i' → (c = b ∧ i'.a = none) ∨ (c ≠ b ∧ φ c = some i') := by
    intro c i' h
    unfold setP at h
    split at h
    · rename_i e'; simp only [Option.some.injEq] at h; subst h; exact .inl ⟨e', rfl⟩
    · rename_i e'; exact .inr ⟨e', h⟩
  refine ⟨_, hle, ?_, hs.sz, hs.df, ?_⟩
  · intro t' v' hv'
    unfold filt at hv'
    split at hv'
    · rename_i hm
      by_cases htt : t' = t
      · subst htt
        rw [upd_same] at hv'
        simp only [Option.some.injEq] at hv'; subst hv'
        have hr : LV.rel φ (.a .nils) (a.tmps.getD t' undef) := hs.tr t' _ (by unfold filt; rw [hm]; exact ht)
        have hr : a.tmps.getD t' undef = .slice none 0 0 := hr
        rw [hr]
        exact ⟨⟨rfl, rfl⟩, _, setP_same _ _ _, Nat.le_refl _, fun _ => .inl ⟨rfl, rfl, rfl⟩⟩
      · rw [upd_other _ _ htt] at hv'
        exact LV.rel_mono hle (hs.tr t' _ (by unfold filt; rw [hm]; exact hv'))
    · cases hv'
  · have up : ∀ c, upd ρ b (⟨x.v + 1, 0, false, some ⟨0, R.sh, [], none⟩⟩ : Hd) c = if c = b then some ⟨x.v + 1, 0, false, some ⟨0, R.sh, [], none⟩⟩ else ρ c := fun c => rfl
    constructor
    · intro k y hy
      by_cases hkb : k / 65536 = b
      · exact .inl (hno k y hy hkb)
      · rcases hM.cell k y hy with e' | ⟨i', h1, h2⟩
        · exact .inl e'
        · exact .inr ⟨i', by simp [setP, hkb, h1], h2.other hle fun _ _ _ => rfl⟩
    · intro c g hg
      rw [up] at hg
      split at hg
      · rename_i hc
        subst hc
        simp only [Option.some.injEq] at hg; subst hg
        refine ⟨_, setP_same _ _ _, rfl, rfl, (fun hg => by simp [Hd.grows] at hg), fun R' hR' => ?_⟩
        simp only [Option.some.injEq] at hR'; subst hR'
        exact ⟨rfl, (fun N hN => by cases hN), .inl ⟨rfl, rfl, rfl⟩⟩
      · rename_i hc
        obtain ⟨i', h4, h5⟩ := hM.hdr c g hg
        exact ⟨i', by simp [setP, hc, h4], h5⟩
    · intro k y g hy hne hg
      rw [up] at hg
      split at hg
      · rename_i hc
        exact absurd (hno k y hy hc) hne
      · exact hM.apart k y g hy hne hg
    · intro c c' i1 i2 r o o' hc hc' hi1 hi2
      rcases get c i1 hc with ⟨_, e'⟩ | ⟨_, e'⟩
      · rw [e'] at hi1; cases hi1
      · rcases get c' i2 hc' with ⟨_, e2'⟩ | ⟨_, e2'⟩
        · rw [e2'] at hi2; cases hi2
        · exact hM.inj c c' i1 i2 r o o' e' e2' hi1 hi2
    · intro c i1 r o hc hi1 hro'
      rcases get c i1 hc with ⟨_, e'⟩ | ⟨_, e'⟩
      · rw [e'] at hi1; cases hi1
      · exact hM.own c i1 r o e' hi1 hro'
    · intro c i1 r o hc hi1 hro'
      rcases get c i1 hc with ⟨_, e'⟩ | ⟨_, e'⟩
      · rw [e'] at hi1; cases hi1
      · exact hM.keep c i1 r o e' hi1 hro'
    · intro c hc
      have hcb : c ≠ b := fun e' => by subst e'; rw [hM.dom c hc] at hi; cases hi
      simp only [setP, hcb, if_false]; exact hM.dom c hc
    · intro c i1 r o hc hi1
      rcases get c i1 hc with ⟨_, e'⟩ | ⟨_, e'⟩
      · rw [e'] at hi1; cases hi1
      · exact hM.big c i1 r o e' hi1
    · exact hM.os
    · exact hM.tape
    · exact hM.output
    · exact hM.size
    · exact hM.block
    · exact hM.frz

theorem fixN_sr {n : Nat} {lv : List Nat} {w0 : World} {may : Nat → Prop} {σ : Sig} {μ : Mem} {ρ : Hds} {nx nx' : Nat} {a : Act} {w : World} {q : Pre} : ∀ (l done : List Nat) (acc : Pre) (φ : Phi),
    SR n lv w0 may φ (over acc.tm σ) (over acc.mem μ) (over acc.hs ρ) nx' a w →
    ∃ ψ, φ.le ψ ∧ SR n lv w0 may ψ (over (fixN nx σ ρ q l done acc).tm σ) (over (fixN nx σ ρ q l done acc).mem μ) (over (fixN nx σ ρ q l done acc).hs ρ) nx' a w
  | [], _, acc, φ, h => ⟨φ, φ.le_refl, h⟩
  | t :: r, done, acc, φ, h => by
    unfold fixN
    split
    · rename_i b v e h1 h2
      split
      · rename_i x hx
        split
        · rename_i R hR
          split
          · rename_i hb
            simp only [Bool.and_eq_true, Bool.not_eq_true', Option.isNone_iff_eq_none] at hb
            obtain ⟨_, b2, b3, _⟩ := hb
            obtain ⟨ψ, k1, k2⟩ := nil_step (e := e) h h1 hx hR b2 b3
            rw [← over_cons, ← over_cons] at k2
            obtain ⟨χ, k3, k4⟩ := fixN_sr r (b :: done) ⟨(t, .a (.vec b (x.v + 1) e)) :: acc.tm, acc.mem, (b, ⟨x.v + 1, 0, false, some ⟨0, R.sh, [], none⟩⟩) :: acc.hs⟩ ψ k2
            exact ⟨χ, Phi.le_trans k1 k3, k4⟩
          · exact fixN_sr r done acc φ h
        · exact fixN_sr r done acc φ h
      · exact fixN_sr r done acc φ h
    · exact fixN_sr r done acc φ h

theorem merge_sr {n : Nat} {lv : List Nat} {w0 : World} {may : Nat → Prop} {φ : Phi} {σ : Sig} {μ : Mem} {ρ : Hds} {nx nx' : Nat} {a : Act} {w : World} {c : Bool} {p q m : Pre} (hm : merge lv nx σ μ ρ c p q = some m)
    (hf1 : ∀ b, nx ≤ b → ρ b = none) (hf2 : ∀ k x, nx ≤ k / 65536 → μ k = some x → x = .unk)
    (hs : SR n lv w0 may φ (over (bif c then p else q).tm σ) (over (bif c then p else q).mem μ) (over (bif c then p else q).hs ρ) nx' a w) :
    ∃ ψ, φ.le ψ ∧ SR n lv w0 may ψ (over m.tm σ) (over m.mem μ) (over m.hs ρ) nx' a w := by
  unfold merge at hm
  cases c with
  | true =>
    obtain ⟨ψ, h1, h2⟩ := fixN_sr (nx := nx) (q := q) lv [] p φ hs
    obtain ⟨χ, h3, h4⟩ := merge0_sr (c := true) hm hf1 hf2 h2
    exact ⟨χ, Phi.le_trans h1 h3, h4⟩
  | false =>
    obtain ⟨ψ, h1, h2⟩ := fixN_sr (nx := nx) (q := p) lv [] q φ hs
    obtain ⟨χ, h3, h4⟩ := merge0_sr (c := false) hm hf1 hf2 h2
    exact ⟨χ, Phi.le_trans h1 h3, h4⟩

end Go.Proofs.Ytcdejlgophpdjaa.V
