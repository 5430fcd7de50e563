/-
  A contract, whatever of its arguments the kernel knows.
-/
import Derived.Test.YtcdejlgophpdjaaVn
namespace Go.Proofs.Ytcdejlgophpdjaa.V
open Go Go.RowKit

def symA : At → At
  | .bool _ b => .bool true b
  | .int _ k n => .int true k n
  | .str _ x => .str true x
  | x => x

def symL : List At → List At
  | [] => []
  | x :: r => symA x :: symL r

def symV : LV → LV
  | .a x => .a (symA x)
  | .g l => .g (symL l)
  | x => x

def symVs : List LV → List LV
  | [] => []
  | x :: r => symV x :: symVs r

def symO : Option At → Option At
  | some x => some (symA x)
  | none => none

def symOs : List (Option At) → List (Option At)
  | [] => []
  | x :: r => symO x :: symOs r

def symB (c : BC) : BC := ⟨c.h, symOs c.cs⟩

def symBs : List BC → List BC
  | [] => []
  | x :: r => symB x :: symBs r

def normC (c : Con) : Con := fun args bs => c (symVs args) (symBs bs)

theorem symA_rel {φ : Phi} {x : At} {v : Value} : (symA x).rel φ v ↔ x.rel φ v := by cases x <;> exact Iff.rfl

theorem symA_unk {x : At} : symA x = .unk ↔ x = .unk := by cases x <;> simp [symA]

theorem symL_rel {φ : Phi} : ∀ {l : List At} {vs : List Value}, All2 (At.rel φ) l vs → All2 (At.rel φ) (symL l) vs
  | _, _, .nil => .nil
  | _, _, .cons h t => .cons (symA_rel.2 h) (symL_rel t)

theorem symV_rel {φ : Phi} {x : LV} {v : Value} (h : x.rel φ v) : (symV x).rel φ v := by
  cases x with
  | a x => exact symA_rel.2 h
  | g l => obtain ⟨cs, e, k⟩ := h; exact ⟨cs, e, symL_rel k⟩
  | t l => exact h
  | u => exact h

theorem symVs_rel {φ : Phi} : ∀ {l : List LV} {vs : List Value}, All2 (LV.rel φ) l vs → All2 (LV.rel φ) (symVs l) vs
  | _, _, .nil => .nil
  | _, _, .cons h t => .cons (symV_rel h) (symVs_rel t)

theorem symOs_get : ∀ {l : List (Option At)} {i : Nat}, (symOs l)[i]? = (l[i]?).map symO
  | [], i => by simp [symOs]
  | x :: r, 0 => by simp [symOs]
  | x :: r, i + 1 => by simp [symOs, symOs_get (l := r)]

theorem symBs_get : ∀ {l : List BC} {i : Nat}, (symBs l)[i]? = (l[i]?).map symB
  | [], i => by simp [symBs]
  | x :: r, 0 => by simp [symBs]
  | x :: r, i + 1 => by simp [symBs, symBs_get (l := r)]

theorem symBs_len : ∀ {l : List BC}, (symBs l).length = l.length
  | [] => rfl
  | x :: r => by simp [symBs, symBs_len (l := r)]

theorem symB_cell (c : BC) (off : Nat) : cellOf (symB c) off = (cellOf c off).map symA := by
  unfold cellOf symB
  simp only [symOs_get]
  cases h : c.cs[off]? with
  | none => rfl
  | some x => cases x <;> rfl

/-- Cells by other marks. -/
theorem MR.marks {w0 : World} {may : Nat → Prop} {φ : Phi} {μ μ' : Mem} {ρ : Hds} {fr : Nat → Prop} {w : World} (h : MR w0 may φ μ ρ fr w) (hμ : ∀ k x, μ' k = some x → ∃ y, μ k = some y ∧ (y = .unk → x = .unk) ∧ ∀ v, y.rel φ v → x.rel φ v) : MR w0 may φ μ' ρ fr w := by
  refine ⟨fun k x hx => ?_, h.hdr, fun k x g hx hne hg => ?_, h.inj, h.own, h.keep, h.dom, h.big, h.os, h.tape, h.output, h.size, h.block, h.frz⟩
  · obtain ⟨y, h1, h2, h3⟩ := hμ k x hx
    rcases h.cell k y h1 with e | ⟨i, g1, g2, g3, r, o, arr, ty, fz, v, g4, g5, g6, g7⟩
    · exact .inl (h2 e)
    · exact .inr ⟨i, g1, g2, g3, r, o, arr, ty, fz, v, g4, g5, g6, h3 v g7⟩
  · obtain ⟨y, h1, h2, h3⟩ := hμ k x hx
    exact h.apart k y g h1 (fun e => hne (h2 e)) hg

theorem hdsIn_sym (bs : List BC) (out : List (Option BC)) : hdsIn (symBs bs) out = hdsIn bs out := by
  funext b
  unfold hdsIn
  rw [symBs_get]
  cases bs[b]? with
  | none => rfl
  | some c => rfl

theorem hdsAft_sym (bs : List BC) (out : List (Option BC)) : hdsAft (symBs bs) out = hdsAft bs out := by
  funext b
  unfold hdsAft aft
  cases h : out[b]? with
  | none => rfl
  | some x => cases x with
    | some c => rfl
    | none =>
      rw [symBs_get]
      cases bs[b]? with
      | none => rfl
      | some c => rfl

theorem normC_ok {P : Program} {f : Nat} {c : Con} (hc : ConOK P f c) : ConOK P f (normC c) := by
  intro args bs obs lv out h ho φ vs w may ha hM
  have h1 := hc (symVs args) (symBs bs) obs lv out h ho φ vs w may (symVs_rel ha) (by
    rw [hdsIn_sym, symBs_len]
    refine hM.marks fun k x hx => ?_
    unfold memOf at hx ⊢
    rw [symBs_get] at hx
    cases hb : bs[k / 65536]? with
    | none => rw [hb] at hx; simp at hx
    | some c =>
      rw [hb] at hx
      simp only [Option.map_some, symB_cell, Option.map_eq_some_iff] at hx
      obtain ⟨y, hy, rfl⟩ := hx
      exact ⟨y, hy, fun e => symA_unk.2 e, fun v hv => symA_rel.2 hv⟩)
  refine h1.mono fun e w' ⟨v', φ', e1, e2, e3, e4⟩ => ⟨v', φ', e1, e2, e3, ?_⟩
  rw [hdsAft_sym] at e4
  refine e4.marks fun k x hx => ?_
  unfold memAft aft at hx ⊢
  cases hb : out[k / 65536]? with
  | none => rw [hb] at hx; simp at hx
  | some o =>
    rw [hb] at hx
    cases o with
    | some c => exact ⟨x, hx, id, fun v hv => hv⟩
    | none =>
      simp only [symBs_get]
      cases hb2 : bs[k / 65536]? with
      | none => rw [hb2] at hx; simp at hx
      | some c =>
        rw [hb2] at hx
        refine ⟨symA x, ?_, fun e => symA_unk.1 e, fun v hv => symA_rel.1 hv⟩
        have hx : cellOf c (k % 65536) = some x := by
          simpa [cellOf] using hx
        have := symB_cell c (k % 65536)
        rw [hx] at this
        simpa [symB, roH, cellOf] using this

end Go.Proofs.Ytcdejlgophpdjaa.V
