/-
  A range over a function: what its record is to the local memory; operations in a round's frame.
-/
import Derived.RangeFuncIn
import Derived.RangeFuncRecord
import Derived.RangeFuncOwn
import Derived.TacticsIn
import Derived.Test.YtcdejlgophpdjaaQRasterTiles7
section
namespace Go.Proofs.Ytcdejlgophpdjaa.V
open Go Go.RowKit

theorem frozen_putO {w : World} {l : Nat} {ob o' : Obj} (h : w.heap[l]? = some ob) (hob : ob.isCells = false) (ho : o'.isCells = false) (p : Addr) : (w.putObj l o').frozen? p = w.frozen? p := by
  have hlt : l < w.heap.size := (Array.getElem?_eq_some_iff.1 h).1
  simp only [World.frozen?]
  by_cases hk : p.block = l
  · rw [hk, World.putObj_heap_same hlt, h]
    cases ob <;> cases o' <;> first | rfl | (simp [Obj.isCells] at hob ho)
  · rw [World.putObj_heap_other hk]

/-- An object that is no cells is turned, in the world of the beginning too. -/
theorem MR.putO {w0 : World} {may : Nat → Prop} {φ : Phi} {μ : Mem} {ρ : Hds} {fr : Nat → Prop} {w : World} (h : MR w0 may φ μ ρ fr w) {l : Nat} {ob ob0 o' : Obj} (h1 : w.heap[l]? = some ob) (hob : ob.isCells = false)
    (h0 : w0.heap[l]? = some ob0) (hob0 : ob0.isCells = false) (ho : o'.isCells = false) : MR (w0.putObj l o') may φ μ ρ fr (w.putObj l o') := by
  have ne : ∀ {r : Nat} {arr : Array Value} {ty : TypeId} {fz : Nat × Nat}, w.heap[r]? = some (.cells arr ty fz) → r ≠ l := fun hr e => by
    subst e
    rw [h1] at hr
    simp only [Option.some.injEq] at hr
    subst hr
    cases hob
  have same : ∀ {r : Nat} {arr : Array Value} {ty : TypeId} {fz : Nat × Nat}, w.heap[r]? = some (.cells arr ty fz) → (w.putObj l o').heap[r]? = some (.cells arr ty fz) := fun hr => (World.putObj_heap_other (ne hr)).trans hr
  have lt : l < w.heap.size := (Array.getElem?_eq_some_iff.1 h1).1
  have lt0 : l < w0.heap.size := (Array.getElem?_eq_some_iff.1 h0).1
  constructor
  · intro k x hx
    rcases h.cell k x hx with e | ⟨i, e1, e2, e3, r, o, arr, ty, fz, v, e4, e5, e6, e7⟩
    · exact .inl e
    · exact .inr ⟨i, e1, e2, e3, r, o, arr, ty, fz, v, e4, same e5, e6, e7⟩
  · intro b g hg
    obtain ⟨i, e1, e2, e3, e4, e5⟩ := h.hdr b g hg
    refine ⟨i, e1, e2, e3, e4, fun R hR => ?_⟩
    obtain ⟨f1, f2, f3⟩ := e5 R hR
    refine ⟨f1, f2, ?_⟩
    rcases f3 with f3 | ⟨r, o, arr, ty, fz, f4, f5, f6, f7⟩
    · exact .inl f3
    · exact .inr ⟨r, o, arr, ty, fz, f4, same f5, f6, f7⟩
  · exact h.apart
  · exact h.inj
  · intro b i r o hb ha hro
    obtain ⟨e1, e2, arr, e3, e4⟩ := h.own b i r o hb ha hro
    exact ⟨by rw [World.putObj_size]; exact e1, e2, arr, same e3, e4⟩
  · intro b i r o hb ha hro
    rw [World.putObj_size]; exact h.keep b i r o hb ha hro
  · exact h.dom
  · intro b i r o hb ha
    rw [World.putObj_size]; exact h.big b i r o hb ha
  · exact h.os
  · exact h.tape
  · exact h.output
  · rw [World.putObj_size, World.putObj_size]; exact h.size
  · intro k hk hm
    rw [World.putObj_size] at hk
    by_cases e : k = l
    · subst e
      rw [World.putObj_heap_same lt, World.putObj_heap_same lt0]
    · rw [World.putObj_heap_other e, World.putObj_heap_other e]
      exact h.block k hk hm
  · intro a
    rw [frozen_putO h1 hob ho, frozen_putO h0 hob0 ho]
    exact h.frz a

theorem putO_back {w : World} {l : Nat} {ob o' : Obj} (h : w.heap[l]? = some ob) : (w.putObj l o').putObj l ob = w := by
  obtain ⟨hlt, he⟩ := Array.getElem?_eq_some_iff.1 h
  have : (w.heap.setIfInBounds l o').setIfInBounds l ob = w.heap := by
    apply Array.ext_getElem?
    intro i
    by_cases e : i = l
    · subst e; simp [hlt, he]
    · simp [Array.getElem?_setIfInBounds_ne (Ne.symm e)]
  unfold World.putObj
  simp only [this]

/-- A fence that lets all through, within a round or not. -/
def roF (ro : Option Nat) : Fence := { Fence.wide with round := ro }

theorem op_in {ro : Option Nat} {n : Nat} {P : Program} {o : Oper} {a : Act} {w : World} {next : Act → World → Prop} {Q : Exit → Act → World → Prop} (hd : ∀ c, o.op ≠ .defer c) (h : o.wp P a w next Q) : o.wpIn (roF ro) n P a w next Q := by
  refine ⟨fun _ _ => trivial, ?_⟩
  have e : o.semAt (roF ro).round a.eval = execOp a.eval o := Oper.semAt_eq _ _ _ hd
  rw [e]
  unfold Oper.wp at h
  generalize (execOp a.eval o).run P w = r at h ⊢
  unfold Oper.upon at h
  unfold Oper.uponIn
  split at h
  · exact h
  · exact h
  · exact h
  · refine ⟨fun k => by simp [roF, Fence.wide] at k, ?_⟩
    exact (callsIn_wide (n := n - 1)).2 h
  · refine ⟨fun k => by simp [roF, Fence.wide] at k, ?_⟩
    intro c cs _
    obtain ⟨v, w', h1, h2⟩ := h c cs
    exact ⟨v, w', h1, stepsIn_wide.2 h2⟩
  · exact h
  · exact h.elim

/-- Operations one behind the other, on the local memory. -/
def isDefer (o : Oper) : Bool := match o.op with
  | .defer _ => true
  | _ => false

def runOps (P : Program) (T : Tab) (n : Nat) (ops : Array Oper) : List Oper → Nat → Sig → Mem → Hds → Option (List Prop × Sig × Mem × Hds)
  | [], _, σ, μ, ρ => some ([], σ, μ, ρ)
  | o :: r, id, σ, μ, ρ => match isDefer o, dstOK o.dst n, lwanted σ ops o with
    | false, true, some true => match lop P T id [] σ μ ρ o with
      | some (obs, v, cs, hs) => match runOps P T n ops r (id + 16) (putS σ o.dst v) (updL μ cs) (updL ρ hs) with
        | some (obs', x) => some (obs ++ obs', x)
        | none => none
      | none => none
    | _, _, _ => none

theorem runOps_wp {P : Program} {T : Tab} (hT : TOK P T) {n : Nat} {ops : Array Oper} {ro : Option Nat} {m : Nat} {w0 : World} {may : Nat → Prop} {Q : Exit → Act → World → Prop} {rest : List Oper} :
    ∀ (l : List Oper) (id : Nat) (σ : Sig) (μ : Mem) (ρ : Hds) {obs : List Prop} {σ' : Sig} {μ' : Mem} {ρ' : Hds}, runOps P T n ops l id σ μ ρ = some (obs, σ', μ', ρ') → Alls obs →
    ∀ (φ : Phi) (a : Act) (w : World), TRel φ σ a.tmps → a.tmps.size = n → MR w0 may φ μ ρ (fun b => id ≤ b) w →
    (∀ φ' a' w', φ.le φ' → TRel φ' σ' a'.tmps → a'.tmps.size = n → a'.defers = a.defers → MR w0 may φ' μ' ρ' (fun b => id + 16 * l.length ≤ b) w' → wpListIn (roF ro) m P ops Q rest a' w') → wpListIn (roF ro) m P ops Q (l ++ rest) a w
  | [], id, σ, μ, ρ, obs, σ', μ', ρ', h, ho, φ, a, w, hσ, hn, hM, hk => by
    simp only [runOps, Option.some.injEq, Prod.mk.injEq] at h
    obtain ⟨rfl, rfl, rfl, rfl⟩ := h
    exact hk φ a w φ.le_refl hσ hn rfl hM
  | o :: r, id, σ, μ, ρ, obs, σ', μ', ρ', h, ho, φ, a, w, hσ, hn, hM, hk => by
    unfold runOps at h
    split at h
    case h_2 => cases h
    rename_i e1 e2 e3
    split at h
    case h_2 => cases h
    rename_i obs1 v cs hs e4
    split at h
    case h_2 => cases h
    rename_i obs2 x e5
    simp only [Option.some.injEq, Prod.mk.injEq] at h
    obtain ⟨rfl, rfl⟩ := h
    obtain ⟨o1, o2⟩ := Alls.append.1 ho
    show wpListIn (roF ro) m P ops Q (o :: (r ++ rest)) a w
    unfold wpListIn
    rw [lwanted_spec e3 hσ]
    simp only [if_true]
    refine op_in (fun c hc => by rw [isDefer, hc] at e1; cases e1) ?_
    refine lop_wp hT e4 o1 hσ hM (fun j hj => by show id ≤ id + j; omega) fun φ' v' w' k1 k2 k3 => ?_
    obtain ⟨p1, p2, p3⟩ := put_rel (TRel.mono k1 hσ) hn k2 e2
    refine runOps_wp hT r (id + 16) _ _ _ e5 o2 φ' _ w' p1 p2 (k3.drop fun b hb => ⟨by have : id + 16 ≤ b := hb; omega, fun j hj => by have : id + 16 ≤ b := hb; omega⟩) fun φ'' a'' w'' q1 q2 q3 q4 q5 => ?_
    refine hk φ'' a'' w'' (Phi.le_trans k1 q1) q2 q3 (q4.trans p3) ?_
    rw [List.length_cons]
    exact q5.drop fun b hb => by have : id + 16 * (r.length + 1) ≤ b := hb; show id + 16 + 16 * r.length ≤ b; omega

theorem runOps_wp0 {P : Program} {T : Tab} (hT : TOK P T) {n : Nat} {ops : Array Oper} {ro : Option Nat} {m : Nat} {w0 : World} {may : Nat → Prop} {Q : Exit → Act → World → Prop}
    (l : List Oper) (id : Nat) (σ : Sig) (μ : Mem) (ρ : Hds) {obs : List Prop} {σ' : Sig} {μ' : Mem} {ρ' : Hds} (h : runOps P T n ops l id σ μ ρ = some (obs, σ', μ', ρ')) (ho : Alls obs)
    (φ : Phi) (a : Act) (w : World) (hσ : TRel φ σ a.tmps) (hn : a.tmps.size = n) (hM : MR w0 may φ μ ρ (fun b => id ≤ b) w)
    (hk : ∀ φ' a' w', φ.le φ' → TRel φ' σ' a'.tmps → a'.tmps.size = n → a'.defers = a.defers → MR w0 may φ' μ' ρ' (fun b => id + 16 * l.length ≤ b) w' → Q .normal a' w') : wpListIn (roF ro) m P ops Q l a w := by
  have := runOps_wp hT (ro := ro) (m := m) (Q := Q) (rest := []) l id σ μ ρ h ho φ a w hσ hn hM hk
  rwa [List.append_nil] at this

end Go.Proofs.Ytcdejlgophpdjaa.V
end

section
namespace Go.Proofs.Ytcdejlgophpdjaa
open Go Go.RowKit Go.Proofs.Ytcdejlgophpdjaa.V

namespace Ra
def cl : Code → Code
  | .seq a _ => a
  | .cond _ a _ => a
  | .block _ a => a
  | .loop a => a
  | c => c
def cr : Code → Code
  | .seq _ b => b
  | .cond _ _ b => b
  | c => c
noncomputable def cC : Code := bodyOf Try.prog 108
noncomputable def B0 : Code := cr (cr (cr (cr cC)))
noncomputable def LB : Code := cl (cl B0)
noncomputable def B1 : Code := cl (cr LB)
noncomputable def B2 : Code := cr (cl B1)
noncomputable def LI : Code := cl (cl B2)
noncomputable def B3 : Code := cl (cr LI)
noncomputable def R9 : Code := cl (cl B3)
noncomputable def R10 : Code := cl (cr (cl B3))
noncomputable def IF3 : Code := cr (cr (cl B3))
end Ra

end Go.Proofs.Ytcdejlgophpdjaa
end

section
namespace Go.Proofs.Ytcdejlgophpdjaa
open Go Go.RowKit Go.Proofs.Ytcdejlgophpdjaa.V
set_option linter.unusedVariables false
set_option linter.unusedSectionVars false

namespace V
/-- There is one way to go on. -/
def oneN : Outs → Bool
  | some (_, [⟨.n, false, true, _, _⟩]) => true
  | _ => false
def evO : Outs → List Prop
  | some (o, _) => o
  | none => []
def evD : Outs → Pre
  | some (_, [a]) => a.d
  | _ => Pre.nil
def evN : Outs → Nat
  | some (_, [a]) => a.nx
  | _ => 0
theorem oneN_spec {x : Outs} (h : oneN x = true) : x = some (evO x, [⟨.n, false, true, evD x, evN x⟩]) := by
  unfold oneN at h
  split at h
  · rfl
  · cases h
def roO : Option (List Prop × Sig × Mem × Hds) → List Prop
  | some (o, _) => o
  | none => []
def roS : Option (List Prop × Sig × Mem × Hds) → Sig
  | some (_, s, _) => s
  | none => fun _ => none
def roM : Option (List Prop × Sig × Mem × Hds) → Mem
  | some (_, _, m, _) => m
  | none => fun _ => none
def roHd : Option (List Prop × Sig × Mem × Hds) → Hds
  | some (_, _, _, h) => h
  | none => fun _ => none
theorem ro_spec {x : Option (List Prop × Sig × Mem × Hds)} (h : x.isSome = true) : x = some (roO x, roS x, roM x, roHd x) := by
  cases x with
  | none => cases h
  | some p => rfl
def opsOf : Code → Array Oper
  | .region _ ops _ => ops
  | _ => #[]
def idOf : Code → Nat
  | .region id _ _ => id
  | .block id _ => id
  | _ => 0

section
variable {P : Program} {n : Nat} {lv ts : List Nat} {w0 : World} {may : Nat → Prop} {φ ψ : Phi} {σ : Sig} {μ : Mem} {ρ : Hds} {nx : Nat} {a a' : Act} {w w' : World}
theorem fin_hr {G : List Nat} {h0 h1 : HS} (hr : HR n lv w0 may φ h0 a w) (hle : φ.le ψ) (hs : SR n lv w0 may ψ σ μ ρ nx a' w') (e : rsH lv ts h0.bs.length σ μ ρ = some h1) (hv : verOK G ρ h0.bs.length = true) :
    ∃ χ, HR n lv w0 may χ h1 a' w' ∧ Kp G φ χ := by
  obtain ⟨r1, r2⟩ := reset_sr hs e
  exact ⟨_, ⟨by rw [r1]; exact r2, fun i j hj => by rw [r1]; exact phiC_v0 i j hj⟩, reset_kp hr.v0 hle hs.mr hv⟩
end
end V

namespace Ra
def sh7 : List Kd := [.int .i64, .int .i64, .int .i64, .int .i64, .int .i64, .int .i64, .int .i64]
def tB (t : Nat → Int) : BC := ⟨⟨0, 24, false, none⟩, [some (.int true .i64 (t 0)), some (.int true .i64 (t 1)), some (.int true .i64 (t 2)), some (.int true .i64 (t 3)), some (.int true .i64 (t 4)), some (.int true .i64 (t 5)), some (.int true .i64 (t 6)), some (.int true .i64 (t 7)), some (.int true .i64 (t 8)), some (.int true .i64 (t 9)), some (.int true .i64 (t 10)), some (.int true .i64 (t 11)), some (.int true .i64 (t 12)), some (.int true .i64 (t 13)), some (.int true .i64 (t 14)), some (.int true .i64 (t 15)), some (.int true .i64 (t 16)), some (.int true .i64 (t 17)), some (.int true .i64 (t 18)), some (.int true .i64 (t 19)), some (.int true .i64 (t 20)), some (.int true .i64 (t 21)), some (.int true .i64 (t 22)), some (.int true .i64 (t 23))]⟩
def bB (a b c d : Int) : BC := ⟨⟨0, 4, false, none⟩, [some (.int true .i64 a), some (.int true .i64 b), some (.int true .i64 c), some (.int true .i64 d)]⟩
def oB : BC := ⟨⟨0, 1, false, none⟩, [some (.vec 3 0 7)]⟩
def rB (l : List (List Int)) : BC := ⟨⟨0, 0, false, some ⟨0, sh7, l, none⟩⟩, []⟩
def hd (u : Value) (t : Nat → Int) (a b c d : Int) (l : List (List Int)) (m : List (Nat × LV)) : HS := ⟨(0, .a (.val u)) :: (1, .a (.ptr 0 0)) :: (2, .a (.ptr 1 0)) :: m, [tB t, bB a b c d, oB, rB l]⟩
def yx (y x : Int) : List (Nat × LV) := [(4, .a (.int true .i64 y)), (5, .a (.int true .i64 x))]
def lvC : List Nat := [0, 1, 2, 4, 5, 6, 7, 8, 11, 33, 41, 62]

def at0 (t : Nat → Int) (x y : Int) : Int := sAt_0 (t 0) (t 1) (t 2) (t 3) (t 4) (t 5) (t 6) (t 7) (t 8) (t 9) (t 10) (t 11) (t 12) (t 13) (t 14) (t 15) (t 16) (t 17) (t 18) (t 19) (t 20) (t 21) (t 22) (t 23) x y
def at1 (t : Nat → Int) (x y : Int) : Int := sAt_1 (t 0) (t 1) (t 2) (t 3) (t 4) (t 5) (t 6) (t 7) (t 8) (t 9) (t 10) (t 11) (t 12) (t 13) (t 14) (t 15) (t 16) (t 17) (t 18) (t 19) (t 20) (t 21) (t 22) (t 23) x y
def at2 (t : Nat → Int) (x y : Int) : Int := sAt_2 (t 0) (t 1) (t 2) (t 3) (t 4) (t 5) (t 6) (t 7) (t 8) (t 9) (t 10) (t 11) (t 12) (t 13) (t 14) (t 15) (t 16) (t 17) (t 18) (t 19) (t 20) (t 21) (t 22) (t 23) x y
def at3 (t : Nat → Int) (x y : Int) : Int := sAt_3 (t 0) (t 1) (t 2) (t 3) (t 4) (t 5) (t 6) (t 7) (t 8) (t 9) (t 10) (t 11) (t 12) (t 13) (t 14) (t 15) (t 16) (t 17) (t 18) (t 19) (t 20) (t 21) (t 22) (t 23) x y
def at4 (t : Nat → Int) (x y : Int) : Int := sAt_4 (t 0) (t 1) (t 2) (t 3) (t 4) (t 5) (t 6) (t 7) (t 8) (t 9) (t 10) (t 11) (t 12) (t 13) (t 14) (t 15) (t 16) (t 17) (t 18) (t 19) (t 20) (t 21) (t 22) (t 23) x y
def at5 (t : Nat → Int) (x y : Int) : Bool := sAt_5 (t 0) (t 1) (t 2) (t 3) (t 4) (t 5) (t 6) (t 7) (t 8) (t 9) (t 10) (t 11) (t 12) (t 13) (t 14) (t 15) (t 16) (t 17) (t 18) (t 19) (t 20) (t 21) (t 22) (t 23) x y
def ck (t : Nat → Int) : Int := sCheck_0 (t 0) (t 1) (t 2) (t 3) (t 4) (t 5) (t 6) (t 7) (t 8) (t 9) (t 10) (t 11) (t 12) (t 13) (t 14) (t 15) (t 16) (t 17) (t 18) (t 19) (t 20) (t 21) (t 22) (t 23)
def row (t : Nat → Int) (x y : Int) : List Int := [x, y, at0 t x y, at1 t x y, at2 t x y, at3 t x y, at4 t x y]

noncomputable def cL : Code := bodyOf Try.prog 45
noncomputable def RF : Code := cl (cr (cl (cr (cr cL))))
def rfA : Code → Code
  | .rangeFunc _ _ a _ => a
  | c => c
def rfB : Code → Code
  | .rangeFunc _ _ _ b => b
  | c => c

section
variable (u : Value) (t : Nat → Int) (a b c d : Int) (l : List (List Int)) (y x : Int)
noncomputable def E9 : Outs := ev Try.prog tabRa6 63 lvC [] 2000 false R9 1 (V.look (hd u t a b c d l (yx y x)).tm) (memOf (hd u t a b c d l (yx y x)).bs) (hdsB (hd u t a b c d l (yx y x)).bs) 4
theorem e9_one : oneN (E9 u t a b c d l y x) = true := by kernel_rfl
theorem e9_obs : evO (E9 u t a b c d l y x) = sAt_o (t 0) (t 1) (t 2) (t 3) (t 4) (t 5) (t 6) (t 7) (t 8) (t 9) (t 10) (t 11) (t 12) (t 13) (t 14) (t 15) (t 16) (t 17) (t 18) (t 19) (t 20) (t 21) (t 22) (t 23) x y := by kernel_rfl
noncomputable def S9 (q : Bool) : Sig := over [(8, .a (.bool false q))] (over (evD (E9 u t a b c d l y x)).tm (V.look (hd u t a b c d l (yx y x)).tm))
noncomputable def M9 : Mem := over (evD (E9 u t a b c d l y x)).mem (memOf (hd u t a b c d l (yx y x)).bs)
noncomputable def H9 : Hds := over (evD (E9 u t a b c d l y x)).hs (hdsB (hd u t a b c d l (yx y x)).bs)
theorem s9_8 : over (evD (E9 u t a b c d l y x)).tm (V.look (hd u t a b c d l (yx y x)).tm) 8 = some (.a (.bool true (at5 t x y))) := by kernel_rfl
theorem n9 : evN (E9 u t a b c d l y x) = 196 := by kernel_rfl
/-! It is not of the triangle. -/
noncomputable def EF : Outs := ev Try.prog tabRa6 63 lvC [] 2000 false (cr (cl B3)) 1 (S9 u t a b c d l y x false) (M9 u t a b c d l y x) (H9 u t a b c d l y x) 196
theorem ef_one : oneN (EF u t a b c d l y x) = true := by kernel_rfl
theorem ef_obs : evO (EF u t a b c d l y x) = [] := by kernel_rfl
theorem ef_rs : rsH lvC [0, 1, 2, 4, 5] 4 (over (evD (EF u t a b c d l y x)).tm (S9 u t a b c d l y x false)) (over (evD (EF u t a b c d l y x)).mem (M9 u t a b c d l y x)) (over (evD (EF u t a b c d l y x)).hs (H9 u t a b c d l y x)) = some (hd u t a b c d l (yx y x)) := by kernel_rfl
theorem ef_ver : verOK [3] (over (evD (EF u t a b c d l y x)).hs (H9 u t a b c d l y x)) 4 = true := by kernel_rfl
/-! It is: the round. -/
noncomputable def O10 : Array Oper := opsOf R10
noncomputable def X1 : Option (List Prop × Sig × Mem × Hds) := runOps Try.prog tabRa6 63 O10 (O10.toList.take 8) 196 (filt lvC (S9 u t a b c d l y x true)) (M9 u t a b c d l y x) (H9 u t a b c d l y x)
theorem x1_some : (X1 u t a b c d l y x).isSome = true := by kernel_rfl
theorem x1_eq0 : runOps Try.prog tabRa6 63 O10 (O10.toList.take 8) 196 (filt lvC (S9 u t a b c d l y x true)) (M9 u t a b c d l y x) (H9 u t a b c d l y x) = some (roO (X1 u t a b c d l y x), roS (X1 u t a b c d l y x), roM (X1 u t a b c d l y x), roHd (X1 u t a b c d l y x)) := ro_spec (x1_some u t a b c d l y x)
theorem x1_obs : roO (X1 u t a b c d l y x) = [] := by kernel_rfl
theorem x1_eq : runOps Try.prog tabRa6 63 O10 (O10.toList.take 8) 196 (filt lvC (S9 u t a b c d l y x true)) (M9 u t a b c d l y x) (H9 u t a b c d l y x) = some ([], roS (X1 u t a b c d l y x), roM (X1 u t a b c d l y x), roHd (X1 u t a b c d l y x)) := by
  have h := x1_eq0 u t a b c d l y x
  rw [x1_obs] at h
  exact h
theorem x1_59 : roS (X1 u t a b c d l y x) 59 = some (.g [.int true .i64 x, .int true .i64 y, .int true .i64 (at0 t x y), .int true .i64 (at1 t x y), .int true .i64 (at2 t x y), .int true .i64 (at3 t x y), .int true .i64 (at4 t x y)]) := by kernel_rfl
theorem x1_54 : roS (X1 u t a b c d l y x) 54 = some (.a (.val u)) := by kernel_rfl
def sR : Sig := V.look [(5, .a (.ptr 2 0)), (10, .g [.int true .i64 x, .int true .i64 y, .int true .i64 (at0 t x y), .int true .i64 (at1 t x y), .int true .i64 (at2 t x y), .int true .i64 (at3 t x y), .int true .i64 (at4 t x y)])]
noncomputable def O3 : Array Oper := opsOf (rfA RF)
noncomputable def X3 : Option (List Prop × Sig × Mem × Hds) := runOps Try.prog tabRa6 16 O3 O3.toList 324 (sR t y x) (roM (X1 u t a b c d l y x)) (roHd (X1 u t a b c d l y x))
theorem x3_some : (X3 u t a b c d l y x).isSome = true := by kernel_rfl
theorem x3_eq0 : runOps Try.prog tabRa6 16 O3 O3.toList 324 (sR t y x) (roM (X1 u t a b c d l y x)) (roHd (X1 u t a b c d l y x)) = some (roO (X3 u t a b c d l y x), roS (X3 u t a b c d l y x), roM (X3 u t a b c d l y x), roHd (X3 u t a b c d l y x)) := ro_spec (x3_some u t a b c d l y x)
theorem x3_obs : roO (X3 u t a b c d l y x) = [] := by kernel_rfl
theorem x3_eq : runOps Try.prog tabRa6 16 O3 O3.toList 324 (sR t y x) (roM (X1 u t a b c d l y x)) (roHd (X1 u t a b c d l y x)) = some ([], roS (X3 u t a b c d l y x), roM (X3 u t a b c d l y x), roHd (X3 u t a b c d l y x)) := by
  have h := x3_eq0 u t a b c d l y x
  rw [x3_obs] at h
  exact h
noncomputable def O4 : Array Oper := opsOf (cl (rfB RF))
noncomputable def X4 : Option (List Prop × Sig × Mem × Hds) := runOps Try.prog tabRa6 16 O4 O4.toList 356 (roS (X3 u t a b c d l y x)) (roM (X3 u t a b c d l y x)) (roHd (X3 u t a b c d l y x))
theorem x4_some : (X4 u t a b c d l y x).isSome = true := by kernel_rfl
theorem x4_eq0 : runOps Try.prog tabRa6 16 O4 O4.toList 356 (roS (X3 u t a b c d l y x)) (roM (X3 u t a b c d l y x)) (roHd (X3 u t a b c d l y x)) = some (roO (X4 u t a b c d l y x), roS (X4 u t a b c d l y x), roM (X4 u t a b c d l y x), roHd (X4 u t a b c d l y x)) := ro_spec (x4_some u t a b c d l y x)
theorem x4_obs : roO (X4 u t a b c d l y x) = [(l ++ [row t x y]).length * 56 ≤ 70368744177664] := by kernel_rfl
theorem x4_eq : runOps Try.prog tabRa6 16 O4 O4.toList 356 (roS (X3 u t a b c d l y x)) (roM (X3 u t a b c d l y x)) (roHd (X3 u t a b c d l y x)) = some ([(l ++ [row t x y]).length * 56 ≤ 70368744177664], roS (X4 u t a b c d l y x), roM (X4 u t a b c d l y x), roHd (X4 u t a b c d l y x)) := by
  have h := x4_eq0 u t a b c d l y x
  rw [x4_obs] at h
  exact h
noncomputable def S8 : Sig := putS (roS (X1 u t a b c d l y x)) (some 60) (.a (.bool false true))
noncomputable def X5 : Option (List Prop × Sig × Mem × Hds) := runOps Try.prog tabRa6 63 O10 (O10.toList.drop 9) 436 (S8 u t a b c d l y x) (roM (X4 u t a b c d l y x)) (roHd (X4 u t a b c d l y x))
theorem x5_some : (X5 u t a b c d l y x).isSome = true := by kernel_rfl
theorem x5_eq0 : runOps Try.prog tabRa6 63 O10 (O10.toList.drop 9) 436 (S8 u t a b c d l y x) (roM (X4 u t a b c d l y x)) (roHd (X4 u t a b c d l y x)) = some (roO (X5 u t a b c d l y x), roS (X5 u t a b c d l y x), roM (X5 u t a b c d l y x), roHd (X5 u t a b c d l y x)) := ro_spec (x5_some u t a b c d l y x)
theorem x5_obs : roO (X5 u t a b c d l y x) = [] := by kernel_rfl
theorem x5_eq : runOps Try.prog tabRa6 63 O10 (O10.toList.drop 9) 436 (S8 u t a b c d l y x) (roM (X4 u t a b c d l y x)) (roHd (X4 u t a b c d l y x)) = some ([], roS (X5 u t a b c d l y x), roM (X5 u t a b c d l y x), roHd (X5 u t a b c d l y x)) := by
  have h := x5_eq0 u t a b c d l y x
  rw [x5_obs] at h
  exact h
theorem x5_62 : roS (X5 u t a b c d l y x) 62 = some (.a (.bool false false)) := by kernel_rfl
theorem x5_rs : rsH lvC [0, 1, 2, 4, 5] 4 (roS (X5 u t a b c d l y x)) (roM (X5 u t a b c d l y x)) (roHd (X5 u t a b c d l y x)) = some (hd u t a b c d (l ++ [row t x y]) (yx y x)) := by kernel_rfl
theorem x5_ver : verOK [3] (roHd (X5 u t a b c d l y x)) 4 = true := by kernel_rfl
end
end Ra

end Go.Proofs.Ytcdejlgophpdjaa
end

section
namespace Go.Proofs.Ytcdejlgophpdjaa
open Go Go.RowKit Go.Proofs.Ytcdejlgophpdjaa.V
set_option linter.unusedVariables false
set_option linter.unusedSectionVars false

namespace V
theorem sr_mark {n : Nat} {lv : List Nat} {w0 : World} {may : Nat → Prop} {φ : Phi} {σ : Sig} {μ : Mem} {ρ : Hds} {nx : Nat} {a : Act} {w : World} (hs : SR n lv w0 may φ σ μ ρ nx a w) {k : Nat} {q : Bool} (hk : σ k = some (.a (.bool true q))) (hm : memN k lv = true) :
    SR n lv w0 may φ (over [(k, .a (.bool false q))] σ) μ ρ nx a w ∧ a.tmps.getD k undef = .bool q := by
  have hv : a.tmps.getD k undef = .bool q := hs.tr k (.a (.bool true q)) (by unfold filt; rw [hm]; exact hk)
  refine ⟨⟨fun t lv' h => ?_, hs.sz, hs.df, hs.mr⟩, hv⟩
  unfold filt at h
  split at h
  · rename_i ht
    rw [over_cons] at h
    by_cases e : t = k
    · subst e
      rw [upd_same] at h
      simp only [Option.some.injEq] at h
      subst h
      exact hv
    · rw [upd_other _ _ e] at h
      exact hs.tr t lv' (by unfold filt; rw [ht]; exact h)
  · cases h
end V

namespace Ra
/-- The record of the loop that ranges over the pixels. -/
structure RecAt (w : World) (l r : Nat) (rec : Loop) : Prop where
  at_ : w.heap[l]? = some (.loop rec)
  st : rec.state = .ready
  pe : rec.pending = none
  ps : rec.params = #[10]
  asg : rec.assign = rfA RF
  bod : rec.body = rfB RF
  sz : rec.tmps.size = 16
  t5 : rec.tmps.getD 5 undef = .pointer (some ⟨r, 0, none⟩)

theorem at_obs (t : Nat → Int) (x y : Int) : Alls (sAt_o (t 0) (t 1) (t 2) (t 3) (t 4) (t 5) (t 6) (t 7) (t 8) (t 9) (t 10) (t 11) (t 12) (t 13) (t 14) (t 15) (t 16) (t 17) (t 18) (t 19) (t 20) (t 21) (t 22) (t 23) x y) := by
  have k : ∀ z : Int, (!(z == 0)) = true → z ≠ 0 := fun z h e => by subst e; exact absurd h (by decide)
  unfold sAt_o
  repeat' first
    | exact trivial
    | refine ⟨fun _ h => k _ h, ?_⟩
    | refine ⟨fun _ _ h => k _ h, ?_⟩

theorem b3_eq : B3 = .block (idOf B3) (.seq R9 (cr (cl B3))) := by kernel_rfl
theorem e3_eq : cr (cl B3) = .seq (.region (idOf R10) O10 false) (.cond (.tmp 62) .ret .skip) := by kernel_rfl
noncomputable def o8 : Oper := (O10.toList.drop 8).headD ⟨none, .box 0 (.tmp 0), 0, "", #[], none⟩
theorem o8_eq : O10.toList.drop 8 = o8 :: O10.toList.drop 9 := by kernel_rfl
theorem o8_op : o8.op = .call ⟨.value (.tmp 54), #[.tmp 59], #[87]⟩ := by kernel_rfl
theorem o8_dst : o8.dst = some 60 := by kernel_rfl
theorem ra_eq : rfA RF = .region (idOf (rfA RF)) O3 false := by kernel_rfl
theorem rb_eq : rfB RF = .block (idOf (rfB RF)) (.region (idOf (cl (rfB RF))) O4 false) := by kernel_rfl
theorem len8 : (O10.toList.take 8).length = 8 := by kernel_rfl
theorem len3 : O3.toList.length = 2 := by kernel_rfl
theorem len4 : O4.toList.length = 5 := by kernel_rfl

section
variable {w0 : World} {may : Nat → Prop} {k r : Nat} {rec : Loop} (hl : k < w0.heap.size) (hm : ¬ may k) (hrec : RecAt w0 k r rec)
include hl hm hrec

theorem rec_here {φ : Phi} {μ : Mem} {ρ : Hds} {fr : Nat → Prop} {w : World} (h : MR w0 may φ μ ρ fr w) : RecAt w k r rec :=
  { hrec with at_ := (h.block k hl hm).trans hrec.at_ }

variable (t : Nat → Int) (a b c d : Int) (l : List (List Int)) (y x : Int)
set_option maxRecDepth 100000 in
/-- The round: the pixel is put behind the others. -/
theorem round_ok {φ : Phi} {w : World} {v : Value} (hb : ∃ i, φ 2 = some i ∧ i.v = 0 ∧ i.a = some (r, 0)) (hlen : (l.length + 1) * 56 ≤ 70368744177664) (u : Value)
    (hv : (LV.g [.int true .i64 x, .int true .i64 y, .int true .i64 (at0 t x y), .int true .i64 (at1 t x y), .int true .i64 (at2 t x y), .int true .i64 (at3 t x y), .int true .i64 (at4 t x y)]).rel φ v)
    (hM : MR w0 may φ (roM (X1 u t a b c d l y x)) (roHd (X1 u t a b c d l y x)) (fun e => 324 ≤ e) w) {R : Ending → World → Prop}
    (hR : ∀ φ' w', φ.le φ' → MR w0 may φ' (roM (X4 u t a b c d l y x)) (roHd (X4 u t a b c d l y x)) (fun e => 436 ≤ e) w' → R (.returned (.bool true)) w') :
    RoundIn (roF none) 0 Try.prog k rec.fn (rec.tmps.setIfInBounds 10 v) rec.assign rec.body w R := by
  obtain ⟨i, hi, hiv, hia⟩ := hb
  have hw := rec_here hl hm hrec hM
  refine roundIn_of_wpIn (F := roF none) trivial ?_
  rw [hrec.asg, hrec.bod, ra_eq]
  refine wpIn_region_list ?_
  show wpListIn (roF (some k)) 0 Try.prog O3 _ O3.toList _ w
  have ht : TRel φ (sR t y x) (rec.tmps.setIfInBounds 10 v) := by
    intro e lv h
    unfold sR at h
    by_cases e5 : e = 5
    · subst e5
      have h' : lv = .a (.ptr 2 0) := by
        have : some (LV.a (.ptr 2 0)) = some lv := h
        exact (Option.some.inj this).symm
      subst h'
      have e1 : (rec.tmps.setIfInBounds 10 v).getD 5 undef = .pointer (some ⟨r, 0, none⟩) := by
        rw [Array.getD_eq_getD_getElem?, Array.getElem?_setIfInBounds_ne (by decide), ← Array.getD_eq_getD_getElem?]
        exact hrec.t5
      rw [e1]
      exact ⟨⟨rfl, rfl⟩, i, hi, Nat.zero_le _, fun _ => ⟨r, 0, hia, rfl⟩⟩
    · by_cases e10 : e = 10
      · subst e10
        have h' : lv = .g [.int true .i64 x, .int true .i64 y, .int true .i64 (at0 t x y), .int true .i64 (at1 t x y), .int true .i64 (at2 t x y), .int true .i64 (at3 t x y), .int true .i64 (at4 t x y)] := by
          have : some (LV.g [.int true .i64 x, .int true .i64 y, .int true .i64 (at0 t x y), .int true .i64 (at1 t x y), .int true .i64 (at2 t x y), .int true .i64 (at3 t x y), .int true .i64 (at4 t x y)]) = some lv := h
          exact (Option.some.inj this).symm
        subst h'
        have e1 : (rec.tmps.setIfInBounds 10 v).getD 10 undef = v := by
          rw [Array.getD_eq_getD_getElem?]
          simp [hrec.sz]
        rw [e1]; exact hv
      · exfalso
        unfold V.look at h
        rw [show Nat.beq e 5 = false from by cases q : Nat.beq e 5; rfl; exact absurd (Nat.eq_of_beq_eq_true q) e5] at h
        unfold V.look at h
        rw [show Nat.beq e 10 = false from by cases q : Nat.beq e 10; rfl; exact absurd (Nat.eq_of_beq_eq_true q) e10] at h
        cases h
  refine runOps_wp0 tabRa6_ok O3.toList 324 _ _ _ (x3_eq u t a b c d l y x) trivial φ _ w ht (by simp [hrec.sz]) hM fun φ1 a1 w1 p1 p2 p3 p4 p5 => ?_
  rw [len3] at p5
  replace p5 : MR w0 may φ1 (roM (X3 u t a b c d l y x)) (roHd (X3 u t a b c d l y x)) (fun e => 356 ≤ e) w1 := p5.drop fun e (he : 356 ≤ e) => (by omega : 324 + 16 * 2 ≤ e)
  have h1 := rec_here hl hm hrec p5
  refine ⟨_, run_beginRound h1.at_ hrec.st, ?_⟩
  rw [rb_eq]
  refine wpIn_block (wpIn_region_list ?_)
  show wpListIn (roF (some k)) 0 Try.prog O4 _ O4.toList _ _
  have p6 := p5.putO h1.at_ rfl hrec.at_ rfl (o' := .loop { rec with state := .busy }) rfl
  refine runOps_wp0 tabRa6_ok O4.toList 356 _ _ _ (x4_eq u t a b c d l y x) ⟨by rw [List.length_append, List.length_singleton]; exact hlen, trivial⟩ φ1 a1 _ p2 p3 p6 fun φ2 a2 w2 q1 q2 q3 q4 q5 => ?_
  rw [len4] at q5
  replace q5 : MR (w0.putObj k (.loop { rec with state := .busy })) may φ2 (roM (X4 u t a b c d l y x)) (roHd (X4 u t a b c d l y x)) (fun e => 436 ≤ e) w2 := q5.drop fun e (he : 436 ≤ e) => (by omega : 356 + 16 * 5 ≤ e)
  have hlt : k < (w0.putObj k (.loop { rec with state := .busy })).heap.size := by rw [World.putObj_size]; exact hl
  have hbusy : (w0.putObj k (.loop { rec with state := .busy })).heap[k]? = some (.loop { rec with state := .busy }) := World.putObj_heap_same hl
  have h2 : w2.heap[k]? = some (.loop { rec with state := .busy }) := (q5.block k hlt hm).trans hbusy
  refine ⟨_, _, run_endRound none h2, ?_⟩
  have q6 := q5.putO h2 rfl hbusy rfl (o' := .loop rec) rfl
  rw [putO_back hrec.at_] at q6
  have e : ({ ({ rec with state := .busy } : Loop) with state := if (none : Option Code).isNone then .ready else .done, pending := none } : Loop) = rec := by
    have := hrec.st
    have := hrec.pe
    cases rec
    simp_all
  rw [e]
  exact hR φ2 _ (Phi.le_trans p1 q1) q6
end
end Ra

end Go.Proofs.Ytcdejlgophpdjaa
end

section
namespace Go.Proofs.Ytcdejlgophpdjaa
open Go Go.RowKit Go.Proofs.Ytcdejlgophpdjaa.V
set_option linter.unusedVariables false
set_option linter.unusedSectionVars false

namespace Ra
theorem e9_eq (u : Value) (t : Nat → Int) (a b c d : Int) (l : List (List Int)) (y x : Int) :
    ev Try.prog tabRa6 63 lvC [] 2000 false R9 1 (V.look (hd u t a b c d l (yx y x)).tm) (memOf (hd u t a b c d l (yx y x)).bs) (hdsB (hd u t a b c d l (yx y x)).bs) 4 =
      some (sAt_o (t 0) (t 1) (t 2) (t 3) (t 4) (t 5) (t 6) (t 7) (t 8) (t 9) (t 10) (t 11) (t 12) (t 13) (t 14) (t 15) (t 16) (t 17) (t 18) (t 19) (t 20) (t 21) (t 22) (t 23) x y, [⟨.n, false, true, evD (E9 u t a b c d l y x), 196⟩]) := by
  have h := oneN_spec (e9_one u t a b c d l y x)
  rw [e9_obs, n9] at h
  exact h
theorem ef_eq (u : Value) (t : Nat → Int) (a b c d : Int) (l : List (List Int)) (y x : Int) :
    ev Try.prog tabRa6 63 lvC [] 2000 false (cr (cl B3)) 1 (S9 u t a b c d l y x false) (M9 u t a b c d l y x) (H9 u t a b c d l y x) 196 =
      some ([], [⟨.n, false, true, evD (EF u t a b c d l y x), evN (EF u t a b c d l y x)⟩]) := by
  have h := oneN_spec (ef_one u t a b c d l y x)
  rw [ef_obs] at h
  exact h
theorem hd_len (u : Value) (t : Nat → Int) (a b c d : Int) (l : List (List Int)) (m : List (Nat × LV)) : (hd u t a b c d l m).bs.length = 4 := rfl

theorem x1_h2 (u : Value) (t : Nat → Int) (a b c d : Int) (l : List (List Int)) (y x : Int) : roHd (X1 u t a b c d l y x) 2 = some ⟨0, 1, false, none⟩ := by kernel_rfl
theorem o8_want (u : Value) (t : Nat → Int) (a b c d : Int) (l : List (List Int)) (y x : Int) : lwanted (roS (X1 u t a b c d l y x)) O10 o8 = some true := by kernel_rfl
theorem runY {w : World} {a : Act} {k : Nat} {rec : Loop} (h : w.heap[k]? = some (.loop rec)) (hp : rec.params = #[10]) (h54 : a.tmps.getD 54 undef = .func (.yield k) #[] #[]) :
    ((o8.semAt (roF none).round a.eval).run Try.prog w) = .ok (.round k rec.fn (rec.tmps.setIfInBounds 10 (a.tmps.getD 59 undef)) rec.assign rec.body) w := by
  have e54 : a.eval (.tmp 54) = .func (.yield k) #[] #[] := h54
  have e59 : a.eval (.tmp 59) = a.tmps.getD 59 undef := rfl
  have hs : o8.semAt (roF none).round a.eval = execOp a.eval o8 := rfl
  have hy := run_yield (P := Try.prog) (args := #[a.tmps.getD 59 undef]) h (by rw [hp]; rfl)
  rw [hs]
  simp only [execOp, o8_op, resolve, e54, e59, Deferred.ofValue, invoke, Sem.run_bind, Array.empty_append, List.map_toArray, List.map_cons, List.map_nil]
  simp [hp] at hy
  simp [hy]

set_option maxRecDepth 100000 in
/-- One pixel: the function at its point; the round, if it is of the triangle. -/
theorem blk3 {w0 : World} {may : Nat → Prop} {k r : Nat} {rec : Loop} (hl : k < w0.heap.size) (hm : ¬ may k) (hrec : RecAt w0 k r rec) (t : Nat → Int) (a b c d : Int) (l : List (List Int)) (y x : Int) {φ : Phi} {act : Act} {w : World}
    (hr : HR 63 lvC w0 may φ (hd (.func (.yield k) #[] #[]) t a b c d l (yx y x)) act w) (hb : ∃ i, φ 2 = some i ∧ i.a = some (r, 0)) (hlen : (l.length + 1) * 56 ≤ 70368744177664) {Q : Exit → Act → World → Prop}
    (hQ : ∀ a' w' χ, Kp [3] φ χ → HR 63 lvC w0 may χ (hd (.func (.yield k) #[] #[]) t a b c d (bif at5 t x y then l ++ [row t x y] else l) (yx y x)) a' w' → Q .normal a' w') : B3.wp Try.prog Q act w := by
  generalize hu : Value.func (.yield k) #[] #[] = u at hr hQ
  rw [b3_eq]
  refine wp_block (wp_seq ?_)
  have key := ev_wp tabRa6_ok follows 2000 false R9 1 _ _ _ _ (e9_eq u t a b c d l y x) (LOK_nil _ _) (at_obs t x y) w0 may φ act w hr.sr (Exit.then ((cr (cl B3)).wp Try.prog (Exit.inBlock (idOf B3) Q)) (Exit.inBlock (idOf B3) Q)) fun e a1 w1 hg => by
    obtain ⟨⟨α, hα, hx, -, ψ, hle, s1⟩, -⟩ := hg
    rw [List.mem_singleton] at hα
    subst hα
    subst hx
    show (cr (cl B3)).wp Try.prog (Exit.inBlock (idOf B3) Q) a1 w1
    obtain ⟨s2, hv⟩ := sr_mark s1 (s9_8 u t a b c d l y x) rfl
    cases hq : at5 t x y with
    | false =>
      rw [hq] at s2 hQ
      have key2 := ev_wp tabRa6_ok follows 2000 false (cr (cl B3)) 1 _ _ _ _ (ef_eq u t a b c d l y x) (LOK_nil _ _) trivial w0 may ψ a1 w1 s2 (Exit.inBlock (idOf B3) Q) fun e a2 w2 hg => by
        obtain ⟨⟨α, hα, hx, -, ψ2, hle2, s3⟩, -⟩ := hg
        rw [List.mem_singleton] at hα
        subst hα
        subst hx
        obtain ⟨χ, c1, c2⟩ := fin_hr (G := [3]) (ts := [0, 1, 2, 4, 5]) hr (Phi.le_trans hle hle2) s3 (ef_rs u t a b c d l y x) (ef_ver u t a b c d l y x)
        exact hQ a2 w2 χ c2 c1
      simpa using key2
    | true =>
      rw [hq] at s2 hQ
      rw [e3_eq]
      refine wp_seq ((wpIn_wide (n := 1)).1 (wpIn_region_list ?_))
      show wpListIn (roF none) 1 Try.prog O10 _ O10.toList a1 w1
      have hsplit : O10.toList = O10.toList.take 8 ++ (o8 :: O10.toList.drop 9) := by
        rw [← o8_eq]; exact (List.take_append_drop 8 _).symm
      rw [hsplit]
      refine runOps_wp tabRa6_ok (O10.toList.take 8) 196 _ _ _ (x1_eq u t a b c d l y x) trivial ψ a1 w1 s2.tr s2.sz s2.mr fun φ2 a2 w2 k1 k2 k3 k4 k5 => ?_
      rw [len8] at k5
      replace k5 : MR w0 may φ2 (roM (X1 u t a b c d l y x)) (roHd (X1 u t a b c d l y x)) (fun e => 324 ≤ e) w2 := k5.drop fun e (he : 324 ≤ e) => (by omega : 196 + 16 * 8 ≤ e)
      have hb2 : ∃ i, φ2 2 = some i ∧ i.v = 0 ∧ i.a = some (r, 0) := by
        obtain ⟨i, hi, hia⟩ := hb
        obtain ⟨j, hj, hle2⟩ := (Phi.le_trans hle k1) 2 i hi
        obtain ⟨g1, g2, g3, g4, -⟩ := k5.hdr 2 ⟨0, 1, false, none⟩ (x1_h2 u t a b c d l y x)
        rw [hj] at g2
        simp only [Option.some.injEq] at g2
        subst g2
        have hv0 : j.v = 0 := g3
        rcases hle2 with rfl | hlt
        · exact ⟨i, hj, hv0, hia⟩
        · omega
      have hw := rec_here hl hm hrec k5
      have v54 : a2.tmps.getD 54 undef = .func (.yield k) #[] #[] := by
        have := k2 54 _ (x1_54 u t a b c d l y x)
        have h' : (a2.tmps.getD 54 undef).oneCell' = true ∧ (a2.tmps.getD 54 undef).cells = #[a2.tmps.getD 54 undef] := this.1
        have h'' : a2.tmps.getD 54 undef = u := this.2
        rw [h'', hu]
      have v59 := k2 59 _ (x1_59 u t a b c d l y x)
      unfold wpListIn
      rw [lwanted_spec (o8_want u t a b c d l y x) k2]
      simp only [if_true]
      refine ⟨fun _ _ => trivial, ?_⟩
      rw [runY hw.at_ hrec.ps v54]
      refine ⟨fun h => by simp [roF, Fence.wide] at h, ?_⟩
      refine round_ok hl hm hrec t a b c d l y x hb2 hlen u v59 k5 fun φ3 w3 p1 p2 => ?_
      show wpListIn (roF none) 1 Try.prog O10 _ (O10.toList.drop 9) (a2.put o8.dst (.bool true)) w3
      rw [o8_dst]
      obtain ⟨z1, z2, z3⟩ := put_rel (a := a2) (TRel.mono p1 k2) k3 (dst := some 60) (v := .a (.bool false true)) (x := .bool true) rfl rfl
      refine runOps_wp0 tabRa6_ok (O10.toList.drop 9) 436 _ _ _ (x5_eq u t a b c d l y x) trivial φ3 _ w3 z1 z2 p2 fun φ4 a4 w4 q1 q2 q3 q4 q5 => ?_
      have e62 : a4.eval (.tmp 62) = .bool false := q2 62 (.a (.bool false false)) (x5_62 u t a b c d l y x)
      refine wp_cond_false e62 (wp_skip ?_)
      have hdf : a4.defers = [] := q4.trans (z3.trans (k4.trans s2.df))
      have s5 : SR 63 lvC w0 may φ4 (roS (X5 u t a b c d l y x)) (roM (X5 u t a b c d l y x)) (roHd (X5 u t a b c d l y x)) (436 + 16 * (O10.toList.drop 9).length) a4 w4 := by
          refine ⟨fun e lv h => ?_, q3, hdf, q5⟩
          unfold filt at h
          split at h
          · exact q2 e lv h
          · cases h
      obtain ⟨χ, c1, c2⟩ := fin_hr (G := [3]) (ts := [0, 1, 2, 4, 5]) hr (Phi.le_trans hle (Phi.le_trans k1 (Phi.le_trans p1 q1))) s5 (x5_rs u t a b c d l y x) (x5_ver u t a b c d l y x)
      exact hQ a4 w4 χ c2 c1
  simpa using key
end Ra

end Go.Proofs.Ytcdejlgophpdjaa
end

section
namespace Go.Proofs.Ytcdejlgophpdjaa
open Go Go.RowKit Go.Proofs.Ytcdejlgophpdjaa.V
set_option linter.unusedVariables false
set_option linter.unusedSectionVars false

namespace Ra
/-- A row's pixels, so many from one on. -/
def rowX (t : Nat → Int) (y : Int) : Nat → Int → List (List Int) → List (List Int)
  | 0, _, l => l
  | n + 1, x, l => rowX t y n (x + 1) (bif at5 t x y then l ++ [row t x y] else l)
/-- So many rows from one on. -/
def rowsY (t : Nat → Int) (m : Nat) (a : Int) : Nat → Int → List (List Int) → List (List Int)
  | 0, _, l => l
  | n + 1, y, l => rowsY t m a n (y + 1) (rowX t y m a l)
theorem rowX_len (t : Nat → Int) (y : Int) : ∀ (n : Nat) (x : Int) (l : List (List Int)), (rowX t y n x l).length ≤ l.length + n
  | 0, _, l => Nat.le_refl _
  | n + 1, x, l => by
    unfold rowX
    have := rowX_len t y n (x + 1) (bif at5 t x y then l ++ [row t x y] else l)
    cases h : at5 t x y with
    | false => rw [h] at this; simp only [cond_false] at this ⊢; omega
    | true => rw [h] at this; simp only [cond_true, List.length_append, List.length_singleton] at this ⊢; omega

theorem all_wp {w0 : World} {may : Nat → Prop} {φ : Phi} {act : Act} {w : World} {ts : List Nat} {c : Code} {h : HS} {obs : List Prop} {l : List (X × Bool × HS)} (e : bodyF Try.prog tabRa6 63 lvC ts [] 2000 [1] [3] c 1 h = some (obs, l)) (ho : Alls obs)
    (hr : HR 63 lvC w0 may φ h act w) {Q : Exit → Act → World → Prop} (H : ∀ q ∈ l, q.2.1 = true → ∀ a' w' χ, Kp [3] φ χ → HR 63 lvC w0 may χ q.2.2 a' w' → Q q.1.real a' w') : c.wp Try.prog Q act w :=
  body_wp tabRa6_ok follows e (LOK_nil _ _) ho hr fun x a' w' q hq hg hx hall => by
    obtain ⟨_, χ, k1, k2, _⟩ := hall q hq hg
    rw [← hx]
    exact H q hq hg a' w' χ k1 k2

theorem kp2 {φ χ : Phi} {r : Nat} (h : Kp [3] φ χ) (hb : ∃ i, φ 2 = some i ∧ i.a = some (r, 0)) : ∃ i, χ 2 = some i ∧ i.a = some (r, 0) := by
  obtain ⟨i, h1, h2⟩ := hb
  obtain ⟨j, k1, -, k3⟩ := h 2 i h1
  exact ⟨j, k1, by rw [k3 rfl]; exact h2⟩

theorem li_eq : LI = .seq (cl LI) (.seq B3 (cr (cr LI))) := by kernel_rfl
theorem b2_eq : B2 = .block 2 (.loop LI) := by kernel_rfl
theorem b1_eq : B1 = .block 1 (.seq (cl (cl B1)) B2) := by kernel_rfl
theorem lb_eq : LB = .seq (cl LB) (.seq B1 (cr (cr LB))) := by kernel_rfl
theorem b0_eq : B0 = .block 0 (.loop LB) := by kernel_rfl
theorem c_eq : cC = .seq (cl cC) (.seq (cl (cr cC)) (.seq (cl (cr (cr cC))) (.seq (cl (cr (cr (cr cC)))) B0))) := by kernel_rfl

section
variable (u : Value) (t : Nat → Int) (a b c d : Int) (l : List (List Int)) (y x : Int)
theorem p_in : bodyF Try.prog tabRa6 63 lvC [0, 1, 2, 4, 5] [] 2000 [1] [3] (cl LI) 1 (hd u t a b c d l (yx y x)) = some ([], [(.n, decide (x < c), hd u t a b c d l (yx y x)), (.e 2, !decide (x < c), hd u t a b c d l (yx y x))]) := by kernel_rfl
theorem p_r8 : bodyF Try.prog tabRa6 63 lvC [0, 1, 2, 4, 5] [] 2000 [1] [3] (cr (cr LI)) 1 (hd u t a b c d l (yx y x)) = some ([], [(.n, true, hd u t a b c d l (yx y (IntKind.wrap .i64 (x + 1))))]) := by kernel_rfl
theorem p_out : bodyF Try.prog tabRa6 63 lvC [0, 1, 2, 4] [] 2000 [1] [3] (cl LB) 1 (hd u t a b c d l [(4, .a (.int true .i64 y))]) = some ([], [(.n, decide (y < d), hd u t a b c d l [(4, .a (.int true .i64 y))]), (.e 0, !decide (y < d), hd u t a b c d l [(4, .a (.int true .i64 y))])]) := by kernel_rfl
theorem p_r6 : bodyF Try.prog tabRa6 63 lvC [0, 1, 2, 4, 5] [] 2000 [1] [3] (cl (cl B1)) 1 (hd u t a b c d l [(4, .a (.int true .i64 y))]) = some ([], [(.n, true, hd u t a b c d l (yx y a))]) := by kernel_rfl
theorem p_r5 : bodyF Try.prog tabRa6 63 lvC [0, 1, 2, 4] [] 2000 [1] [3] (cr (cr LB)) 1 (hd u t a b c d l (yx y x)) = some ([], [(.n, true, hd u t a b c d l [(4, .a (.int true .i64 (IntKind.wrap .i64 (y + 1))))])]) := by kernel_rfl
theorem p_ck : bodyF Try.prog tabRa6 63 lvC [0, 1, 2] [] 2000 [1] [3] (cl cC) 1 (hd u t a b c d l []) = some ([], [(.r, ck t != 0, hd u t a b c d l []), (.n, !(ck t != 0), hd u t a b c d l [])]) := by kernel_rfl
theorem p_r1 : bodyF Try.prog tabRa6 63 lvC [0, 1, 2] [] 2000 [1] [3] (cl (cr cC)) 1 (hd u t a b c d l []) = some ([], [(.n, true, hd u t (if a < 0 then 0 else a) (if b < 0 then 0 else b) c d l [])]) := by kernel_rfl
theorem p_r2 : bodyF Try.prog tabRa6 63 lvC [0, 1, 2] [] 2000 [1] [3] (cl (cr (cr cC))) 1 (hd u t a b c d l []) = some ([], [(.n, true, hd u t a b (if 64 < c then 64 else c) (if 64 < d then 64 else d) l [])]) := by kernel_rfl
theorem p_r3 : bodyF Try.prog tabRa6 63 lvC [0, 1, 2, 4] [] 2000 [1] [3] (cl (cr (cr (cr cC)))) 1 (hd u t a b c d l []) = some ([], [(.n, true, hd u t a b c d l [(4, .a (.int true .i64 b))])]) := by kernel_rfl
end

section
variable {w0 : World} {may : Nat → Prop} {k r : Nat} {rec : Loop} (hl : k < w0.heap.size) (hm : ¬ may k) (hrec : RecAt w0 k r rec) (t : Nat → Int) (a b c d : Int)
include hl hm hrec

set_option maxRecDepth 100000 in
theorem inner (hc : c ≤ 64) (y : Int) : ∀ (n : Nat) (x : Int) (l : List (List Int)) (φ : Phi) (act : Act) (w : World), 0 ≤ x → (c - x).toNat = n → (l.length + n) * 56 ≤ 70368744177664 →
    HR 63 lvC w0 may φ (hd (.func (.yield k) #[] #[]) t a b c d l (yx y x)) act w → (∃ i, φ 2 = some i ∧ i.a = some (r, 0)) → ∀ (F : Nat), n < F → ∀ {Q : Exit → Act → World → Prop},
    (∀ a' w' χ x', Kp [3] φ χ → HR 63 lvC w0 may χ (hd (.func (.yield k) #[] #[]) t a b c d (rowX t y n x l) (yx y x')) a' w' → Q (.exit 2) a' w') → Code.rounds Try.prog LI Q F act w
  | n, x, l, φ, act, w, hx, hn, hlen, hr, hb, 0, hF, Q, hQ => by omega
  | n, x, l, φ, act, w, hx, hn, hlen, hr, hb, F + 1, hF, Q, hQ => by
    rw [rounds_succ]
    have step : LI.wp Try.prog (Exit.then (Code.rounds Try.prog LI Q F) Q) act w := by
      rw [li_eq]
      refine wp_seq (all_wp (p_in _ t a b c d l y x) trivial hr fun q hq hg a1 w1 χ k1 hr1 => ?_)
      rcases List.mem_cons.1 hq with rfl | hq
      · have hxc : x < c := of_decide_eq_true hg
        obtain ⟨m, rfl⟩ : ∃ m, n = m + 1 := ⟨n - 1, by omega⟩
        show (Code.seq B3 (cr (cr LI))).wp Try.prog (Exit.then (Code.rounds Try.prog LI Q F) Q) a1 w1
        have hlen' : (l.length + 1) * 56 ≤ 70368744177664 := Nat.le_trans (Nat.mul_le_mul_right _ (by omega)) hlen
        refine wp_seq (blk3 hl hm hrec t a b c d l y x hr1 (kp2 k1 hb) hlen' fun a2 w2 χ2 k2 hr2 => ?_)
        show (cr (cr LI)).wp Try.prog (Exit.then (Code.rounds Try.prog LI Q F) Q) a2 w2
        refine all_wp (p_r8 _ t a b c d _ y x) trivial hr2 fun q hq hg a3 w3 χ3 k3 hr3 => ?_
        rw [List.mem_singleton] at hq
        subst hq
        rw [w64_in (n := x + 1) (by omega) (by omega)] at hr3
        show Code.rounds Try.prog LI Q F a3 w3
        refine inner hc y m (x + 1) _ χ3 a3 w3 (by omega) (by omega) ?_ hr3 (kp2 k3 (kp2 k2 (kp2 k1 hb))) F (by omega) fun a4 w4 χ4 x' k4 hr4 => hQ a4 w4 χ4 x' (((k1.trans k2).trans k3).trans k4) hr4
        refine Nat.le_trans (Nat.mul_le_mul_right _ ?_) hlen
        cases at5 t x y
        · simp only [cond_false]; omega
        · simp only [cond_true, List.length_append, List.length_singleton]; omega
      · rw [List.mem_singleton] at hq
        subst hq
        have hxc : ¬ x < c := by
          have h' : (!decide (x < c)) = true := hg
          intro h
          rw [decide_eq_true h] at h'
          cases h'
        obtain rfl : n = 0 := by omega
        exact hQ a1 w1 χ x k1 hr1
    simpa using step

set_option maxRecDepth 100000 in
theorem outer (hc : c ≤ 64) (hd' : d ≤ 64) (ha : 0 ≤ a) (m : Nat) (hm' : m = (c - a).toNat) : ∀ (n : Nat) (y : Int) (l : List (List Int)) (φ : Phi) (act : Act) (w : World), 0 ≤ y → (d - y).toNat = n → (l.length + n * m) * 56 ≤ 70368744177664 →
    HR 63 lvC w0 may φ (hd (.func (.yield k) #[] #[]) t a b c d l [(4, .a (.int true .i64 y))]) act w → (∃ i, φ 2 = some i ∧ i.a = some (r, 0)) → ∀ (F : Nat), n < F → ∀ {Q : Exit → Act → World → Prop},
    (∀ a' w' χ y', Kp [3] φ χ → HR 63 lvC w0 may χ (hd (.func (.yield k) #[] #[]) t a b c d (rowsY t m a n y l) [(4, .a (.int true .i64 y'))]) a' w' → Q (.exit 0) a' w') → Code.rounds Try.prog LB Q F act w
  | n, y, l, φ, act, w, hy, hn, hlen, hr, hb, 0, hF, Q, hQ => by omega
  | n, y, l, φ, act, w, hy, hn, hlen, hr, hb, F + 1, hF, Q, hQ => by
    rw [rounds_succ]
    have step : LB.wp Try.prog (Exit.then (Code.rounds Try.prog LB Q F) Q) act w := by
      rw [lb_eq]
      refine wp_seq (all_wp (p_out _ t a b c d l y) trivial hr fun q hq hg a1 w1 χ k1 hr1 => ?_)
      rcases List.mem_cons.1 hq with rfl | hq
      · have hyd : y < d := of_decide_eq_true hg
        obtain ⟨n', rfl⟩ : ∃ n', n = n' + 1 := ⟨n - 1, by omega⟩
        show (Code.seq B1 (cr (cr LB))).wp Try.prog (Exit.then (Code.rounds Try.prog LB Q F) Q) a1 w1
        refine wp_seq ?_
        rw [b1_eq]
        refine wp_block (wp_seq (all_wp (p_r6 _ t a b c d l y) trivial hr1 fun q hq hg a2 w2 χ2 k2 hr2 => ?_))
        rw [List.mem_singleton] at hq
        subst hq
        have hlen1 : (l.length + m) * 56 ≤ 70368744177664 := Nat.le_trans (Nat.mul_le_mul_right _ (by rw [Nat.succ_mul]; omega)) hlen
        show B2.wp Try.prog _ a2 w2
        rw [b2_eq]
        refine wp_block (wp_loop_rounds (m + 1) ?_)
        refine inner hl hm hrec t a b c d hc y m a l χ2 a2 w2 ha hm'.symm hlen1 hr2 (kp2 k2 (kp2 k1 hb)) (m + 1) (by omega) fun a3 w3 χ3 x' k3 hr3 => ?_
        have next : (cr (cr LB)).wp Try.prog (Exit.then (Code.rounds Try.prog LB Q F) Q) a3 w3 := by
          refine all_wp (p_r5 _ t a b c d _ y x') trivial hr3 fun q hq hg a4 w4 χ4 k4 hr4 => ?_
          rw [List.mem_singleton] at hq
          subst hq
          rw [w64_in (n := y + 1) (by omega) (by omega)] at hr4
          show Code.rounds Try.prog LB Q F a4 w4
          have hl2 := rowX_len t y m a l
          refine outer hc hd' ha m hm' n' (y + 1) _ χ4 a4 w4 (by omega) (by omega) ?_ hr4 (kp2 k4 (kp2 k3 (kp2 k2 (kp2 k1 hb)))) F (by omega) fun a5 w5 χ5 y' k5 hr5 => hQ a5 w5 χ5 y' ((((k1.trans k2).trans k3).trans k4).trans k5) hr5
          refine Nat.le_trans (Nat.mul_le_mul_right _ ?_) hlen
          rw [Nat.succ_mul]
          omega
        simpa [Exit.inBlock, Exit.then] using next
      · rw [List.mem_singleton] at hq
        subst hq
        have hyd : ¬ y < d := by
          have h' : (!decide (y < d)) = true := hg
          intro h
          rw [decide_eq_true h] at h'
          cases h'
        obtain rfl : n = 0 := by omega
        exact hQ a1 w1 χ y k1 hr1
    simpa using step
end

/-- Least and greatest. -/
def lo (a : Int) : Int := if a < 0 then 0 else a
def up (c : Int) : Int := if 64 < c then 64 else c
/-- A triangle's pixels in a box, row by row. -/
def cells (t : Nat → Int) (a b c d : Int) : List (List Int) := bif ck t != 0 then [] else rowsY t (up c - lo a).toNat (lo a) (up d - lo b).toNat (lo b) []

theorem cells_wp {w0 : World} {may : Nat → Prop} {k r : Nat} {rec : Loop} (hl : k < w0.heap.size) (hm : ¬ may k) (hrec : RecAt w0 k r rec) (t : Nat → Int) (a b c d : Int) {φ : Phi} {act : Act} {w : World}
    (hr : HR 63 lvC w0 may φ (hd (.func (.yield k) #[] #[]) t a b c d [] []) act w) (hb : ∃ i, φ 2 = some i ∧ i.a = some (r, 0)) {Q : Exit → Act → World → Prop}
    (hQ : ∀ a' w' χ e0 e1 e2 e3 m, Kp [3] φ χ → HR 63 lvC w0 may χ (hd (.func (.yield k) #[] #[]) t e0 e1 e2 e3 (cells t a b c d) m) a' w' → Q .normal a' w' ∧ Q .ret a' w') : cC.wp Try.prog Q act w := by
  rw [c_eq]
  refine wp_seq (all_wp (p_ck _ t a b c d []) trivial hr fun q hq hg a1 w1 χ k1 hr1 => ?_)
  rcases List.mem_cons.1 hq with rfl | hq
  · have hg' : (ck t != 0) = true := hg
    refine (hQ a1 w1 χ a b c d [] k1 ?_).2
    unfold cells
    rw [hg']
    exact hr1
  · rw [List.mem_singleton] at hq
    subst hq
    have hg' : (ck t != 0) = false := by
      have h' : (!(ck t != 0)) = true := hg
      cases h : ck t != 0 with
      | false => rfl
      | true => rw [h] at h'; cases h'
    show (Code.seq (cl (cr cC)) _).wp Try.prog Q a1 w1
    refine wp_seq (all_wp (p_r1 _ t a b c d []) trivial hr1 fun q hq hg a2 w2 χ2 k2 hr2 => ?_)
    rw [List.mem_singleton] at hq
    subst hq
    show (Code.seq (cl (cr (cr cC))) _).wp Try.prog Q a2 w2
    refine wp_seq (all_wp (p_r2 _ t _ _ c d []) trivial hr2 fun q hq hg a3 w3 χ3 k3 hr3 => ?_)
    rw [List.mem_singleton] at hq
    subst hq
    show (Code.seq (cl (cr (cr (cr cC)))) B0).wp Try.prog Q a3 w3
    refine wp_seq (all_wp (p_r3 _ t _ _ _ _ []) trivial hr3 fun q hq hg a4 w4 χ4 k4 hr4 => ?_)
    rw [List.mem_singleton] at hq
    subst hq
    show B0.wp Try.prog Q a4 w4
    rw [b0_eq]
    have l1 : 0 ≤ lo a := by unfold lo; split <;> omega
    have l2 : 0 ≤ lo b := by unfold lo; split <;> omega
    have u1 : up c ≤ 64 := by unfold up; split <;> omega
    have u2 : up d ≤ 64 := by unfold up; split <;> omega
    refine wp_block (wp_loop_rounds ((up d - lo b).toNat + 1) ?_)
    have hlen : (([] : List (List Int)).length + (up d - lo b).toNat * (up c - lo a).toNat) * 56 ≤ 70368744177664 := by
      have h1 : (up d - lo b).toNat ≤ 64 := by omega
      have h2 : (up c - lo a).toNat ≤ 64 := by omega
      have := Nat.mul_le_mul h1 h2
      simp only [List.length_nil]
      omega
    refine outer hl hm hrec t (lo a) (lo b) (up c) (up d) u1 u2 l1 _ rfl _ (lo b) [] χ4 a4 w4 l2 rfl hlen hr4 (kp2 k4 (kp2 k3 (kp2 k2 (kp2 k1 hb)))) _ (Nat.lt_succ_self _) fun a5 w5 χ5 y' k5 hr5 => ?_
    have := (hQ a5 w5 χ5 _ _ _ _ _ ((((k1.trans k2).trans k3).trans k4).trans k5) (by unfold cells; rw [hg']; exact hr5)).1
    simpa [Exit.inBlock] using this
end Ra

end Go.Proofs.Ytcdejlgophpdjaa
end

section
namespace Go.Proofs.Ytcdejlgophpdjaa
open Go Go.RowKit Go.Proofs.Ytcdejlgophpdjaa.V
set_option linter.unusedVariables false
set_option linter.unusedSectionVars false

namespace Ra
def lvL : List Nat := [0, 1, 2, 3, 4, 5, 9]
def trG (t : Nat → Int) : LV := .g [.int true .i64 (t 0), .int true .i64 (t 1), .int true .i64 (t 2), .int true .i64 (t 3), .int true .i64 (t 4), .int true .i64 (t 5), .int true .i64 (t 6), .int true .i64 (t 7), .int true .i64 (t 8), .int true .i64 (t 9), .int true .i64 (t 10), .int true .i64 (t 11), .int true .i64 (t 12), .int true .i64 (t 13), .int true .i64 (t 14), .int true .i64 (t 15), .int true .i64 (t 16), .int true .i64 (t 17), .int true .i64 (t 18), .int true .i64 (t 19), .int true .i64 (t 20), .int true .i64 (t 21), .int true .i64 (t 22), .int true .i64 (t 23)]
def bxG (a b c d : Int) : LV := .g [.int true .i64 a, .int true .i64 b, .int true .i64 c, .int true .i64 d]
def oN : BC := ⟨⟨0, 1, false, none⟩, [some .nils]⟩
noncomputable def L0 : Code := cl cL
noncomputable def L1 : Code := cl (cr cL)
noncomputable def L2 : Code := cl (cl (cr (cr cL)))
noncomputable def L5 : Code := cl (cr (cr (cr cL)))
theorem cl_eq : cL = .seq L0 (.seq L1 (.seq (.seq L2 (.block 0 (.rangeFunc (.tmp 9) #[10] (rfA RF) (rfB RF)))) (.seq (.region (idOf L5) (opsOf L5) false) .ret))) := by kernel_rfl

section
variable (t : Nat → Int) (a b c d : Int) (l : List (List Int))
noncomputable def Y0 : Outs := ev Try.prog tabRa6 16 lvL [] 2000 false L0 1 (V.look [(0, trG t), (1, bxG a b c d)]) (fun _ => none) (fun _ => none) 0
theorem y0_one : oneN (Y0 t a b c d) = true := by kernel_rfl
theorem y0_obs : evO (Y0 t a b c d) = [] := by kernel_rfl
theorem y0_n : evN (Y0 t a b c d) = 48 := by kernel_rfl
noncomputable def S0 : Sig := over (evD (Y0 t a b c d)).tm (V.look [(0, trG t), (1, bxG a b c d)])
noncomputable def M0 : Mem := over (evD (Y0 t a b c d)).mem (fun _ => none)
noncomputable def H0 : Hds := over (evD (Y0 t a b c d)).hs (fun _ => none)
noncomputable def Y1 : Outs := ev Try.prog tabRa6 16 lvL [] 2000 false L1 1 (S0 t a b c d) (M0 t a b c d) (H0 t a b c d) 48
theorem y1_one : oneN (Y1 t a b c d) = true := by kernel_rfl
theorem y1_obs : evO (Y1 t a b c d) = [] := by kernel_rfl
theorem y1_n : evN (Y1 t a b c d) = 64 := by kernel_rfl
noncomputable def S1 : Sig := over (evD (Y1 t a b c d)).tm (S0 t a b c d)
noncomputable def M1 : Mem := over (evD (Y1 t a b c d)).mem (M0 t a b c d)
noncomputable def H1 : Hds := over (evD (Y1 t a b c d)).hs (H0 t a b c d)
noncomputable def Y2 : Outs := ev Try.prog tabRa6 16 lvL [] 2000 false L2 1 (S1 t a b c d) (M1 t a b c d) (H1 t a b c d) 64
theorem y2_one : oneN (Y2 t a b c d) = true := by kernel_rfl
theorem y2_obs : evO (Y2 t a b c d) = [] := by kernel_rfl
theorem y2_n : evN (Y2 t a b c d) = 112 := by kernel_rfl
noncomputable def S2 : Sig := over (evD (Y2 t a b c d)).tm (S1 t a b c d)
noncomputable def M2 : Mem := over (evD (Y2 t a b c d)).mem (M1 t a b c d)
noncomputable def H2 : Hds := over (evD (Y2 t a b c d)).hs (H1 t a b c d)
theorem s2_9 : filt lvL (S2 t a b c d) 9 = some (.a (.fn 108 [(96, 0), (97, 0)])) := by kernel_rfl
theorem s2_5 : filt lvL (S2 t a b c d) 5 = some (.a (.ptr 48 0)) := by kernel_rfl
theorem h2_48 : H2 t a b c d 48 = some ⟨0, 1, false, none⟩ := by kernel_rfl
theorem blks : blksOf (M2 t a b c d) (H2 t a b c d) [96, 97, 48] [96, 97, 48] = some [tB t, bB a b c d, oN] := by kernel_rfl
theorem ren96 : renB (H2 t a b c d) [96, 97, 48] 96 0 = some 0 := by kernel_rfl
theorem ren97 : renB (H2 t a b c d) [96, 97, 48] 97 0 = some 1 := by kernel_rfl
theorem ren48 : renB (H2 t a b c d) [96, 97, 48] 48 0 = some 2 := by kernel_rfl
def bsF (e0 e1 e2 e3 : Int) : List BC := [tB t, bB e0 e1 e2 e3, oB, rB l]
noncomputable def X7 (e0 e1 e2 e3 : Int) : Option (List Prop × Sig × Mem × Hds) := runOps Try.prog tabRa6 16 (opsOf L5) (opsOf L5).toList 4 (V.look [(5, .a (.ptr 2 0))]) (memOf (bsF t l e0 e1 e2 e3)) (hdsB (bsF t l e0 e1 e2 e3))
theorem x7_some (e0 e1 e2 e3 : Int) : (X7 t l e0 e1 e2 e3).isSome = true := by kernel_rfl
theorem x7_obs (e0 e1 e2 e3 : Int) : roO (X7 t l e0 e1 e2 e3) = [] := by kernel_rfl
theorem x7_eq (e0 e1 e2 e3 : Int) : runOps Try.prog tabRa6 16 (opsOf L5) (opsOf L5).toList 4 (V.look [(5, .a (.ptr 2 0))]) (memOf (bsF t l e0 e1 e2 e3)) (hdsB (bsF t l e0 e1 e2 e3)) = some ([], roS (X7 t l e0 e1 e2 e3), roM (X7 t l e0 e1 e2 e3), roHd (X7 t l e0 e1 e2 e3)) := by
  have h := ro_spec (x7_some t l e0 e1 e2 e3)
  rw [x7_obs] at h
  exact h
theorem x7_4 (e0 e1 e2 e3 : Int) : roS (X7 t l e0 e1 e2 e3) 4 = some (.a (.vec 3 0 7)) := by kernel_rfl
theorem x7_h (e0 e1 e2 e3 : Int) : roHd (X7 t l e0 e1 e2 e3) 3 = some ⟨0, 0, false, some ⟨0, sh7, l, none⟩⟩ := by kernel_rfl
end
theorem f108_en : Enters Try.prog 108 := fun args => by kernel_rfl
theorem f45_en : Enters Try.prog 45 := fun args => by kernel_rfl
end Ra

end Go.Proofs.Ytcdejlgophpdjaa
end

section
namespace Go.Proofs.Ytcdejlgophpdjaa
open Go Go.RowKit Go.Proofs.Ytcdejlgophpdjaa.V
set_option linter.unusedVariables false
set_option linter.unusedSectionVars false

namespace V
theorem frozen_allocO {w : World} {o : Obj} (ho : o.isCells = false) (p : Addr) : (w.alloc o).frozen? p = w.frozen? p := by
  simp only [World.frozen?]
  by_cases hk : p.block < w.heap.size
  · rw [Below.heap_alloc _ _ _ hk]
  · have e1 : w.heap[p.block]? = none := by simp; omega
    rw [e1]
    by_cases hk2 : p.block = w.heap.size
    · rw [hk2, World.alloc_heap_new]
      cases o <;> first | rfl | (simp [Obj.isCells] at ho)
    · have e2 : (w.alloc o).heap[p.block]? = none := by
        show (w.heap.push _)[p.block]? = _
        rw [Array.getElem?_push, if_neg (by omega)]; exact e1
      rw [e2]
end V

namespace Ra
section
variable (t : Nat → Int) (a b c d : Int)
def nilI : Inf := ⟨0, none, 0, 0, 0, false⟩
def phi3 (φ : Phi) : Phi := fun e => if e = 3 then some nilI else φ e

theorem mem_lt {bs : List BC} {k : Nat} {x : At} (h : memOf bs k = some x) : k / 65536 < bs.length := by
  unfold memOf at h
  rcases Nat.lt_or_ge (k / 65536) bs.length with h1 | h1
  · exact h1
  · rw [List.getElem?_eq_none h1] at h; cases h
theorem hds_lt {bs : List BC} {e : Nat} {g : Hd} (h : hdsB bs e = some g) : e < bs.length := by
  unfold hdsB at h
  rcases Nat.lt_or_ge e bs.length with h1 | h1
  · exact h1
  · rw [List.getElem?_eq_none h1] at h; cases h

/-- Ahead of the loop: the loop's record and the block for deferred calls are laid; the list is a row of none. -/
theorem start_mr {w w3 : World} {may : Nat → Prop} {φ : Phi} (hM : MR w may φ (memOf [tB t, bB a b c d, oN]) (hdsB [tB t, bB a b c d, oN]) (fun e => 3 ≤ e) w3) {o1 o2 : Obj} (h1 : o1.isCells = false) (h2 : o2.isCells = false) :
    MR ((w3.alloc o1).alloc o2) (fun e => (may e ∨ w.heap.size ≤ e) ∧ e < w3.heap.size) (phi3 φ) (memOf [tB t, bB a b c d, oB, rB []]) (hdsB [tB t, bB a b c d, oB, rB []]) (fun e => 4 ≤ e) ((w3.alloc o1).alloc o2) := by
  have n3 : φ 3 = none := hM.dom 3 (Nat.le_refl 3)
  have hle : φ.le (phi3 φ) := fun e i hi => ⟨i, by
    unfold phi3
    by_cases h : e = 3
    · subst h; rw [n3] at hi; cases hi
    · rw [if_neg h]; exact hi, .inl rfl⟩
  have old : ∀ {e : Nat}, e ≠ 3 → phi3 φ e = φ e := fun h => by unfold phi3; rw [if_neg h]
  have heap : ∀ {r : Nat}, r < w3.heap.size → ((w3.alloc o1).alloc o2).heap[r]? = w3.heap[r]? := fun h => by
    rw [Below.heap_alloc _ _ _ (by rw [World.size_alloc]; omega), Below.heap_alloc _ _ _ h]
  have lt : ∀ {r : Nat} {o : Obj}, w3.heap[r]? = some o → r < w3.heap.size := fun h => (Array.getElem?_eq_some_iff.1 h).1
  have size : ((w3.alloc o1).alloc o2).heap.size = w3.heap.size + 2 := by rw [World.size_alloc, World.size_alloc]
  have cellT : ∀ {i : Inf} {off : Nat} {x : At}, CellOK (w3.heap[·]?) φ i off x → CellOK (((w3.alloc o1).alloc o2).heap[·]?) (phi3 φ) i off x := fun ⟨e1, e2, r, o, arr, ty, fz, v, e3, e4, e5, e6⟩ =>
    ⟨e1, e2, r, o, arr, ty, fz, v, e3, (heap (lt e4)).trans e4, e5, At.rel_mono hle e6⟩
  have hdT : ∀ {i : Inf} {g : Hd}, HdOK (w3.heap[·]?) i g → HdOK (((w3.alloc o1).alloc o2).heap[·]?) i g := fun ⟨e1, e2, e3, e4⟩ =>
    ⟨e1, e2, e3, fun R hR => ⟨(e4 R hR).1, (e4 R hR).2.1, (e4 R hR).2.2.imp id fun ⟨r, o, arr, ty, fz, f1, f2, f3, f4⟩ => ⟨r, o, arr, ty, fz, f1, (heap (lt f2)).trans f2, f3, f4⟩⟩⟩
  have hd3 : ∀ e, e < 3 → ∃ g, hdsB [tB t, bB a b c d, oN] e = some g ∧ g.ro = false ∧ hdsB [tB t, bB a b c d, oB, rB []] e = some g := fun e he => by
    match e, he with
    | 0, _ => exact ⟨_, rfl, rfl, rfl⟩
    | 1, _ => exact ⟨_, rfl, rfl, rfl⟩
    | 2, _ => exact ⟨_, rfl, rfl, rfl⟩
  have inv : ∀ {e : Nat} {i : Inf}, phi3 φ e = some i → (e = 3 ∧ i = nilI) ∨ (e < 3 ∧ φ e = some i) := fun {e i} h => by
    by_cases h3 : e = 3
    · subst h3
      have : phi3 φ 3 = some nilI := by unfold phi3; rw [if_pos rfl]
      rw [this] at h
      exact .inl ⟨rfl, (Option.some.inj h).symm⟩
    · rw [old h3] at h
      refine .inr ⟨?_, h⟩
      rcases Nat.lt_or_ge e 3 with h4 | h4
      · exact h4
      · rw [hM.dom e h4] at h; cases h
  constructor
  · intro k x hx
    have hk := mem_lt hx
    have hk4 : k / 65536 < 4 := hk
    by_cases e2 : k / 65536 = 2
    · unfold memOf at hx
      rw [e2] at hx
      have hx' : cellOf oB (k % 65536) = some x := hx
      have hm : memOf [tB t, bB a b c d, oN] k = (if k % 65536 = 0 then some .nils else none) := by
        unfold memOf
        rw [e2]
        show cellOf oN (k % 65536) = _
        unfold cellOf oN
        by_cases h0 : k % 65536 = 0
        · rw [h0, if_pos rfl]; rfl
        · rw [if_neg h0]
          obtain ⟨m, hm⟩ : ∃ m, k % 65536 = m + 1 := ⟨k % 65536 - 1, by omega⟩
          rw [hm]; rfl
      by_cases h0 : k % 65536 = 0
      · rw [h0] at hx'
        have hxe : x = .vec 3 0 7 := by
          have : some (At.vec 3 0 7) = some x := hx'
          exact (Option.some.inj this).symm
        subst hxe
        rw [h0, if_pos rfl] at hm
        rcases hM.cell k _ hm with e | ⟨i, e1, e3, e4, r, o, arr, ty, fz, v, e5, e6, e7, e8⟩
        · cases e
        · refine .inr ⟨i, by rw [old (by omega)]; exact e1, e3, e4, r, o, arr, ty, fz, v, e5, (heap (lt e6)).trans e6, e7, ?_⟩
          have hv : v = .slice none 0 0 := e8
          subst hv
          exact ⟨⟨rfl, rfl⟩, nilI, by unfold phi3; rw [if_pos rfl], Nat.le_refl _, fun _ => .inl ⟨rfl, rfl, rfl⟩⟩
      · exfalso
        obtain ⟨m, hm'⟩ : ∃ m, k % 65536 = m + 1 := ⟨k % 65536 - 1, by omega⟩
        rw [hm'] at hx'
        have : (none : Option At) = some x := hx'
        cases this
    · by_cases e3 : k / 65536 = 3
      · exfalso
        unfold memOf at hx
        rw [e3] at hx
        have : cellOf (rB []) (k % 65536) = some x := hx
        have : (none : Option At) = some x := this
        cases this
      · have he : memOf [tB t, bB a b c d, oN] k = some x := by
          unfold memOf at hx ⊢
          rcases (by omega : k / 65536 = 0 ∨ k / 65536 = 1) with h | h <;> rw [h] at hx ⊢ <;> exact hx
        rcases hM.cell k x he with e | ⟨i, e1, e4⟩
        · exact .inl e
        · exact .inr ⟨i, by rw [old e3]; exact e1, cellT e4⟩
  · intro e g hg
    have he : e < 4 := hds_lt hg
    by_cases h3 : e = 3
    · subst h3
      have hg' : g = ⟨0, 0, false, some ⟨0, sh7, [], none⟩⟩ := by
        have : some (⟨0, 0, false, some ⟨0, sh7, [], none⟩⟩ : Hd) = some g := hg
        exact (Option.some.inj this).symm
      subst hg'
      refine ⟨nilI, by unfold phi3; rw [if_pos rfl], rfl, rfl, nofun, fun R hR => ?_⟩
      have : (⟨0, sh7, [], none⟩ : Rw) = R := Option.some.inj hR
      subst this
      exact ⟨rfl, nofun, .inl ⟨rfl, rfl, rfl⟩⟩
    · obtain ⟨g', q1, q2, q3⟩ := hd3 e (by omega)
      rw [q3] at hg
      obtain rfl := Option.some.inj hg
      obtain ⟨i, e1, e2⟩ := hM.hdr e g' q1
      exact ⟨i, by rw [old h3]; exact e1, hdT e2⟩
  · intro k x g hx hne hg
    have he : k / 65536 < 4 := hds_lt hg
    by_cases e3 : k / 65536 = 3
    · exfalso
      unfold memOf at hx
      rw [e3] at hx
      have : (none : Option At) = some x := hx
      cases this
    · obtain ⟨g', q1, q2, q3⟩ := hd3 (k / 65536) (by omega)
      rw [q3] at hg
      obtain rfl := Option.some.inj hg
      have hn : g'.R = none ∧ g'.grows = false := by
        rcases (by omega : k / 65536 = 0 ∨ k / 65536 = 1 ∨ k / 65536 = 2) with h | h | h <;> rw [h] at q1 <;> (obtain rfl := Option.some.inj q1; exact ⟨rfl, rfl⟩)
      exact ⟨hn.2, fun R hR => by rw [hn.1] at hR; cases hR⟩
  · intro e e' i i' r o o' he he' hi hi'
    rcases inv he with ⟨-, rfl⟩ | ⟨_, k1⟩
    · cases hi
    · rcases inv he' with ⟨-, rfl⟩ | ⟨_, k2⟩
      · cases hi'
      · exact hM.inj e e' i i' r o o' k1 k2 hi hi'
  · intro e i r o he hi hro
    rcases inv he with ⟨-, rfl⟩ | ⟨_, k1⟩
    · cases hi
    · obtain ⟨f1, f2, arr, f3, f4⟩ := hM.own e i r o k1 hi hro
      exact ⟨.inl ⟨f1, lt f3⟩, f2, arr, (heap (lt f3)).trans f3, f4⟩
  · intro e i r o he hi hro
    rcases inv he with ⟨-, rfl⟩ | ⟨h3, k1⟩
    · cases hi
    · obtain ⟨g, q1, q2, -⟩ := hd3 e h3
      obtain ⟨i', e1, _, e2, _⟩ := hM.hdr e g q1
      rw [k1] at e1
      obtain rfl := Option.some.inj e1
      rw [e2, q2] at hro
      cases hro
  · intro e he
    have h4 : 4 ≤ e := he
    rw [old (by omega)]
    exact hM.dom e (show 3 ≤ e by omega)
  · intro e i r o he hi
    rcases inv he with ⟨-, rfl⟩ | ⟨_, k1⟩
    · cases hi
    · have := hM.big e i r o k1 hi
      rw [size]; omega
  · rfl
  · rfl
  · rfl
  · exact Nat.le_refl _
  · intro k _ _; rfl
  · intro p; rfl
end
end Ra

end Go.Proofs.Ytcdejlgophpdjaa
end

