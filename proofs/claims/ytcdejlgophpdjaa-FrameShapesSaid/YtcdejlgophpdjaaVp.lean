/-
  Loops: a head's state is a finite thing (temporaries, blocks behind them); a round goes from head to head.
-/
import Derived.Test.YtcdejlgophpdjaaVo
namespace Go.Proofs.Ytcdejlgophpdjaa.V
open Go Go.RowKit

/-- A loop's head: what is known of the temporaries, the blocks behind them (all of version 0). -/
structure HS where
  tm : List (Nat × LV)
  bs : List BC

def hdsB (bs : List BC) : Hds := fun b => match bs[b]? with
  | some c => some c.h
  | none => none

def entT (ρ : Hds) (foot : List Nat) (σ : Sig) : List Nat → List (Nat × LV)
  | [] => []
  | t :: r => match σ t with
    | some v => (t, renV ρ foot v) :: entT ρ foot σ r
    | none => entT ρ foot σ r

def symT : List (Nat × LV) → List (Nat × LV)
  | [] => []
  | (t, v) :: r => (t, symV v) :: symT r

def symH (h : HS) : HS := ⟨symT h.tm, symBs h.bs⟩

def rsH (lv ts : List Nat) (m : Nat) (σ : Sig) (μ : Mem) (ρ : Hds) : Option HS :=
  match blksOf μ ρ (List.range m) (List.range m) with
  | some bs => some ⟨entT ρ (List.range m) (filt lv σ) ts, bs⟩
  | none => none

def verOK (G : List Nat) (ρ : Hds) : Nat → Bool
  | 0 => true
  | i + 1 => match memN i G with
    | true => verOK G ρ i
    | false => match ρ i with
      | some h => match Nat.beq h.v 0 with
        | true => verOK G ρ i
        | false => false
      | none => false

def altsH (lv ts : List Nat) (W G : List Nat) (h : HS) : List Alt → Option (List (X × Bool × HS))
  | [] => some []
  | a :: r => match cleanM W h.bs.length a.d.mem && cleanH W h.bs.length a.d.hs && verOK G (over a.d.hs (hdsB h.bs)) h.bs.length with
    | true => match rsH lv ts h.bs.length (over a.d.tm (look h.tm)) (over a.d.mem (memOf h.bs)) (over a.d.hs (hdsB h.bs)), altsH lv ts W G h r with
      | some h', some l => some ((a.x, a.g, symH h') :: l)
      | _, _ => none
    | false => none

/-- One round. W: the blocks that it writes; G: those among them that may become more. -/
def bodyF (P : Program) (T : Tab) (n : Nat) (lv ts : List Nat) (LT : List (Nat × Sum)) (k : Nat) (W G : List Nat) (c : Code) (p : Nat) (h : HS) : Option (List Prop × List (X × Bool × HS)) :=
  match ev P T n lv LT k false c p (look h.tm) (memOf h.bs) (hdsB h.bs) h.bs.length with
  | some (obs, alts) => match altsH lv ts W G h alts with
    | some l => some (obs, l)
    | none => none
  | none => none

section
variable {P : Program} {T : Tab} {w0 : World} {may : Nat → Prop} {φ : Phi} {σ : Sig} {μ : Mem} {ρ : Hds} {fr : Nat → Prop} {w : World} {a : Act} {n : Nat} {lv ts : List Nat}

theorem hdsB_eq (bs : List BC) : hdsIn bs [] = hdsB bs := by
  funext b
  unfold hdsIn hdsB
  cases bs[b]? <;> simp

theorem entT_look {foot : List Nat} {t : Nat} {x : LV} : ∀ {l : List Nat}, look (entT ρ foot σ l) t = some x → ∃ v, σ t = some v ∧ x = renV ρ foot v
  | [], h => by simp [entT, look] at h
  | s :: r, h => by
    unfold entT at h
    split at h
    · rename_i v hv
      unfold look at h
      split at h
      · rename_i hb
        have := Nat.eq_of_beq_eq_true hb
        subst this
        simp only [Option.some.injEq] at h
        exact ⟨v, hv, h.symm⟩
      · exact entT_look h
    · exact entT_look h

theorem phiC_nil_get {foot : List Nat} {i : Nat} {j' : Inf} (h : phiC φ foot [] i = some j') : ∃ b j, foot[i]? = some b ∧ φ b = some j ∧ j' = ⟨j.ty, j.a, j.z, j.n, 0, j.ro⟩ := by
  obtain ⟨b, j, h1, h2, h3⟩ := phiC_get h
  exact ⟨b, j, h1, h2, by rw [h3]; simp [isKeep]⟩

theorem phiC_nil_mk {foot : List Nat} {i b : Nat} {j : Inf} (h : foot[i]? = some b) (hj : φ b = some j) : phiC φ foot [] i = some ⟨j.ty, j.a, j.z, j.n, 0, j.ro⟩ := by
  rw [phiC_mk h hj]; simp [isKeep]

/-- Blocks under other names, all of version 0; the world of the beginning stays. -/
theorem ren_mr (hM : MR w0 may φ μ ρ fr w) {foot : List Nat} {bs : List BC} (hbs : blksOf μ ρ foot foot = some bs) (hnd : nodupB foot = true) :
    MR w0 may (phiC φ foot []) (memOf bs) (hdsB bs) (fun b => bs.length ≤ b) w := by
  have hc := callee_mr (out := []) hM hbs hnd
  rw [hdsB_eq] at hc
  obtain ⟨hlen, _⟩ := blksOf_get hbs
  refine ⟨hc.cell, hc.hdr, hc.apart, hc.inj, ?_, ?_, hc.dom, hc.big, hM.os, hM.tape, hM.output, hM.size, hM.block, hM.frz⟩
  · intro i j r o hi ha hro
    obtain ⟨b, j1, h1, h2, rfl⟩ := phiC_nil_get hi
    exact hM.own b j1 r o h2 ha hro
  · intro i j r o hi ha hro
    obtain ⟨b, j1, h1, h2, rfl⟩ := phiC_nil_get hi
    exact hM.keep b j1 r o h2 ha hro

theorem nodup_range (m : Nat) : nodupB (List.range m) = true := by
  have key : ∀ (l : List Nat), l.Nodup → nodupB l = true := by
    intro l
    induction l with
    | nil => intro _; rfl
    | cons b r ih =>
      intro h
      rw [List.nodup_cons] at h
      unfold nodupB
      split
      · rename_i i hi
        have := (idxOf_spec hi).2
        rw [Nat.sub_zero] at this
        exact absurd (List.mem_of_getElem? this) h.1
      · exact ih h.2
  exact key _ List.nodup_range

theorem reset_sr {nx m : Nat} {h : HS} (hs : SR n lv w0 may φ σ μ ρ nx a w) (e : rsH lv ts m σ μ ρ = some h) :
    h.bs.length = m ∧ SR n lv w0 may (phiC φ (List.range m) []) (look h.tm) (memOf h.bs) (hdsB h.bs) m a w := by
  unfold rsH at e
  split at e
  · rename_i bs hbs
    simp only [Option.some.injEq] at e; subst e
    obtain ⟨hlen, _⟩ := blksOf_get hbs
    have hl : bs.length = m := by simpa using hlen
    refine ⟨hl, ?_, hs.sz, hs.df, by have := ren_mr hs.mr hbs (nodup_range m); rw [hl] at this; exact this⟩
    intro t x hx
    unfold filt at hx
    split at hx
    · obtain ⟨v, h1, rfl⟩ := entT_look hx
      exact renV_rel (ren_moves hs.mr) (hs.tr t v h1)
    · cases hx
  · cases e

/-- What is kept from head to head: blocks that don't become more stand where they stood. -/
def Kp (G : List Nat) (φ φ' : Phi) : Prop := ∀ i j, φ i = some j → ∃ j', φ' i = some j' ∧ j'.v = 0 ∧ (memN i G = false → j' = j)

theorem Kp.refl {G : List Nat} (h : ∀ i j, φ i = some j → j.v = 0) : Kp G φ φ := fun i j hj => ⟨j, hj, h i j hj, fun _ => rfl⟩
theorem Kp.trans {G : List Nat} {φ ψ χ : Phi} (h : Kp G φ ψ) (k : Kp G ψ χ) : Kp G φ χ := by
  intro i j hj
  obtain ⟨j1, h1, _, h3⟩ := h i j hj
  obtain ⟨j2, k1, k2, k3⟩ := k i j1 h1
  exact ⟨j2, k1, k2, fun hG => (k3 hG).trans (h3 hG)⟩

theorem verOK_spec {G : List Nat} : ∀ {m : Nat}, verOK G ρ m = true → ∀ i, i < m → memN i G = false → ∃ h, ρ i = some h ∧ h.v = 0
  | 0, _, i, hi, _ => by omega
  | m + 1, h, i, hi, hG => by
    unfold verOK at h
    by_cases e : i = m
    · subst e
      rw [hG] at h
      simp only at h
      split at h
      · rename_i hd hh
        split at h
        · rename_i hb; exact ⟨hd, hh, Nat.eq_of_beq_eq_true hb⟩
        · cases h
      · cases h
    · have hi' : i < m := by omega
      split at h
      · exact verOK_spec h i hi' hG
      · split at h
        · split at h
          · exact verOK_spec h i hi' hG
          · cases h
        · cases h

theorem reset_kp {m : Nat} {G : List Nat} {ψ : Phi} (hφ : ∀ i j, φ i = some j → i < m ∧ j.v = 0) (hle : φ.le ψ) (hM : MR w0 may ψ μ ρ fr w) (hv : verOK G ρ m = true) : Kp G φ (phiC ψ (List.range m) []) := by
  intro i j hj
  obtain ⟨hi, hjv⟩ := hφ i j hj
  obtain ⟨j', h1, h2⟩ := hle i j hj
  have hr : (List.range m)[i]? = some i := by simp [hi]
  refine ⟨_, phiC_nil_mk hr h1, rfl, fun hG => ?_⟩
  obtain ⟨hd, k1, k2⟩ := verOK_spec hv i hi hG
  obtain ⟨j2, k3, k4, _⟩ := hM.hdr i hd k1
  rw [h1] at k3; simp only [Option.some.injEq] at k3; subst k3
  rcases h2 with rfl | h2
  · cases j; simp at hjv; subst hjv; rfl
  · omega

theorem altsH_spec {W G : List Nat} {h : HS} : ∀ {alts : List Alt} {l : List (X × Bool × HS)}, altsH lv ts W G h alts = some l → ∀ q ∈ l, ∃ al ∈ alts, q.1 = al.x ∧ q.2.1 = al.g ∧ cleanM W h.bs.length al.d.mem = true ∧ cleanH W h.bs.length al.d.hs = true ∧ verOK G (over al.d.hs (hdsB h.bs)) h.bs.length = true ∧
      ∃ h', rsH lv ts h.bs.length (over al.d.tm (look h.tm)) (over al.d.mem (memOf h.bs)) (over al.d.hs (hdsB h.bs)) = some h' ∧ q.2.2 = symH h'
  | [], l, e => by simp only [altsH, Option.some.injEq] at e; subst e; intro q hq; cases hq
  | al :: r, l, e => by
    unfold altsH at e
    split at e
    · rename_i hc
      simp only [Bool.and_eq_true] at hc
      split at e
      · rename_i h' l' h1 h2
        simp only [Option.some.injEq] at e; subst e
        intro q hq
        rcases List.mem_cons.1 hq with rfl | hq
        · exact ⟨al, by simp, rfl, rfl, hc.1.1, hc.1.2, hc.2, h', h1, rfl⟩
        · obtain ⟨al', g1, g2⟩ := altsH_spec h2 q hq
          exact ⟨al', by simp [g1], g2⟩
      · cases e
    · cases e

theorem altsH_mem {W G : List Nat} {h : HS} : ∀ {alts : List Alt} {l : List (X × Bool × HS)}, altsH lv ts W G h alts = some l → ∀ al ∈ alts, ∃ q ∈ l, q.1 = al.x ∧ q.2.1 = al.g
  | [], l, e => by intro al hal; cases hal
  | al :: r, l, e => by
    unfold altsH at e
    split at e
    · split at e
      · rename_i h' l' h1 h2
        simp only [Option.some.injEq] at e; subst e
        intro al' hal
        rcases List.mem_cons.1 hal with rfl | hal
        · exact ⟨_, List.mem_cons_self, rfl, rfl⟩
        · obtain ⟨q, g1, g2⟩ := altsH_mem h2 al' hal
          exact ⟨q, by simp [g1], g2⟩
      · cases e
    · cases e

/-- The state of a head stands for the real one. -/
structure HR (n : Nat) (lv : List Nat) (w0 : World) (may : Nat → Prop) (φ : Phi) (h : HS) (a : Act) (w : World) : Prop where
  sr : SR n lv w0 may φ (look h.tm) (memOf h.bs) (hdsB h.bs) h.bs.length a w
  v0 : ∀ i j, φ i = some j → i < h.bs.length ∧ j.v = 0

theorem symT_look {t : Nat} {x : LV} : ∀ {l : List (Nat × LV)}, look (symT l) t = some x → ∃ y, look l t = some y ∧ x = symV y
  | [], h => by simp [symT, look] at h
  | (s, v) :: r, h => by
    unfold symT look at h
    unfold look
    split at h
    · rename_i hb
      simp only [Option.some.injEq] at h
      exact ⟨v, rfl, h.symm⟩
    · exact symT_look h

theorem hdsB_sym (bs : List BC) : hdsB (symBs bs) = hdsB bs := by
  funext b
  unfold hdsB
  rw [symBs_get]
  cases bs[b]? <;> rfl

theorem symH_hr {h : HS} (hr : HR n lv w0 may φ h a w) : HR n lv w0 may φ (symH h) a w := by
  refine ⟨⟨?_, hr.sr.sz, hr.sr.df, ?_⟩, fun i j hj => by rw [show (symH h).bs.length = h.bs.length from symBs_len]; exact hr.v0 i j hj⟩
  · intro s x hx
    unfold filt at hx
    split at hx
    · rename_i hs
      obtain ⟨y, h1, rfl⟩ := symT_look hx
      exact symV_rel (hr.sr.tr s y (by unfold filt; rw [hs]; exact h1))
    · cases hx
  · show MR w0 may φ (memOf (symBs h.bs)) (hdsB (symBs h.bs)) (fun b => (symBs h.bs).length ≤ b) w
    rw [hdsB_sym, symBs_len]
    refine hr.sr.mr.marks fun k x hx => ?_
    unfold memOf at hx ⊢
    rw [symBs_get] at hx
    cases hb : h.bs[k / 65536]? with
    | none => rw [hb] at hx; simp at hx
    | some c =>
      rw [hb] at hx
      simp only [Option.map_some, symB_cell, Option.map_eq_some_iff] at hx
      obtain ⟨y, hy, rfl⟩ := hx
      exact ⟨y, hy, fun e => symA_unk.2 e, fun v hv => symA_rel.2 hv⟩

theorem phiC_v0 {m : Nat} : ∀ i j, phiC φ (List.range m) [] i = some j → i < m ∧ j.v = 0 := by
  intro i j h
  obtain ⟨b, j1, h1, _, rfl⟩ := phiC_nil_get h
  have := (List.getElem?_eq_some_iff.1 h1).1
  exact ⟨by simpa using this, rfl⟩

/-- One round: from head to what it may end in. -/
theorem body_wp (hT : TOK P T) (hF : P.follows .mixedOrders = true) {LT : List (Nat × Sum)} {k : Nat} {W G : List Nat} {c : Code} {p : Nat} {h : HS} {obs : List Prop} {l : List (X × Bool × HS)}
    (e : bodyF P T n lv ts LT k W G c p h = some (obs, l)) (hL : LOK P n lv LT c p) (ho : Alls obs) (hr : HR n lv w0 may φ h a w) {Q : Exit → Act → World → Prop}
    (hQ : ∀ x a' w' q, q ∈ l → q.2.1 = true → q.1 = x → (∀ q' ∈ l, q'.2.1 = true → q'.1 = x ∧ ∃ χ, Kp G φ χ ∧ HR n lv w0 may χ q'.2.2 a' w' ∧ q'.2.2.bs.length = h.bs.length) → Q x.real a' w') : c.wp P Q a w := by
  unfold bodyF at e
  split at e
  · rename_i obs' alts hev
    split at e
    · rename_i l' hl
      simp only [Option.some.injEq, Prod.mk.injEq] at e
      obtain ⟨rfl, rfl⟩ := e
      have := ev_wp hT hF k false c p _ _ _ _ hev hL ho w0 may φ a w hr.sr Q fun x a' w' hg => by
        obtain ⟨⟨al, hal, hon⟩, hall⟩ := hg
        obtain ⟨q, hq, q1, q2⟩ := altsH_mem hl al hal
        refine hQ x a' w' q hq (q2.trans hon.2.1) (q1.trans hon.1) fun q' hq' hg' => ?_
        obtain ⟨al', m1, m2, m3, _, _, m4, h', m5, m6⟩ := altsH_spec hl q' hq'
        rcases hall al' m1 with hon' | hoff
        · obtain ⟨o1, _, ψ, o3, o4⟩ := hon'
          obtain ⟨r1, r2⟩ := reset_sr o4 m5
          refine ⟨m2.trans o1, _, reset_kp hr.v0 o3 o4.mr m4, ?_, ?_⟩
          · rw [m6]
            exact symH_hr ⟨by rw [r1]; exact r2, fun i j hj => by rw [r1]; exact phiC_v0 i j hj⟩
          · rw [m6]
            exact (show (symH h').bs.length = h'.bs.length from symBs_len).trans r1
        · rw [m3, hoff] at hg'; cases hg'
      simpa using this
    · cases e
  · cases e

end
end Go.Proofs.Ytcdejlgophpdjaa.V
