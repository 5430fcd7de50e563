/-
  A call (second part): the caller's memory behind it.
-/
import Derived.Test.YtcdejlgophpdjaaVe5
namespace Go.Proofs.Ytcdejlgophpdjaa.V
open Go Go.RowKit

def isKeep (out : List (Option BC)) (i : Nat) : Bool := match out[i]? with
  | some none => true
  | _ => false

def phiC (φ : Phi) (foot : List Nat) (out : List (Option BC)) : Phi := fun i => match foot[i]? with
  | some b => match φ b with
    | some j => some ⟨j.ty, j.a, j.z, j.n, 0, j.ro || isKeep out i⟩
    | none => none
  | none => none

theorem phiC_get {φ : Phi} {foot : List Nat} {out : List (Option BC)} {i : Nat} {j' : Inf} (h : phiC φ foot out i = some j') : ∃ b j, foot[i]? = some b ∧ φ b = some j ∧ j' = ⟨j.ty, j.a, j.z, j.n, 0, j.ro || isKeep out i⟩ := by
  unfold phiC at h
  split at h
  · rename_i b hb
    split at h
    · rename_i j hj
      simp only [Option.some.injEq] at h
      exact ⟨b, j, hb, hj, h.symm⟩
    · cases h
  · cases h

theorem phiC_mk {φ : Phi} {foot : List Nat} {out : List (Option BC)} {i b : Nat} {j : Inf} (h : foot[i]? = some b) (hj : φ b = some j) : phiC φ foot out i = some ⟨j.ty, j.a, j.z, j.n, 0, j.ro || isKeep out i⟩ := by
  simp [phiC, h, hj]

def mayC (φ : Phi) (foot : List Nat) (out : List (Option BC)) (r : Nat) : Prop := ∃ i b j o, foot[i]? = some b ∧ φ b = some j ∧ j.a = some (r, o) ∧ j.ro = false ∧ isKeep out i = false

section
variable {P : Program} {w0 : World} {may : Nat → Prop} {φ : Phi} {σ : Sig} {μ : Mem} {ρ : Hds} {fr : Nat → Prop} {w : World} {a : Act} {o : Oper}

theorem ren_moves (hM : MR w0 may φ μ ρ fr w) {foot : List Nat} {out : List (Option BC)} : ∀ b v i, renB ρ foot b v = some i → Moves φ (phiC φ foot out) b v i 0 := by
  intro b v i h j hj
  obtain ⟨h1, hd, h2, h3⟩ := renB_spec h
  obtain ⟨j', g1, g2, _⟩ := hM.hdr b hd h2
  rw [hj] at g1; simp only [Option.some.injEq] at g1; subst g1
  exact fun _ => ⟨_, phiC_mk h1 hj, Nat.le_refl _, fun _ => ⟨by rw [g2, h3], rfl, rfl, rfl⟩⟩

theorem callee_mr (hM : MR w0 may φ μ ρ fr w) {foot : List Nat} {bs : List BC} {out : List (Option BC)} (hbs : blksOf μ ρ foot foot = some bs) (hnd : nodupB foot = true) :
    MR w (mayC φ foot out) (phiC φ foot out) (memOf bs) (hdsIn bs out) (fun b => bs.length ≤ b) w := by
  obtain ⟨hlen, hget⟩ := blksOf_get hbs
  have blk : ∀ (i : Nat) (c : BC), bs[i]? = some c → ∃ b hd, foot[i]? = some b ∧ ρ b = some hd ∧ c.h = ⟨0, hd.z, hd.ro, hd.R⟩ ∧ hd.z ≤ 65536 ∧ c.cs = blkCells μ ρ foot b 0 hd.z := by
    intro i c hc
    have hi : i < foot.length := by rw [← hlen]; exact (List.getElem?_eq_some_iff.1 hc).1
    obtain ⟨c', h1, h2⟩ := hget i foot[i] (by simp [hi])
    rw [hc] at h1; simp only [Option.some.injEq] at h1; subst h1
    obtain ⟨hd, q1, q2, q3, q4⟩ := blkOf_spec h2
    exact ⟨foot[i], hd, by simp [hi], q1, q2, q3, q4⟩
  have cell : ∀ k x, memOf bs k = some x → ∃ c b hd x0, bs[k / 65536]? = some c ∧ foot[k / 65536]? = some b ∧ ρ b = some hd ∧ c.h = ⟨0, hd.z, hd.ro, hd.R⟩ ∧ k % 65536 < hd.z ∧ μ (b * 65536 + k % 65536) = some x0 ∧ x = renA ρ foot x0 := by
    intro k x hx
    unfold memOf at hx
    split at hx
    · rename_i c hc
      obtain ⟨b, hd, q1, q2, q3, q4, q5⟩ := blk _ c hc
      unfold cellOf at hx
      split at hx
      · rename_i y hy
        simp only [Option.some.injEq] at hx; subst hx
        have hk : k % 65536 < hd.z := by
          have := (List.getElem?_eq_some_iff.1 hy).1
          rw [q5, blkCells_len] at this; exact this
        rw [q5, blkCells_get hk, Nat.zero_add] at hy
        simp only [Option.some.injEq] at hy
        cases hm : μ (b * 65536 + k % 65536) with
        | none => rw [hm] at hy; simp [renO] at hy
        | some x0 =>
          rw [hm] at hy; simp only [renO, Option.some.injEq] at hy
          exact ⟨c, b, hd, x0, hc, q1, q2, q3, hk, hm, hy.symm⟩
      · cases hx
    · cases hx
  have hdr : ∀ i h, hdsIn bs out i = some h → ∃ c b hd, bs[i]? = some c ∧ foot[i]? = some b ∧ ρ b = some hd ∧ h = ⟨0, hd.z, hd.ro || isKeep out i, hd.R⟩ := by
    intro i h hh
    unfold hdsIn at hh
    split at hh
    · rename_i c hc
      obtain ⟨b, hd, q1, q2, q3, q4, q5⟩ := blk _ c hc
      refine ⟨c, b, hd, hc, q1, q2, ?_⟩
      split at hh
      · rename_i ho
        simp only [Option.some.injEq] at hh; subst hh
        simp [roH, q3, isKeep, ho]
      · rename_i hne
        simp only [Option.some.injEq] at hh; subst hh
        have : isKeep out i = false := by
          unfold isKeep
          split
          · rename_i ho; exact absurd ho hne
          · rfl
        simp [q3, this]
    · cases hh
  constructor
  · intro k x hx
    obtain ⟨c, b, hd, x0, q1, q2, q3, q4, q5, q6, rfl⟩ := cell k x hx
    have hz : k % 65536 < 65536 := Nat.mod_lt _ (by decide)
    rcases hM.cell _ _ q6 with e | ⟨j, h1, h2, h3, r, o', arr, ty, fz, v, h4, h5, h6, h7⟩
    · subst e; exact .inl rfl
    · right
      rw [key_div _ _ hz] at h1
      rw [key_mod _ _ hz] at h3 h6
      exact ⟨_, phiC_mk q2 h1, rfl, h3, r, o', arr, ty, fz, v, h4, h5, h6, renA_rel (ren_moves hM) h7⟩
  · intro i h hh
    obtain ⟨c, b, hd, q1, q2, q3, rfl⟩ := hdr i h hh
    obtain ⟨j, h1, h2, h3, h4, h5⟩ := hM.hdr b hd q3
    refine ⟨_, phiC_mk q2 h1, rfl, by simp [h3], fun hg => ?_, fun R hR => ?_⟩
    · obtain ⟨e1, e2, e3⟩ := h4 (by simpa [Hd.grows] using hg)
      exact ⟨rfl, e2, e3⟩
    · exact h5 R hR
  · intro k x h hx hne hh
    obtain ⟨c, b, hd, x0, q1, q2, q3, q4, q5, q6, rfl⟩ := cell k x hx
    obtain ⟨c', b', hd', p1, p2, p3, rfl⟩ := hdr _ h hh
    rw [q2] at p2; simp only [Option.some.injEq] at p2; subst p2
    rw [q3] at p3; simp only [Option.some.injEq] at p3; subst p3
    have hz : k % 65536 < 65536 := Nat.mod_lt _ (by decide)
    have hx0 : x0 ≠ .unk := fun e => by subst e; exact hne rfl
    have := hM.apart _ x0 hd q6 hx0 (by rw [key_div _ _ hz]; exact q3)
    rw [key_mod _ _ hz] at this
    exact ⟨by simpa [Hd.grows] using this.1, this.2⟩
  · intro i i' j j' r o' o'' hi hi' ha ha'
    obtain ⟨b, j1, h1, h2, rfl⟩ := phiC_get hi
    obtain ⟨b', j2, h3, h4, rfl⟩ := phiC_get hi'
    rcases hM.inj b b' j1 j2 r o' o'' h2 h4 ha ha' with e | ⟨e1, e2⟩
    · subst e; exact .inl (nodupB_spec hnd h1 h3)
    · exact .inr ⟨by simp [e1], by simp [e2]⟩
  · intro i j r o' hi ha hro
    obtain ⟨b, j1, h1, h2, rfl⟩ := phiC_get hi
    simp only [Bool.or_eq_false_iff] at hro
    obtain ⟨_, g2, arr, g3, g4⟩ := hM.own b j1 r o' h2 ha hro.1
    exact ⟨.inl ⟨i, b, j1, o', h1, h2, ha, hro.1, hro.2⟩, g2, arr, g3, g4⟩
  · intro i j r o' hi ha hro
    obtain ⟨b, j1, h1, h2, rfl⟩ := phiC_get hi
    refine ⟨hM.big b j1 r o' h2 ha, ?_⟩
    rintro ⟨i2, b2, j2, o2, f1, f2, f3, f4, f5⟩
    rcases hM.inj b b2 j1 j2 r o' o2 h2 f2 ha f3 with e | ⟨_, e⟩
    · subst e
      have := nodupB_spec hnd h1 f1
      subst this
      rw [h2] at f2; simp only [Option.some.injEq] at f2; subst f2
      simp [f4, f5] at hro
    · rw [f4] at e; cases e
  · intro i hi
    have hi : bs.length ≤ i := hi
    have : foot[i]? = none := by simp; omega
    simp [phiC, this]
  · intro i j r o' hi ha
    obtain ⟨b, j1, h1, h2, rfl⟩ := phiC_get hi
    exact hM.big b j1 r o' h2 ha
  · rfl
  · rfl
  · rfl
  · exact Nat.le_refl _
  · intro k _ _; rfl
  · intro p; rfl

def phiB (φ ψ : Phi) (ρ : Hds) (foot : List Nat) (out : List (Option BC)) (id : Nat) : Phi := fun b => match idxOf b foot 0 with
  | some i => match isKeep out i with
    | true => φ b
    | false => match ψ i, ρ b with
      | some j, some h => some ⟨j.ty, j.a, j.z, j.n, h.v + j.v, j.ro⟩
      | _, _ => none
  | none => match Nat.ble id b && Nat.blt b (id + (out.length - foot.length)) with
    | true => ψ (foot.length + (b - id))
    | false => φ b

set_option maxHeartbeats 4000000 in
theorem caller_mr (hM : MR w0 may φ μ ρ fr w) {foot : List Nat} {bs : List BC} {out : List (Option BC)} {id : Nat} (hbs : blksOf μ ρ foot foot = some bs) (hnd : nodupB foot = true) (hcb : cellBound out = true) (hz : zOK bs out = true) (hvo : vOK ρ foot id 0 out = true)
    (h16 : out.length ≤ foot.length + 16) (hset : allSet (out.drop foot.length) = true) (hid : ∀ j, j < 16 → fr (id + j)) {ψ : Phi} {w' : World} (hle : (phiC φ foot out).le ψ)
    (hM' : MR w (mayC φ foot out) ψ (memAft bs out) (hdsAft bs out) (fun b => out.length ≤ b) w') {cs : List (Nat × At)} {hs : List (Nat × Hd)} (hbk : backBlks ρ foot id 0 out = (cs, hs)) :
    φ.le (phiB φ ψ ρ foot out id) ∧ (∀ i v b u, backB ρ foot id i = (b, u) → Moves ψ (phiB φ ψ ρ foot out id) i v b (u + v)) ∧
    MR w0 may (phiB φ ψ ρ foot out id) (updL μ cs) (updL ρ hs) (fun b => fr b ∧ ∀ j, j < 16 → b ≠ id + j) w' := by
  obtain ⟨hlen, hget⟩ := blksOf_get hbs
  obtain ⟨hlo, hzz⟩ := zOK_get hz
  obtain ⟨m1, m2⟩ := mem_backBlks hbk
  have hcbg := cellBound_get hcb
  have footρ : ∀ (i b : Nat), foot[i]? = some b → ∃ (hd : Hd) (c : BC), ρ b = some hd ∧ bs[i]? = some c ∧ c.h = ⟨0, hd.z, hd.ro, hd.R⟩ := by
    intro i b hb
    obtain ⟨c, h1, h2⟩ := hget i b hb
    obtain ⟨hd, q1, q2, _, _⟩ := blkOf_spec h2
    exact ⟨hd, c, q1, h1, q2⟩
  have footφ : ∀ (i b : Nat), foot[i]? = some b → ∃ hd j, ρ b = some hd ∧ φ b = some j ∧ j.v = hd.v ∧ j.ro = hd.ro := by
    intro i b hb
    obtain ⟨hd, c, q1, _, _⟩ := footρ i b hb
    obtain ⟨j, h1, h2, h3, _⟩ := hM.hdr b hd q1
    exact ⟨hd, j, q1, h1, h2, h3⟩
  have newφ : ∀ i, foot.length ≤ i → i < out.length → φ (id + (i - foot.length)) = none := fun i h1 h2 => hM.dom _ (hid _ (by omega))
  have idx : ∀ (i b : Nat), foot[i]? = some b → idxOf b foot 0 = some i := by
    intro i b hb
    cases h : idxOf b foot 0 with
    | none => exact absurd (List.mem_of_getElem? hb) (idxOf_none h)
    | some i' =>
      have := (idxOf_spec h).2
      rw [Nat.sub_zero] at this
      rw [nodupB_spec hnd this hb]
  have noidx : ∀ b, φ b = none → idxOf b foot 0 = none := by
    intro b hb
    cases h : idxOf b foot 0 with
    | none => rfl
    | some i =>
      have := (idxOf_spec h).2
      rw [Nat.sub_zero] at this
      obtain ⟨_, j, _, h2, _⟩ := footφ i b this
      rw [hb] at h2; cases h2
  -- blocks that the callee has told anew
  have anew : ∀ (i : Nat) (c : BC), out[i]? = some (some c) → ∃ b u, backB ρ foot id i = (b, u) ∧ isKeep out i = false ∧
      ((i < foot.length ∧ foot[i]? = some b ∧ ∃ hd j, ρ b = some hd ∧ φ b = some j ∧ hd.v = u ∧ j.v = u ∧ j.ro = hd.ro) ∨ (foot.length ≤ i ∧ b = id + (i - foot.length) ∧ u = 0 ∧ φ b = none)) := by
    intro i c hc
    have hk : isKeep out i = false := by simp [isKeep, hc]
    have hil : i < out.length := (List.getElem?_eq_some_iff.1 hc).1
    by_cases hi : i < foot.length
    · have hb : foot[i]? = some foot[i] := by simp [hi]
      obtain ⟨hd, j, h1, h2, h3, h4⟩ := footφ i _ hb
      exact ⟨foot[i], hd.v, backB_lt hb h1, hk, .inl ⟨hi, hb, hd, j, h1, h2, rfl, h3, h4⟩⟩
    · exact ⟨id + (i - foot.length), 0, backB_ge (by omega), hk, .inr ⟨by omega, rfl, rfl, newφ i (by omega) hil⟩⟩
  have ψsome : ∀ (i : Nat) (c : BC), out[i]? = some (some c) → ∃ j, ψ i = some j ∧ HdOK (w'.heap[·]?) j c.h := by
    intro i c hc
    exact hM'.hdr i c.h (by simp [hdsAft, aft, hc])
  have phiNew : ∀ (i : Nat) (c : BC) (b u : Nat), out[i]? = some (some c) → backB ρ foot id i = (b, u) → ∃ j, ψ i = some j ∧ phiB φ ψ ρ foot out id b = some ⟨j.ty, j.a, j.z, j.n, u + j.v, j.ro⟩ := by
    intro i c b u hc hb
    obtain ⟨j, hj, _⟩ := ψsome i c hc
    obtain ⟨b', u', e1, hk, e2⟩ := anew i c hc
    rw [hb] at e1; simp only [Prod.mk.injEq] at e1; obtain ⟨rfl, rfl⟩ := e1
    refine ⟨j, hj, ?_⟩
    rcases e2 with ⟨hi, hf, hd, jj, g1, g2, g3, _⟩ | ⟨hi, e3, e4, e5⟩
    · simp only [phiB, idx i b hf, hk, hj, g1, g3]
    · have hil : i < out.length := (List.getElem?_eq_some_iff.1 hc).1
      have hbb : (Nat.ble id b && Nat.blt b (id + (out.length - foot.length))) = true := by
        simp only [Bool.and_eq_true]
        exact ⟨Nat.ble_eq_true_of_le (by omega), Nat.ble_eq_true_of_le (by omega)⟩
      simp only [phiB, noidx b e5, hbb]
      rw [show foot.length + (b - id) = i by omega, hj, e4, Nat.zero_add]
  -- the others
  have phiOld : ∀ b, (∀ (i : Nat) (c : BC) (u : Nat), out[i]? = some (some c) → backB ρ foot id i ≠ (b, u)) → phiB φ ψ ρ foot out id b = φ b := by
    intro b hno
    unfold phiB
    split
    · rename_i i hi
      have hf := (idxOf_spec hi).2
      rw [Nat.sub_zero] at hf
      split
      · rfl
      · rename_i hk
        have hil : i < foot.length := (List.getElem?_eq_some_iff.1 hf).1
        have hio : i < out.length := by omega
        obtain ⟨hd, j, h1, _⟩ := footφ i b hf
        cases hc : out[i] with
        | none => simp [isKeep, hio, hc] at hk
        | some c => exact absurd (backB_lt hf h1) (hno i c hd.v (by simp [hio, hc]))
    · rename_i hni
      split
      · rename_i hb
        simp only [Bool.and_eq_true] at hb
        have b1 := Nat.le_of_ble_eq_true hb.1
        have b2 : b < id + (out.length - foot.length) := Nat.le_of_ble_eq_true hb.2
        have hio : foot.length + (b - id) < out.length := by omega
        obtain ⟨c, hc⟩ := allSet_get hset (b - id) (by simp; omega)
        rw [List.getElem?_drop] at hc
        exact absurd (by rw [backB_ge (by omega)]; congr 1; omega) (hno (foot.length + (b - id)) c 0 hc)
      · rfl
  -- each block is of one of the two kinds
  have kinds : ∀ b, (∃ (i : Nat) (c : BC) (u : Nat), out[i]? = some (some c) ∧ backB ρ foot id i = (b, u)) ∨ (∀ (i : Nat) (c : BC) (u : Nat), out[i]? = some (some c) → backB ρ foot id i ≠ (b, u)) := by
    intro b
    by_cases h : ∃ (i : Nat) (c : BC) (u : Nat), out[i]? = some (some c) ∧ backB ρ foot id i = (b, u)
    · exact .inl h
    · exact .inr fun i c u h1 h2 => h ⟨i, c, u, h1, h2⟩
  have uniq : ∀ (i i' : Nat) (c c' : BC) (b u u' : Nat), out[i]? = some (some c) → out[i']? = some (some c') → backB ρ foot id i = (b, u) → backB ρ foot id i' = (b, u') → i = i' ∧ u = u' := by
    intro i i' c c' b u u' hc hc' hb hb'
    have e : i = i' := by
      obtain ⟨b1, u1, e1, _, e2⟩ := anew i c hc
      rw [hb] at e1; simp only [Prod.mk.injEq] at e1; obtain ⟨rfl, rfl⟩ := e1
      obtain ⟨b2, u2, f1, _, f2⟩ := anew i' c' hc'
      rw [hb'] at f1; simp only [Prod.mk.injEq] at f1; obtain ⟨rfl, rfl⟩ := f1
      rcases e2 with ⟨_, e2, _, _, _, e3, _⟩ | ⟨e2, e3, _, e4⟩ <;> rcases f2 with ⟨_, f2, _, _, _, f3, _⟩ | ⟨f2, f3, _, f4⟩
      · exact nodupB_spec hnd e2 f2
      · rw [e3] at f4; cases f4
      · rw [f3] at e4; cases e4
      · omega
    subst e
    rw [hb] at hb'; simp only [Prod.mk.injEq] at hb'
    exact ⟨rfl, hb'.2⟩
  have ψfoot : ∀ (i b : Nat) (j : Inf), foot[i]? = some b → φ b = some j → ∃ j', ψ i = some j' ∧ ((j' = ⟨j.ty, j.a, j.z, j.n, 0, j.ro || isKeep out i⟩) ∨ 0 < j'.v) := by
    intro i b j hf hj
    obtain ⟨j', h1, h2⟩ := hle i _ (phiC_mk hf hj)
    refine ⟨j', h1, ?_⟩
    rcases h2 with e | e
    · exact .inl e.symm
    · exact .inr e
  have hle' : φ.le (phiB φ ψ ρ foot out id) := by
    intro b j hj
    rcases kinds b with ⟨i, c, u, hc, hb⟩ | hno
    · obtain ⟨b', u', e1, hk, e2⟩ := anew i c hc
      rw [hb] at e1; simp only [Prod.mk.injEq] at e1; obtain ⟨rfl, rfl⟩ := e1
      rcases e2 with ⟨_, hf, hd, jj, g1, g2, g3, g4, g5⟩ | ⟨_, _, _, e5⟩
      · obtain ⟨j1, q1, q2⟩ := phiNew i c b u hc hb
        refine ⟨_, q2, ?_⟩
        obtain ⟨j2, p1, p2⟩ := ψfoot i b j hf hj
        rw [q1] at p1; simp only [Option.some.injEq] at p1; subst p1
        rw [hj] at g2; simp only [Option.some.injEq] at g2; subst g2
        rcases p2 with e | e
        · left; rw [e]; cases j; simp_all
        · right; show j.v < u + j1.v; omega
      · rw [hj] at e5; cases e5
    · exact ⟨j, by rw [phiOld b hno]; exact hj, j.le_refl⟩
  -- blocks that are not told anew have not turned
  have keepHeap : ∀ b j r o', (∀ (i : Nat) (c : BC) (u : Nat), out[i]? = some (some c) → backB ρ foot id i ≠ (b, u)) → φ b = some j → j.a = some (r, o') → w'.heap[r]? = w.heap[r]? ∧ ¬ mayC φ foot out r := by
    intro b j r o' hno hj ha
    have hnm : ¬ mayC φ foot out r := by
      rintro ⟨i2, b2, j2, o2, f1, f2, f3, f4, f5⟩
      rcases hM.inj b b2 j j2 r o' o2 hj f2 ha f3 with e | ⟨_, e⟩
      · subst e
        have hil : i2 < foot.length := (List.getElem?_eq_some_iff.1 f1).1
        have hio : i2 < out.length := by omega
        obtain ⟨hd, _, h1, _⟩ := footφ i2 b f1
        cases hc : out[i2] with
        | none => simp [isKeep, hio, hc] at f5
        | some c => exact absurd (backB_lt f1 h1) (hno i2 c hd.v (by simp [hio, hc]))
      · rw [f4] at e; cases e
    exact ⟨hM'.block r (hM.big b j r o' hj ha) hnm, hnm⟩
  have moves : ∀ i v b u, backB ρ foot id i = (b, u) → Moves ψ (phiB φ ψ ρ foot out id) i v b (u + v) := by
    intro i v b u hb j hj hv
    have hil : i < out.length := by
      by_cases h : i < out.length
      · exact h
      · rw [hM'.dom i (by show out.length ≤ i; omega)] at hj; cases hj
    cases hc : out[i] with
    | some c =>
      obtain ⟨j1, q1, q2⟩ := phiNew i c b u (by simp [hil, hc]) hb
      rw [hj] at q1; simp only [Option.some.injEq] at q1; subst q1
      exact ⟨_, q2, Nat.add_le_add_left hv u, fun e => ⟨by have e : u + v = u + j.v := e; omega, rfl, rfl, rfl⟩⟩
    | none =>
      have hfl : i < foot.length := by
        by_cases h : i < foot.length
        · exact h
        · obtain ⟨c, hc'⟩ := allSet_get hset (i - foot.length) (by simp; omega)
          rw [List.getElem?_drop, show foot.length + (i - foot.length) = i by omega] at hc'
          simp [hil, hc] at hc'
      have hf : foot[i]? = some foot[i] := by simp [hfl]
      obtain ⟨hd, jb, g1, g2, g3, g4⟩ := footφ i _ hf
      rw [backB_lt hf g1] at hb
      simp only [Prod.mk.injEq] at hb; obtain ⟨rfl, rfl⟩ := hb
      have hno : ∀ (i' : Nat) (c : BC) (u : Nat), out[i']? = some (some c) → backB ρ foot id i' ≠ (foot[i], u) := by
        intro i' c u hc' e
        obtain ⟨b', u', e1, hk, e2⟩ := anew i' c hc'
        rw [e] at e1; simp only [Prod.mk.injEq] at e1; obtain ⟨e1, rfl⟩ := e1
        rcases e2 with ⟨_, e2, _⟩ | ⟨_, _, _, e5⟩
        · rw [← e1] at e2
          have := nodupB_spec hnd e2 hf
          subst this
          simp [hil, hc] at hc'
        · rw [← e1, g2] at e5; cases e5
      obtain ⟨hd', c', g5, g6, g7⟩ := footρ i _ hf
      have hjv : j.v = 0 := by
        obtain ⟨j', q1, q2, _⟩ := hM'.hdr i (roH c'.h) (by simp [hdsAft, aft, hil, hc, g6])
        rw [hj] at q1; simp only [Option.some.injEq] at q1; subst q1
        rw [q2]; simp [roH, g7]
      obtain ⟨j2, p1, p2⟩ := ψfoot i _ jb hf g2
      rw [hj] at p1; simp only [Option.some.injEq] at p1; subst p1
      have hje : j = ⟨jb.ty, jb.a, jb.z, jb.n, 0, jb.ro || isKeep out i⟩ := by
        rcases p2 with e | e
        · exact e
        · omega
      refine ⟨jb, by rw [phiOld _ hno]; exact g2, by omega, fun e => ⟨by omega, ?_, ?_, ?_⟩⟩ <;> rw [hje]
  have told : ∀ (k : Nat) (x : At), μ k = some x → x ≠ .unk → (∀ y, (k, y) ∉ cs) → ∀ (i : Nat) (c : BC) (u : Nat), out[i]? = some (some c) → backB ρ foot id i ≠ (k / 65536, u) := by
    intro k x hx hne hno i c u hc hb
    rcases hM.cell k x hx with e | ⟨j, h1, h2, h3, _⟩
    · exact hne e
    · obtain ⟨b', u', e1, hk, e2⟩ := anew i c hc
      rw [hb] at e1; simp only [Prod.mk.injEq] at e1; obtain ⟨rfl, rfl⟩ := e1
      rcases e2 with ⟨_, hf, hd, jj, g1, g2, g3, g4, g5⟩ | ⟨_, _, _, e5⟩
      · rw [h1] at g2; simp only [Option.some.injEq] at g2; subst g2
        obtain ⟨hd', c', q1, q2, q3⟩ := footρ i _ hf
        rw [g1] at q1; simp only [Option.some.injEq] at q1; subst q1
        have hgr := (hM.apart k x hd hx hne g1).1
        obtain ⟨j', r1, r2, r3, r4, _⟩ := hM.hdr _ hd g1
        rw [h1] at r1; simp only [Option.some.injEq] at r1; subst r1
        have hjz := (r4 hgr).2.1
        have hle1 := hzz i c' c q2 hc
        rw [q3] at hle1
        have hlt : k % 65536 < c.cs.length := by simp only at hle1; omega
        refine hno _ ((m1 _ _).2 ⟨i, c, k / 65536, u, hc, by rw [Nat.zero_add]; exact hb, mem_backCells.2 ⟨k % 65536, c.cs[k % 65536], by simp [hlt], by omega, rfl⟩⟩)
      · rw [h1] at e5; cases e5
  have newcell : ∀ key x, (key, x) ∈ cs → ∃ (i : Nat) (c : BC) (u : Nat), out[i]? = some (some c) ∧ backB ρ foot id i = (key / 65536, u) ∧ (x = .unk ∨ ∃ z, u = 0 ∧ x = backA ρ foot id z ∧ memAft bs out (i * 65536 + key % 65536) = some z ∧ aft bs out i = some c) := by
    intro key x hx
    obtain ⟨i, c, b, u, h1, h2, h3⟩ := (m1 key x).1 hx
    rw [Nat.zero_add] at h2
    obtain ⟨j, y, k1, k2, k3⟩ := mem_backCells.1 h3
    obtain ⟨z1, z2, _⟩ := hcbg i c h1
    have hj : j < 65536 := by have := (List.getElem?_eq_some_iff.1 k1).1; omega
    rw [Nat.zero_add] at k2
    subst k2
    rw [key_div _ _ hj, key_mod _ _ hj]
    refine ⟨i, c, u, h1, h2, ?_⟩
    cases y with
    | none => left; rw [k3]
    | some z =>
      cases hu : Nat.beq u 0 with
      | false => left; rw [k3, hu]
      | true =>
        right
        have ha : aft bs out i = some c := by simp [aft, h1]
        exact ⟨z, Nat.eq_of_beq_eq_true hu, by rw [k3, hu], by simp [memAft, key_div _ _ hj, key_mod _ _ hj, ha, cellOf, k1], ha⟩
  have newhd : ∀ k h, (k, h) ∈ hs → ∃ (i : Nat) (c : BC) (u : Nat), out[i]? = some (some c) ∧ backB ρ foot id i = (k, u) ∧ h = ⟨u + c.h.v, c.h.z, c.h.ro, c.h.R⟩ := by
    intro k h hh
    obtain ⟨i, c, u, h1, h2, h3⟩ := (m2 k h).1 hh
    rw [Nat.zero_add] at h2
    exact ⟨i, c, u, h1, h2, h3⟩
  have oldhd : ∀ k, (∀ y, (k, y) ∉ hs) → ∀ (i : Nat) (c : BC) (u : Nat), out[i]? = some (some c) → backB ρ foot id i ≠ (k, u) := by
    intro k hno i c u hc hb
    exact hno _ ((m2 k _).2 ⟨i, c, u, hc, by rw [Nat.zero_add]; exact hb, rfl⟩)
  -- where a block's place is: at the callee, or as it was
  have place : ∀ b j, phiB φ ψ ρ foot out id b = some j → (∃ (i : Nat) (c : BC) (u : Nat) (j1 : Inf), out[i]? = some (some c) ∧ backB ρ foot id i = (b, u) ∧ ψ i = some j1 ∧ j1.ro = false ∧ j = ⟨j1.ty, j1.a, j1.z, j1.n, u + j1.v, j1.ro⟩) ∨
      ((∀ (i : Nat) (c : BC) (u : Nat), out[i]? = some (some c) → backB ρ foot id i ≠ (b, u)) ∧ φ b = some j) := by
    intro b j hj
    rcases kinds b with ⟨i, c, u, hc, hb⟩ | hno
    · obtain ⟨j1, q1, q2⟩ := phiNew i c b u hc hb
      rw [hj] at q2; simp only [Option.some.injEq] at q2
      obtain ⟨j2, p1, p2⟩ := ψsome i c hc
      rw [q1] at p1; simp only [Option.some.injEq] at p1; subst p1
      exact .inl ⟨i, c, u, j1, hc, hb, q1, by rw [p2.2.1]; exact (hcbg i c hc).2.2, q2⟩
    · rw [phiOld b hno] at hj; exact .inr ⟨hno, hj⟩
  refine ⟨hle', moves, ?_⟩
  constructor
  · intro k x hx
    rcases updL_spec hx with h | ⟨h1, h2⟩
    · obtain ⟨i, c, u, hc, hb, he⟩ := newcell k x h
      rcases he with e | ⟨z, hu, e, hz, ha⟩
      · exact .inl e
      · rcases hM'.cell _ z hz with e' | ⟨j, g1, g2, g3, r, o', arr, ty, fz, v, g4, g5, g6, g7⟩
        · left; rw [e, e']; rfl
        · right
          have hk : k % 65536 < 65536 := Nat.mod_lt _ (by decide)
          rw [key_div _ _ hk] at g1
          rw [key_mod _ _ hk] at g3 g6
          obtain ⟨j1, q1, q2⟩ := phiNew i c _ u hc hb
          rw [g1] at q1; simp only [Option.some.injEq] at q1; subst q1
          subst hu e
          exact ⟨_, q2, by show 0 + j.v = 0; omega, g3, r, o', arr, ty, fz, v, g4, g5, g6, backA_rel moves g7⟩
    · by_cases hne : x = .unk
      · exact .inl hne
      · have hno := told k x h1 hne h2
        rcases hM.cell k x h1 with e | ⟨j, g1, g2⟩
        · exact .inl e
        · right
          exact ⟨j, by rw [phiOld _ hno]; exact g1, g2.other hle' fun r o' ha => (keepHeap _ j r o' hno g1 ha).1⟩
  · intro k h hh
    rcases updL_spec hh with h1 | ⟨h1, h2⟩
    · obtain ⟨i, c, u, hc, hb, rfl⟩ := newhd k h h1
      obtain ⟨j, q1, q2⟩ := phiNew i c k u hc hb
      obtain ⟨j2, p1, p2, p3, p4, p5⟩ := ψsome i c hc
      rw [q1] at p1; simp only [Option.some.injEq] at p1; subst p1
      refine ⟨_, q2, by show u + j.v = u + c.h.v; rw [p2], p3, fun hg => ?_, fun R hR => p5 R hR⟩
      have hg : c.h.grows = false := hg
      obtain ⟨e1, e2, e3⟩ := p4 hg
      rcases vOK_get hvo i c k u hc (by rw [Nat.zero_add]; exact hb) with e | e
      · exact ⟨by show u + j.v = 0; omega, e2, e3⟩
      · rw [hg] at e; cases e
    · have hno := oldhd k h2
      obtain ⟨j, g1, g2⟩ := hM.hdr k h h1
      exact ⟨j, by rw [phiOld _ hno]; exact g1, g2.other fun r o' ha => (keepHeap _ j r o' hno g1 ha).1⟩
  · intro k x h hx hne hh
    rcases updL_spec hx with hx1 | ⟨hx1, hx2⟩ <;> rcases updL_spec hh with hh1 | ⟨hh1, hh2⟩
    · obtain ⟨i, c, u, hc, hb, he⟩ := newcell k x hx1
      obtain ⟨i', c', u', hc', hb', rfl⟩ := newhd _ h hh1
      obtain ⟨e1, e2⟩ := uniq i i' c c' _ u u' hc hc' hb hb'
      subst e1 e2
      rw [hc] at hc'; simp only [Option.some.injEq] at hc'; subst hc'
      rcases he with e | ⟨z, hu, e, hz, ha⟩
      · exact absurd e hne
      · have hk : k % 65536 < 65536 := Nat.mod_lt _ (by decide)
        have hz0 : z ≠ .unk := fun e' => hne (by rw [e, e']; rfl)
        have := hM'.apart _ z c.h hz hz0 (by rw [key_div _ _ hk]; simp [hdsAft, ha])
        rw [key_mod _ _ hk] at this
        exact this
    · obtain ⟨i, c, u, hc, hb, he⟩ := newcell k x hx1
      exact absurd hb (oldhd _ hh2 i c u hc)
    · obtain ⟨i', c', u', hc', hb', rfl⟩ := newhd _ h hh1
      exact absurd hb' (told k x hx1 hne hx2 i' c' u' hc')
    · exact hM.apart k x h hx1 hne hh1
  · intro b b' j j' r o' o'' hb hb' ha ha'
    rcases place b j hb with ⟨i, c, u, j1, p1, p2, p3, p4, rfl⟩ | ⟨p1, p2⟩ <;> rcases place b' j' hb' with ⟨i', c', u', j2, q1, q2, q3, q4, rfl⟩ | ⟨q1, q2⟩
    · rcases hM'.inj i i' j1 j2 r o' o'' p3 q3 ha ha' with e | ⟨e, _⟩
      · subst e
        rw [p2] at q2; simp only [Prod.mk.injEq] at q2; exact .inl q2.1
      · rw [p4] at e; cases e
    · exfalso
      rcases (hM'.own i j1 r o' p3 ha p4).1 with hm | hm
      · exact (keepHeap b' j' r o'' q1 q2 ha').2 hm
      · have := hM.big b' j' r o'' q2 ha'; omega
    · exfalso
      rcases (hM'.own i' j2 r o'' q3 ha' q4).1 with hm | hm
      · exact (keepHeap b j r o' p1 p2 ha).2 hm
      · have := hM.big b j r o' p2 ha; omega
    · exact hM.inj b b' j j' r o' o'' p2 q2 ha ha'
  · intro b j r o' hb ha hro
    rcases place b j hb with ⟨i, c, u, j1, p1, p2, p3, p4, rfl⟩ | ⟨p1, p2⟩
    · obtain ⟨g1, g2, arr, g3, g4⟩ := hM'.own i j1 r o' p3 ha p4
      refine ⟨?_, g2, arr, g3, g4⟩
      rcases g1 with ⟨i2, b2, j2, o2, f1, f2, f3, f4, f5⟩ | g1
      · exact (hM.own b2 j2 r o2 f2 f3 f4).1
      · right; have := hM.size; omega
    · obtain ⟨g1, g2, arr, g3, g4⟩ := hM.own b j r o' p2 ha hro
      exact ⟨g1, g2, arr, by rw [(keepHeap b j r o' p1 p2 ha).1]; exact g3, g4⟩
  · intro b j r o' hb ha hro
    rcases place b j hb with ⟨i, c, u, j1, p1, p2, p3, p4, rfl⟩ | ⟨p1, p2⟩
    · rw [p4] at hro; cases hro
    · exact hM.keep b j r o' p2 ha hro
  · intro b hb
    have hn := hM.dom b hb.1
    have hno : ∀ (i : Nat) (c : BC) (u : Nat), out[i]? = some (some c) → backB ρ foot id i ≠ (b, u) := by
      intro i c u hc he
      obtain ⟨b', u', e1, hk, e2⟩ := anew i c hc
      rw [he] at e1; simp only [Prod.mk.injEq] at e1; obtain ⟨rfl, rfl⟩ := e1
      have hil : i < out.length := (List.getElem?_eq_some_iff.1 hc).1
      rcases e2 with ⟨_, _, _, _, _, g2, _⟩ | ⟨e3, e4, _⟩
      · rw [hn] at g2; cases g2
      · exact hb.2 (i - foot.length) (by omega) e4
    rw [phiOld b hno]; exact hn
  · intro b j r o' hb ha
    rcases place b j hb with ⟨i, c, u, j1, p1, p2, p3, p4, rfl⟩ | ⟨p1, p2⟩
    · exact hM'.big i j1 r o' p3 ha
    · have := hM.big b j r o' p2 ha
      have := hM'.size; omega
  · exact hM'.os.trans hM.os
  · exact hM'.tape.trans hM.tape
  · exact hM'.output.trans hM.output
  · exact Nat.le_trans hM.size hM'.size
  · intro k hk hm
    have hnm : ¬ mayC φ foot out k := by
      rintro ⟨i2, b2, j2, o2, f1, f2, f3, f4, f5⟩
      rcases (hM.own b2 j2 k o2 f2 f3 f4).1 with e | e
      · exact hm e
      · omega
    rw [hM'.block k (by have := hM.size; omega) hnm]; exact hM.block k hk hm
  · intro p; rw [hM'.frz p]; exact hM.frz p

end
end Go.Proofs.Ytcdejlgophpdjaa.V
