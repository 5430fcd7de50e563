/-
  Loops: what stands for a loop is so.
-/
import Derived.Test.YtcdejlgophpdjaaVq
namespace Go.Proofs.Ytcdejlgophpdjaa.V
open Go Go.RowKit

section
variable {P : Program} {T : Tab} {w0 : World} {may : Nat → Prop} {φ : Phi} {σ : Sig} {μ : Mem} {ρ : Hds} {fr : Nat → Prop} {w : World} {a : Act} {n : Nat} {lv ts : List Nat}

def phiN (φ : Phi) (m : Nat) : Phi := fun i => match Nat.beq i m with
  | true => some ⟨0, none, 0, 0, 0, false⟩
  | false => φ i

theorem phiN_other {m i : Nat} (h : i ≠ m) : phiN φ m i = φ i := by
  unfold phiN
  have : Nat.beq i m = false := by
    cases hb : Nat.beq i m
    · rfl
    · exact absurd (Nat.eq_of_beq_eq_true hb) h
  rw [this]
theorem phiN_at {m : Nat} : phiN φ m m = some ⟨0, none, 0, 0, 0, false⟩ := by simp [phiN]

theorem phiN_get {m i : Nat} {j : Inf} (h : phiN φ m i = some j) : (i = m ∧ j = ⟨0, none, 0, 0, 0, false⟩) ∨ (i ≠ m ∧ φ i = some j) := by
  by_cases e : i = m
  · subst e; rw [phiN_at] at h; simp only [Option.some.injEq] at h; exact .inl ⟨rfl, h.symm⟩
  · rw [phiN_other e] at h; exact .inr ⟨e, h⟩

def nilBC (sh : List Kd) : BC := ⟨⟨0, 0, false, some ⟨0, sh, [], none⟩⟩, []⟩

theorem nil_mr {bs : List BC} {sh : List Kd} (hM : MR w0 may φ (memOf bs) (hdsB bs) (fun b => bs.length ≤ b) w) : φ.le (phiN φ bs.length) ∧ MR w0 may (phiN φ bs.length) (memOf (bs ++ [nilBC sh])) (hdsB (bs ++ [nilBC sh])) (fun b => (bs ++ [nilBC sh]).length ≤ b) w := by
  have hnone : φ bs.length = none := hM.dom _ (Nat.le_refl _)
  have hle : φ.le (phiN φ bs.length) := by
    intro i j hj
    have : i ≠ bs.length := fun e => by subst e; rw [hnone] at hj; cases hj
    exact ⟨j, by rw [phiN_other this]; exact hj, j.le_refl⟩
  have mem : ∀ k x, memOf (bs ++ [nilBC sh]) k = some x → k / 65536 ≠ bs.length ∧ memOf bs k = some x := by
    intro k x hx
    unfold memOf at hx ⊢
    by_cases h : k / 65536 < bs.length
    · rw [List.getElem?_append_left h] at hx
      exact ⟨by omega, hx⟩
    · rw [List.getElem?_append_right (by omega)] at hx
      cases hk : k / 65536 - bs.length with
      | zero => rw [hk] at hx; simp [nilBC, cellOf] at hx
      | succ q => rw [hk] at hx; simp at hx
  have hd : ∀ i h, hdsB (bs ++ [nilBC sh]) i = some h → (i ≠ bs.length ∧ hdsB bs i = some h) ∨ (i = bs.length ∧ h = (nilBC sh).h) := by
    intro i h hh
    unfold hdsB at hh ⊢
    by_cases hi : i < bs.length
    · rw [List.getElem?_append_left hi] at hh
      exact .inl ⟨by omega, hh⟩
    · rw [List.getElem?_append_right (by omega)] at hh
      cases hk : i - bs.length with
      | zero => rw [hk] at hh; simp at hh; exact .inr ⟨by omega, hh.symm⟩
      | succ q => rw [hk] at hh; simp at hh
  refine ⟨hle, ?_⟩
  constructor
  · intro k x hx
    obtain ⟨h1, h2⟩ := mem k x hx
    rcases hM.cell k x h2 with e | ⟨j, g1, g2⟩
    · exact .inl e
    · exact .inr ⟨j, by rw [phiN_other h1]; exact g1, g2.other hle fun _ _ _ => rfl⟩
  · intro i h hh
    rcases hd i h hh with ⟨h1, h2⟩ | ⟨rfl, rfl⟩
    · obtain ⟨j, g1, g2⟩ := hM.hdr i h h2
      exact ⟨j, by rw [phiN_other h1]; exact g1, g2⟩
    · refine ⟨_, phiN_at, rfl, rfl, fun hg => by simp [nilBC, Hd.grows] at hg, fun R hR => ?_⟩
      simp only [nilBC, Option.some.injEq] at hR; subst hR
      exact ⟨rfl, (fun N hN => by cases hN), .inl ⟨rfl, rfl, rfl⟩⟩
  · intro k x h hx hne hh
    obtain ⟨h1, h2⟩ := mem k x hx
    rcases hd _ h hh with ⟨_, g2⟩ | ⟨g1, _⟩
    · exact hM.apart k x h h2 hne g2
    · exact absurd g1 h1
  · intro i i' j j' r o o' hi hi' ha ha'
    rcases phiN_get hi with ⟨_, rfl⟩ | ⟨_, h1⟩
    · cases ha
    · rcases phiN_get hi' with ⟨_, rfl⟩ | ⟨_, h2⟩
      · cases ha'
      · exact hM.inj i i' j j' r o o' h1 h2 ha ha'
  · intro i j r o hi ha hro
    rcases phiN_get hi with ⟨_, rfl⟩ | ⟨_, h1⟩
    · cases ha
    · exact hM.own i j r o h1 ha hro
  · intro i j r o hi ha hro
    rcases phiN_get hi with ⟨_, rfl⟩ | ⟨_, h1⟩
    · cases ha
    · exact hM.keep i j r o h1 ha hro
  · intro i hi
    have hi : (bs ++ [nilBC sh]).length ≤ i := hi
    simp at hi
    rw [phiN_other (by omega)]
    exact hM.dom i (by show bs.length ≤ i; omega)
  · intro i j r o hi ha
    rcases phiN_get hi with ⟨_, rfl⟩ | ⟨_, h1⟩
    · cases ha
    · exact hM.big i j r o h1 ha
  · exact hM.os
  · exact hM.tape
  · exact hM.output
  · exact hM.size
  · exact hM.block
  · exact hM.frz

theorem conv_hr {G : List Nat} : ∀ {CV : List (Nat × List Kd)} {φ : Phi} {h : HS}, HR n lv w0 may φ h a w → ∃ ψ, Kp G φ ψ ∧ HR n lv w0 may ψ (conv CV h) a w
  | [], φ, h, hr => ⟨φ, Kp.refl fun i j hj => (hr.v0 i j hj).2, hr⟩
  | (t, sh) :: r, φ, h, hr => by
    unfold conv
    split
    · rename_i hn
      obtain ⟨hle, hm⟩ := nil_mr (sh := sh) hr.sr.mr
      have hnone : φ h.bs.length = none := hr.sr.mr.dom _ (Nat.le_refl _)
      have hk : Kp G φ (phiN φ h.bs.length) := by
        intro i j hj
        have : i ≠ h.bs.length := fun e => by subst e; rw [hnone] at hj; cases hj
        exact ⟨j, by rw [phiN_other this]; exact hj, (hr.v0 i j hj).2, fun _ => rfl⟩
      have hr' : HR n lv w0 may (phiN φ h.bs.length) ⟨(t, .a (.vec h.bs.length 0 sh.length)) :: h.tm, h.bs ++ [nilBC sh]⟩ a w := by
        refine ⟨⟨?_, hr.sr.sz, hr.sr.df, hm⟩, ?_⟩
        · intro s x hx
          unfold filt at hx
          split at hx
          · rename_i hs
            unfold look at hx
            split at hx
            · rename_i hb
              have := Nat.eq_of_beq_eq_true hb
              subst this
              simp only [Option.some.injEq] at hx; subst hx
              have hv : LV.rel φ (.a .nils) (a.tmps.getD s undef) := hr.sr.tr s _ (by unfold filt; rw [hs]; exact hn)
              have hv : a.tmps.getD s undef = .slice none 0 0 := hv
              rw [hv]
              exact ⟨⟨rfl, rfl⟩, _, phiN_at, Nat.le_refl _, fun _ => .inl ⟨rfl, rfl, rfl⟩⟩
            · exact LV.rel_mono hle (hr.sr.tr s x (by unfold filt; rw [hs]; exact hx))
          · cases hx
        · intro i j hj
          rcases phiN_get hj with ⟨rfl, rfl⟩ | ⟨_, h1⟩
          · exact ⟨by simp, rfl⟩
          · obtain ⟨g1, g2⟩ := hr.v0 i j h1
            exact ⟨by simp; omega, g2⟩
      obtain ⟨ψ, k1, k2⟩ := conv_hr (CV := r) hr'
      exact ⟨ψ, hk.trans k1, k2⟩
    · exact conv_hr hr

theorem ordT_look {tm : List (Nat × LV)} {t : Nat} {x : LV} : ∀ {l : List Nat}, look (ordT tm l) t = some x → look tm t = some x
  | [], h => by simp [ordT, look] at h
  | s :: r, h => by
    unfold ordT at h
    split at h
    · rename_i v hv
      unfold look at h
      split at h
      · rename_i hb
        have := Nat.eq_of_beq_eq_true hb
        subst this
        simp only [Option.some.injEq] at h; subst h
        exact hv
      · exact ordT_look h
    · exact ordT_look h

theorem ordH_hr {h : HS} (hr : HR n lv w0 may φ h a w) : HR n lv w0 may φ (ordH ts h) a w := by
  refine ⟨⟨?_, hr.sr.sz, hr.sr.df, hr.sr.mr⟩, hr.v0⟩
  intro s x hx
  unfold filt at hx
  split at hx
  · rename_i hs
    exact hr.sr.tr s x (by unfold filt; rw [hs]; exact ordT_look hx)
  · cases hx

theorem roW_len {W : List Nat} : ∀ {l : List BC} {k : Nat}, (roW W k l).length = l.length
  | [], k => rfl
  | c :: r, k => by simp [roW, roW_len (l := r)]

theorem tmL_look {G foot : List Nat} {id t : Nat} {x : LV} {tm : List (Nat × LV)} : ∀ {l : List Nat}, look (tmL G ρ foot id tm l) t = some x → x = .u ∨ ∃ v, look tm t = some v ∧ backV ρ foot id (bumpV G v) = some x
  | [], h => by simp [tmL, look] at h
  | s :: r, h => by
    unfold tmL look at h
    split at h
    · rename_i hb
      have := Nat.eq_of_beq_eq_true hb
      subst this
      simp only [Option.some.injEq] at h
      split at h
      · rename_i v hv
        split at h
        · rename_i u' hu
          exact .inr ⟨v, hv, by rw [hu, h]⟩
        · exact .inl h.symm
      · exact .inl h.symm
    · exact tmL_look h

theorem tmL_has {G foot : List Nat} {id t : Nat} {tm : List (Nat × LV)} : ∀ {l : List Nat}, t ∈ l → look (tmL G ρ foot id tm l) t ≠ none
  | s :: r, h => by
    unfold tmL look
    cases hb : Nat.beq t s with
    | true => simp
    | false =>
      rcases List.mem_cons.1 h with e | h
      · subst e; simp at hb
      · exact tmL_has h

theorem look_over {β : Type} {f : Nat → Option β} {t : Nat} : ∀ {l : List (Nat × β)}, look l t ≠ none → over l f t = look l t
  | [], h => by simp [look] at h
  | (k, v) :: r, h => by
    unfold look at h ⊢
    unfold over
    cases hb : Nat.beq t k with
    | true => rfl
    | false => rw [hb] at h; exact look_over h

def exsOK {α : Type} (XS : List X) : List (X × Bool × α) → Bool
  | [] => true
  | (x, _, _) :: r => match xeq x .n || XS.any (xeq x) with
    | true => exsOK XS r
    | false => false

theorem xeq_refl (x : X) : xeq x x = true := by cases x <;> simp [xeq]

theorem lrun_in {α : Type} {XS : List X} {st : α → List Prop × List (X × Bool × α)} (hX : ∀ v, exsOK XS (st v).2 = true) : ∀ (k : Nat) (v : α) {x : X} {v' : α}, lrun st k v = some (x, v') → x = .n ∨ x ∈ XS
  | 0, v, x, v', h => by simp [lrun] at h
  | k + 1, v, x, v', h => by
    have key : ∀ {l : List (X × Bool × α)} {y : X} {v'' : α}, exsOK XS l = true → pick1 l = some (y, v'') → y = .n ∨ y ∈ XS := by
      intro l
      induction l with
      | nil => intro y v'' _ h; simp [pick1] at h
      | cons q r ih =>
        obtain ⟨z, g, u⟩ := q
        intro y v'' he h
        unfold exsOK at he
        split at he
        · rename_i hz
          cases g with
          | true =>
            simp only [pick1, Option.some.injEq, Prod.mk.injEq] at h
            obtain ⟨rfl, _⟩ := h
            simp only [Bool.or_eq_true, List.any_eq_true] at hz
            rcases hz with hz | ⟨x', h1, h2⟩
            · exact .inl (xeq_spec hz)
            · rw [xeq_spec h2]; exact .inr h1
          | false => exact ih he h
        · cases he
    simp only [lrun] at h
    split at h
    · exact lrun_in hX k _ h
    · exact key (hX v) h

theorem altsL_mem {id : Nat} {d : Pre} {nx : Nat} {g : X → Bool} {al : Alt} : ∀ {XS : List X}, al ∈ altsL id XS d nx g ↔ ∃ x ∈ XS, al = out1 id ⟨x, true, g x, d, nx⟩
  | [] => by simp [altsL]
  | x :: r => by simp only [altsL, List.mem_cons, altsL_mem (XS := r), exists_eq_or_imp]

/-! Where the loops stand. -/
def subs : Code → Nat → Nat → List Code
  | .seq a b, p, q => subs a (2 * p) q ++ subs b (2 * p + 1) q
  | .cond _ a b, p, q => subs a (2 * p) q ++ subs b (2 * p + 1) q
  | .block id a, p, q => (match Nat.beq p q with
    | true => [.block id a]
    | false => []) ++ subs a (2 * p) q
  | .loop a, p, q => subs a (2 * p) q
  | _, _, _ => []

theorem LOK_of {LT : List (Nat × Sum)} : ∀ (c : Code) (p : Nat), (∀ q f id b, (q, f) ∈ LT → Code.block id b ∈ subs c p q → SumOK P n lv (.block id b) f) → LOK P n lv LT c p
  | .seq a b, p, h => ⟨LOK_of a _ fun q f id b' hq hm => h q f id b' hq (by simp [subs, hm]), LOK_of b _ fun q f id b' hq hm => h q f id b' hq (by simp [subs, hm])⟩
  | .cond _ a b, p, h => ⟨LOK_of a _ fun q f id b' hq hm => h q f id b' hq (by simp [subs, hm]), LOK_of b _ fun q f id b' hq hm => h q f id b' hq (by simp [subs, hm])⟩
  | .block id a, p, h => ⟨fun f hf => h p f id a hf (by simp [subs]), LOK_of a _ fun q f id' b' hq hm => h q f id' b' hq (by simp [subs, hm])⟩
  | .loop a, p, h => LOK_of a _ fun q f id b' hq hm => h q f id b' hq (by simpa [subs] using hm)
  | .skip, _, _ => trivial
  | .region .., _, _ => trivial
  | .rangeFunc .., _, _ => trivial
  | .exit _, _, _ => trivial
  | .scope _, _, _ => trivial
  | .label _, _, _ => trivial
  | .goto _, _, _ => trivial
  | .ret, _, _ => trivial
  | .refuse _, _, _ => trivial

theorem LOK_cons {LT : List (Nat × Sum)} {c : Code} {p q id : Nat} {b : Code} {f : Sum} (hs : subs c p q = [.block id b]) (hf : SumOK P n lv (.block id b) f) (h : ∀ q' f' id' b', (q', f') ∈ LT → Code.block id' b' ∈ subs c p q' → SumOK P n lv (.block id' b') f') :
    ∀ q' f' id' b', (q', f') ∈ (q, f) :: LT → Code.block id' b' ∈ subs c p q' → SumOK P n lv (.block id' b') f' := by
  intro q' f' id' b' hq hm
  rcases List.mem_cons.1 hq with e | hq
  · simp only [Prod.mk.injEq] at e
    obtain ⟨rfl, rfl⟩ := e
    rw [hs, List.mem_singleton] at hm
    rw [hm]; exact hf
  · exact h q' f' id' b' hq hm

theorem LOK_nil' {c : Code} {p : Nat} : ∀ q' f' id' b', (q', f') ∈ ([] : List (Nat × Sum)) → Code.block id' b' ∈ subs c p q' → SumOK P n lv (.block id' b') f' := by
  intro q' f' id' b' h; cases h

/-- What stands for a loop is so. -/
theorem loopS_ok (hT : TOK P T) (hF : P.follows .mixedOrders = true) {α : Type} [Inhabited α] {LT : List (Nat × Sum)} {kf : Nat} {W G : List Nat} {c : Code} {p : Nat} {hd : α → HS} {rd : HS → Option α} {st : α → List Prop × List (X × Bool × α)} {F : Nat} {XS : List X} {CV : List (Nat × List Kd)} {id : Nat}
    (hE : ∀ v, bodyF P T n lv ts LT kf W G c p (hd v) = some ((st v).1, (st v).2.map fun q => (q.1, q.2.1, hd q.2.2))) (hR : ∀ h v, rd h = some v → h = hd v) (hX : ∀ v, exsOK XS (st v).2 = true) (hL : LOK P n lv LT c p) :
    SumOK P n lv (.block id (.loop c)) (loopS hd rd st F XS lv ts W G CV id) := by
  intro σ μ ρ nx obs alts h ho w0 may φ a w hs Q hQ
  unfold loopS loopI at h
  generalize footGo μ ρ 100 (refTs (filt lv σ) ρ ts) [] = foot at h
  split at h
  case h_2 => cases h
  rename_i bs0 hbs hnd
  split at h
  case h_2 => cases h
  rename_i v0 hv0
  unfold loopO at h
  generalize hK : hd (valOf (lrun st F v0)) = hKs at h
  split at h
  case h_2 => cases h
  rename_i hc
  simp only [Bool.and_eq_true] at hc
  obtain ⟨⟨hc1, hc2⟩, ⟨⟨⟨hc3, hc4⟩, hc5⟩, hc6⟩, hc7⟩ := hc
  have hl : bs0.length ≤ hKs.bs.length := Nat.le_of_ble_eq_true hc2
  cases hbk : backBlks ρ foot nx 0 (outL W G 0 hKs.bs) with
  | mk cs hss =>
  rw [hbk] at h
  simp only [Option.some.injEq, Prod.mk.injEq] at h
  obtain ⟨rfl, rfl⟩ := h
  have hok : lok st F v0 := ho.1
  refine wp_block (wp_loop_rounds F ?_)
  obtain ⟨hlen, _⟩ := blksOf_get hbs
  have hM0 := callee_mr (out := outL W G 0 hKs.bs) hs.mr hbs hnd
  have hvC : ∀ i j, phiC φ foot (outL W G 0 hKs.bs) i = some j → i < bs0.length ∧ j.v = 0 := by
    intro i j hj
    obtain ⟨b, j1, h1, _, rfl⟩ := phiC_get hj
    exact ⟨by rw [hlen]; exact (List.getElem?_eq_some_iff.1 h1).1, rfl⟩
  have hr0 : HR n lv w (mayC φ foot (outL W G 0 hKs.bs)) (phiC φ foot (outL W G 0 hKs.bs)) ⟨entT ρ foot (filt lv σ) lv, roW W 0 bs0⟩ a w := by
    refine ⟨⟨?_, hs.sz, hs.df, ?_⟩, fun i j hj => by show i < (roW W 0 bs0).length ∧ j.v = 0; rw [roW_len]; exact hvC i j hj⟩
    · intro t x hx
      unfold filt at hx
      split at hx
      · obtain ⟨v, h1, rfl⟩ := entT_look hx
        exact renV_rel (ren_moves hs.mr) (hs.tr t v h1)
      · cases hx
    · show MR w _ _ (memOf (roW W 0 bs0)) (hdsB (roW W 0 bs0)) (fun b => (roW W 0 bs0).length ≤ b) w
      rw [roW_mem, ← hdsIn_ro hl, roW_len]
      exact hM0
  obtain ⟨φ1, hk1, hr1⟩ := conv_hr (G := G) (CV := CV) hr0
  have hr2 := symH_hr (ordH_hr (ts := ts) hr1)
  rw [hR _ _ hv0] at hr2
  refine rounds_ok hT hF hE hL F v0 φ1 a w hr2 hok fun x v' ψ a' w' hrun hx hkp hhr hlen' => ?_
  have hv' : hd v' = hKs := by rw [← hK, hrun]; rfl
  rw [hv'] at hhr
  obtain ⟨g1, g2⟩ := leave_mr hM0 rfl (fun i j hj => (hvC i j hj).2) (hk1.trans hkp) hhr hc1 hl
  obtain ⟨q1, q2, q3⟩ := caller_mr hs.mr hbs hnd hc3 hc4 hc5 (Nat.le_of_ble_eq_true hc6) hc7 (fun j _ => by show nx ≤ nx + j; omega) g1 g2 hbk
  have hvK : ∀ i j, ψ i = some j → j.v = 0 := fun i j hj => (hhr.v0 i j hj).2
  have sr : SR n lv w0 may (phiB φ (phiG ψ G) ρ foot (outL W G 0 hKs.bs) nx) (over (tmL G ρ foot nx hKs.tm lv) σ) (over (pushL cs []) μ) (over (pushL hss []) ρ) (nx + 16) a' w' := by
    refine ⟨?_, hhr.sr.sz, hhr.sr.df, ?_⟩
    · intro t x hx
      unfold filt at hx
      split at hx
      · rename_i ht
        rw [look_over (tmL_has (memN_iff.1 ht))] at hx
        rcases tmL_look hx with rfl | ⟨v, h1, h2⟩
        · trivial
        · have hv := hhr.sr.tr t v (by unfold filt; rw [ht]; exact h1)
          exact (backV_rel q2 h2 (bumpV_rel hvK hv)).1
      · cases hx
    · have e1 : over (pushL cs []) μ = updL μ cs := over_of_updL cs [] μ
      have e2 : over (pushL hss []) ρ = updL ρ hss := over_of_updL hss [] ρ
      rw [e1, e2]
      refine q3.drop fun b hb => ?_
      have hb : nx + 16 ≤ b := hb
      exact ⟨by show nx ≤ b; omega, fun j _ => by omega⟩
  have hin : x ∈ XS := by
    rcases lrun_in hX F v0 hrun with e | e
    · exact absurd e hx
    · exact e
  have good : ∀ y : X, (out1 id ⟨x, true, true, ⟨tmL G ρ foot nx hKs.tm lv, pushL cs [], pushL hss []⟩, nx + 16⟩).x = y → Good n lv w0 may φ σ μ ρ y a' w' (altsL id XS ⟨tmL G ρ foot nx hKs.tm lv, pushL cs [], pushL hss []⟩ (nx + 16) fun x => isX x (lrun st F v0)) := by
    intro y hy
    have og : ∀ (z : X) (g : Bool), (out1 id ⟨z, true, g, ⟨tmL G ρ foot nx hKs.tm lv, pushL cs [], pushL hss []⟩, nx + 16⟩).g = g ∧ (out1 id ⟨z, true, g, ⟨tmL G ρ foot nx hKs.tm lv, pushL cs [], pushL hss []⟩, nx + 16⟩).d = ⟨tmL G ρ foot nx hKs.tm lv, pushL cs [], pushL hss []⟩ ∧ (out1 id ⟨z, true, g, ⟨tmL G ρ foot nx hKs.tm lv, pushL cs [], pushL hss []⟩, nx + 16⟩).nx = nx + 16 := by
      intro z g
      unfold out1
      split
      · split <;> exact ⟨rfl, rfl, rfl⟩
      · exact ⟨rfl, rfl, rfl⟩
    have hon : ∀ z, isX z (lrun st F v0) = true → On n lv w0 may φ σ μ ρ y a' w' (out1 id ⟨z, true, isX z (lrun st F v0), ⟨tmL G ρ foot nx hKs.tm lv, pushL cs [], pushL hss []⟩, nx + 16⟩) := by
      intro z hz
      rw [hz]
      have hz' : z = x := by rw [hrun] at hz; exact xeq_spec hz
      subst hz'
      obtain ⟨o1, o2, o3⟩ := og z true
      exact ⟨hy, o1, _, q1, by rw [o2, o3]; exact sr⟩
    refine ⟨⟨_, altsL_mem.2 ⟨x, hin, rfl⟩, hon x (by rw [hrun]; exact xeq_refl x)⟩, fun al hal => ?_⟩
    obtain ⟨z, _, rfl⟩ := altsL_mem.1 hal
    cases hz : isX z (lrun st F v0) with
    | true => left; have := hon z hz; rw [hz] at this; exact this
    | false => right; exact (og z false).1
  cases x with
  | n => exact absurd rfl hx
  | r => exact hQ .r a' w' (good .r rfl)
  | e i =>
    by_cases hi : i = id
    · subst hi
      have := hQ .n a' w' (good .n (by simp [out1]))
      simpa [X.real, Exit.inBlock] using this
    · have hb : Nat.beq i id = false := by
        cases hb : Nat.beq i id
        · rfl
        · exact absurd (Nat.eq_of_beq_eq_true hb) hi
      have := hQ (.e i) a' w' (good (.e i) (by simp [out1, hb]))
      simpa [X.real, Exit.inBlock, hi] using this

end

def bodyOf (P : Program) (f : Nat) : Code := match P.funcs[f]? with
  | some fn => match fn.body with
    | some c => c
    | none => .skip
  | none => .skip

def ntOf (P : Program) (f : Nat) : Nat := match P.funcs[f]? with
  | some fn => fn.ntmps
  | none => 0

/-- The loop in the block at a place. -/
def loopOf : List Code → Code
  | [.block _ (.loop c)] => c
  | _ => .skip

def blockOf : List Code → Nat
  | [.block id _] => id
  | _ => 0

theorem evG_okL' {P : Program} {T : Tab} (hT : TOK P T) (hF : P.follows .mixedOrders = true) {k f : Nat} {lv : List Nat} {W : List Nat} {LT : List (Nat × Sum)}
    (hL : ∀ q' f' id' b', (q', f') ∈ LT → Code.block id' b' ∈ subs (bodyOf P f) 1 q' → SumOK P (ntOf P f) lv (.block id' b') f') : ConOK P f (evG P T k f lv LT W) := by
  refine evG_okL hT hF fun fn c hf hb => ?_
  have e1 : bodyOf P f = c := by simp [bodyOf, hf, hb]
  have e2 : ntOf P f = fn.ntmps := by simp [ntOf, hf]
  rw [e1, e2] at hL
  exact LOK_of c 1 hL

/-! Numbers that a loop leaves as they were. -/
def keepAlt (σ : Sig) : List Nat → Alt → List Prop × Alt
  | [], α => ([], α)
  | t :: r, α => match keepAlt σ r α with
    | (ps, β) => match look β.d.tm t, σ t with
      | some (.a (.int true k x)), some (.a (.int false k' n)) => match decide (k = k') with
        | true => ((β.g = true → x = n) :: ps, ⟨β.x, β.s, β.g, ⟨(t, .a (.int false k' n)) :: β.d.tm, β.d.mem, β.d.hs⟩, β.nx⟩)
        | false => (ps, β)
      | _, _ => (ps, β)

def keepAlts (σ : Sig) (K : List Nat) : List Alt → List Prop × List Alt
  | [] => ([], [])
  | α :: r => match keepAlt σ K α, keepAlts σ K r with
    | (ps, β), (qs, l) => (ps ++ qs, β :: l)

def keepS (K : List Nat) (f : Sum) : Sum := fun σ μ ρ nx => match f σ μ ρ nx with
  | some (obs, alts) => match keepAlts σ K alts with
    | (ps, l) => some (obs ++ ps, l)
  | none => none

section
variable {P : Program} {w0 : World} {may : Nat → Prop} {n : Nat} {lv : List Nat} {φ : Phi} {σ : Sig} {μ : Mem} {ρ : Hds} {x : X} {a' : Act} {w' : World}

theorem keepAlt_on : ∀ (K : List Nat) (α : Alt), (keepAlt σ K α).2.g = α.g ∧ (Alls (keepAlt σ K α).1 → On n lv w0 may φ σ μ ρ x a' w' α → On n lv w0 may φ σ μ ρ x a' w' (keepAlt σ K α).2)
  | [], α => ⟨rfl, fun _ h => h⟩
  | t :: r, α => by
    have ih := keepAlt_on r α
    simp only [keepAlt]
    generalize hk : keepAlt σ r α = q at ih
    obtain ⟨ps, β⟩ := q
    simp only at ih ⊢
    split
    · rename_i k y k' m h1 h2
      split
      · rename_i hkk
        have hkk := of_decide_eq_true hkk
        subst hkk
        refine ⟨ih.1, fun ho hon => ?_⟩
        obtain ⟨e1, e2, ψ, e3, e4⟩ := ih.2 ho.2 hon
        have hy : y = m := ho.1 e2
        subst hy
        refine ⟨e1, e2, ψ, e3, ⟨fun t' v' hv' => ?_, e4.sz, e4.df, e4.mr⟩⟩
        unfold filt at hv'
        split at hv'
        · rename_i hm
          rw [over_cons] at hv'
          by_cases htt : t' = t
          · subst htt
            rw [upd_same] at hv'
            simp only [Option.some.injEq] at hv'; subst hv'
            have := e4.tr t' _ (by unfold filt; rw [hm]; exact (look_over (by rw [h1]; simp)).trans h1)
            exact this
          · rw [upd_other _ _ htt] at hv'
            exact e4.tr t' _ (by unfold filt; rw [hm]; exact hv')
        · cases hv'
      · exact ih
    · exact ih

theorem keepAlts_good : ∀ {K : List Nat} {l : List Alt}, Alls (keepAlts σ K l).1 → (∀ α ∈ l, On n lv w0 may φ σ μ ρ x a' w' α → ∃ β ∈ (keepAlts σ K l).2, On n lv w0 may φ σ μ ρ x a' w' β) ∧
      ((∀ α ∈ l, On n lv w0 may φ σ μ ρ x a' w' α ∨ α.g = false) → ∀ β ∈ (keepAlts σ K l).2, On n lv w0 may φ σ μ ρ x a' w' β ∨ β.g = false)
  | K, [], _ => ⟨fun α h => (List.not_mem_nil h).elim, fun _ β h => (List.not_mem_nil h).elim⟩
  | K, α :: r, h => by
    have k1 := keepAlt_on (n := n) (lv := lv) (w0 := w0) (may := may) (φ := φ) (σ := σ) (μ := μ) (ρ := ρ) (x := x) (a' := a') (w' := w') K α
    simp only [keepAlts] at h ⊢
    obtain ⟨h1, h2⟩ := Alls.append.1 h
    obtain ⟨g1, g2⟩ := keepAlts_good (K := K) (l := r) h2
    refine ⟨fun γ hγ hon => ?_, fun hall β hβ => ?_⟩
    · rcases List.mem_cons.1 hγ with rfl | hγ
      · exact ⟨_, List.mem_cons_self, k1.2 h1 hon⟩
      · obtain ⟨β, b1, b2⟩ := g1 γ hγ hon
        exact ⟨β, List.mem_cons_of_mem _ b1, b2⟩
    · rcases List.mem_cons.1 hβ with rfl | hβ
      · exact (hall α (by simp)).imp (k1.2 h1) fun e => by rw [k1.1]; exact e
      · exact g2 (fun γ hγ => hall γ (List.mem_cons_of_mem _ hγ)) β hβ

theorem keepS_ok {c : Code} {f : Sum} {K : List Nat} (hf : SumOK P n lv c f) : SumOK P n lv c (keepS K f) := by
  intro σ μ ρ nx obs alts h
  unfold keepS at h
  split at h
  case h_2 => cases h
  rename_i obs0 alts0 h0
  simp only [Option.some.injEq, Prod.mk.injEq] at h
  obtain ⟨rfl, rfl⟩ := h
  intro ho w0 may φ a w hs Q hQ
  obtain ⟨o1, o2⟩ := Alls.append.1 ho
  refine hf σ μ ρ nx obs0 alts0 h0 o1 w0 may φ a w hs Q fun x a' w' hg => hQ x a' w' ?_
  obtain ⟨g1, g2⟩ := keepAlts_good (n := n) (lv := lv) (w0 := w0) (may := may) (φ := φ) (μ := μ) (ρ := ρ) (x := x) (a' := a') (w' := w') o2
  obtain ⟨⟨α, a1, a2⟩, a3⟩ := hg
  exact ⟨g1 α a1 a2, g2 a3⟩

end

end Go.Proofs.Ytcdejlgophpdjaa.V
