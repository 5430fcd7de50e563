/-
  Code, run on the local memory (second part): what it finds holds of the real run.
-/
import Derived.Test.YtcdejlgophpdjaaVl
namespace Go.Proofs.Ytcdejlgophpdjaa.V
open Go Go.RowKit

section
variable {P : Program} {T : Tab} {n : Nat} {lv : List Nat} {LT : List (Nat × Sum)}

theorem noN_spec : ∀ {l : List Alt}, noN l = true → ∀ α ∈ l, α.x ≠ .n
  | [], _, α, h => by cases h
  | a :: r, h, α, hα => by
    unfold noN at h
    split at h
    · cases h
    · rename_i hx
      rcases List.mem_cons.1 hα with rfl | hα
      · exact hx
      · exact noN_spec h α hα

theorem splitN_spec : ∀ {l : List Alt} {c : Option Alt} {r : List Alt}, splitN l = some (c, r) → (∀ α ∈ r, α.x ≠ .n) ∧ (∀ a, c = some a → a.x = .n) ∧ (∀ α, α ∈ l ↔ c = some α ∨ α ∈ r)
  | [], c, r, h => by
    simp only [splitN, Option.some.injEq, Prod.mk.injEq] at h
    obtain ⟨rfl, rfl⟩ := h
    exact ⟨(fun α h => by cases h), (fun a h => by cases h), fun α => by simp⟩
  | a :: l, c, r, h => by
    unfold splitN at h
    split at h
    · rename_i hx
      split at h
      · rename_i hn
        simp only [Option.some.injEq, Prod.mk.injEq] at h
        obtain ⟨rfl, rfl⟩ := h
        exact ⟨noN_spec hn, fun b hb => by simp only [Option.some.injEq] at hb; subst hb; exact hx, fun α => by simp only [List.mem_cons, Option.some.injEq]; exact ⟨fun h => by rcases h with h | h <;> simp [h], fun h => by rcases h with h | h <;> simp [h]⟩⟩
      · cases h
    · rename_i hx
      split at h
      · rename_i c' l' hs
        simp only [Option.some.injEq, Prod.mk.injEq] at h
        obtain ⟨rfl, rfl⟩ := h
        obtain ⟨g1, g2, g3⟩ := splitN_spec hs
        refine ⟨fun α hα => ?_, g2, fun α => ?_⟩
        · rcases List.mem_cons.1 hα with rfl | hα
          · exact hx
          · exact g1 α hα
        · simp only [List.mem_cons, g3]
          exact ⟨fun h => by rcases h with h | h | h <;> simp [h], fun h => by rcases h with h | h | h <;> simp [h]⟩
      · cases h

theorem mem_behind {c α : Alt} : ∀ {l : List Alt}, α ∈ behind c l ↔ ∃ b ∈ l, α = ⟨b.x, (cAnd c.s c.g b.s b.g).1, (cAnd c.s c.g b.s b.g).2, b.d.on c.d, b.nx⟩
  | [] => by simp [behind]
  | b :: r => by simp only [behind, List.mem_cons, mem_behind (l := r), exists_eq_or_imp]

theorem underO_spec {s g : Bool} {l : List Prop} (h : Alls (underO s g l)) (hg : g = true) : Alls l := by
  unfold underO at h
  split at h
  · exact h
  · cases hg
  · subst hg; exact under_spec h

theorem on_over {σ : Sig} {μ : Mem} {ρ : Hds} (p q : Pre) : over (p.on q).tm σ = over p.tm (over q.tm σ) ∧ over (p.on q).mem μ = over p.mem (over q.mem μ) ∧ over (p.on q).hs ρ = over p.hs (over q.hs ρ) :=
  ⟨over_append _ _ _, over_append _ _ _, over_append _ _ _⟩

/-- One thing done behind another. -/
theorem seq_good {w0 : World} {may : Nat → Prop} {φ ψ : Phi} {σ : Sig} {μ : Mem} {ρ : Hds} {nx : Nat} {x : X} {a' : Act} {w' : World} {l bs r : List Alt} {c : Alt} (hf1 : ∀ b, nx ≤ b → ρ b = none) (hf2 : ∀ k y, nx ≤ k / 65536 → μ k = some y → y = .unk)
    (h : insAll lv nx σ μ ρ l (behind c bs) = some r) (hl : ∀ α ∈ l, α.g = false) (hc : c.g = true) (hle : φ.le ψ) (hg : Good n lv w0 may ψ (over c.d.tm σ) (over c.d.mem μ) (over c.d.hs ρ) x a' w' bs) : Good n lv w0 may φ σ μ ρ x a' w' r := by
  have key : ∀ b, On n lv w0 may ψ (over c.d.tm σ) (over c.d.mem μ) (over c.d.hs ρ) x a' w' b → On n lv w0 may φ σ μ ρ x a' w' ⟨b.x, (cAnd c.s c.g b.s b.g).1, (cAnd c.s c.g b.s b.g).2, b.d.on c.d, b.nx⟩ := by
    intro b ⟨e1, e2, χ, e3, e4⟩
    obtain ⟨q1, q2, q3⟩ := on_over (σ := σ) (μ := μ) (ρ := ρ) b.d c.d
    exact ⟨e1, by simp only [cAnd_spec, hc, e2]; rfl, χ, Phi.le_trans hle e3, by rw [q1, q2, q3]; exact e4⟩
  obtain ⟨g1, g2⟩ := insAll_on hf1 hf2 (φ := φ) (x := x) (a' := a') (w' := w') (w0 := w0) (may := may) (n := n) h (fun α hα => .inr (hl α hα)) (fun α hα => by
    obtain ⟨b, hb, rfl⟩ := mem_behind.1 hα
    rcases hg.2 b hb with hon | hoff
    · exact .inl (key b hon)
    · right; simp only [cAnd_spec, hoff, Bool.and_false])
  refine ⟨g2 (.inr ?_), g1⟩
  obtain ⟨b, hb, hon⟩ := hg.1
  exact ⟨_, mem_behind.2 ⟨b, hb, rfl⟩, key b hon⟩

/-- What is left, when something else came about than going on. -/
theorem rest_good {w0 : World} {may : Nat → Prop} {φ : Phi} {σ : Sig} {μ : Mem} {ρ : Hds} {nx : Nat} {x : X} {a' : Act} {w' : World} {l bs r : List Alt} {c : Alt} (hf1 : ∀ b, nx ≤ b → ρ b = none) (hf2 : ∀ k y, nx ≤ k / 65536 → μ k = some y → y = .unk)
    (h : insAll lv nx σ μ ρ l (behind c bs) = some r) (hc : c.g = false) (hg : Good n lv w0 may φ σ μ ρ x a' w' l) : Good n lv w0 may φ σ μ ρ x a' w' r := by
  obtain ⟨g1, g2⟩ := insAll_on hf1 hf2 (φ := φ) (x := x) (a' := a') (w' := w') (w0 := w0) (may := may) (n := n) h hg.2 (fun α hα => by
    obtain ⟨b, hb, rfl⟩ := mem_behind.1 hα
    right; simp only [cAnd_spec, hc, Bool.false_and])
  exact ⟨g2 (.inl hg.1), g1⟩

theorem good_split {w0 : World} {may : Nat → Prop} {φ : Phi} {σ : Sig} {μ : Mem} {ρ : Hds} {x : X} {a' : Act} {w' : World} {l r : List Alt} {c : Option Alt} (h : splitN l = some (c, r)) (hg : Good n lv w0 may φ σ μ ρ x a' w' l) :
    (x = .n ∧ ∃ a, c = some a ∧ On n lv w0 may φ σ μ ρ x a' w' a ∧ ∀ α ∈ r, α.g = false) ∨ (x ≠ .n ∧ Good n lv w0 may φ σ μ ρ x a' w' r ∧ ∀ a, c = some a → a.g = false) := by
  obtain ⟨g1, g2, g3⟩ := splitN_spec h
  obtain ⟨⟨α, hα, hon⟩, hall⟩ := hg
  rcases (g3 α).1 hα with hc | hα'
  · left
    have hx : x = .n := by rw [← hon.1]; exact g2 α hc
    refine ⟨hx, α, hc, hon, fun β hβ => ?_⟩
    rcases hall β ((g3 β).2 (.inr hβ)) with h' | h'
    · exact absurd (h'.1.trans hx) (g1 β hβ)
    · exact h'
  · right
    have hx : x ≠ .n := by rw [← hon.1]; exact g1 α hα'
    refine ⟨hx, ⟨⟨α, hα', hon⟩, fun β hβ => hall β ((g3 β).2 (.inr hβ))⟩, fun a ha => ?_⟩
    rcases hall a ((g3 a).2 (.inl ha)) with h' | h'
    · exact absurd (h'.1.symm.trans (g2 a ha)) hx
    · exact h'

theorem good_one {w0 : World} {may : Nat → Prop} {φ : Phi} {σ : Sig} {μ : Mem} {ρ : Hds} {nx : Nat} {x : X} {a' : Act} {w' : World} {d : Pre} {ψ : Phi} (hle : φ.le ψ) (hs : SR n lv w0 may ψ (over d.tm σ) (over d.mem μ) (over d.hs ρ) nx a' w') :
    Good n lv w0 may φ σ μ ρ x a' w' [⟨x, false, true, d, nx⟩] :=
  ⟨⟨_, List.mem_singleton.2 rfl, rfl, rfl, ψ, hle, hs⟩, fun α hα => by rw [List.mem_singleton.1 hα]; exact .inl ⟨rfl, rfl, ψ, hle, hs⟩⟩

theorem mem_outOf {id : Nat} : ∀ {l : List Alt} {α : Alt}, α ∈ outOf id l ↔ ∃ b ∈ l, α = out1 id b
  | [], α => by simp [outOf]
  | b :: r, α => by simp only [outOf, List.mem_cons, mem_outOf (l := r), exists_eq_or_imp]

theorem condOf_spec {σ : Sig} {q : Operand} {s b : Bool} (h : condOf lv σ q = some (s, b)) {φ : Phi} {a : Act} (hσ : TRel φ (filt lv σ) a.tmps) : a.eval q = .bool b := by
  unfold condOf at h
  split at h
  · rename_i s' b' hl
    simp only [Option.some.injEq, Prod.mk.injEq] at h
    obtain ⟨rfl, rfl⟩ := h
    exact lev_rel hσ hl
  · cases h

theorem ev_wp (hT : TOK P T) (hF : P.follows .mixedOrders = true) : ∀ (k : Nat) (q : Bool) (c : Code) (p : Nat) (σ : Sig) (μ : Mem) (ρ : Hds) (nx : Nat) {obs : List Prop} {alts : List Alt}, ev P T n lv LT k q c p σ μ ρ nx = some (obs, alts) → LOK P n lv LT c p → Alls obs →
    ∀ (w0 : World) (may : Nat → Prop) (φ : Phi) (a : Act) (w : World), SR n lv w0 may φ σ μ ρ nx a w → ∀ (Q : Exit → Act → World → Prop), (∀ x a' w', Good n lv w0 may φ σ μ ρ x a' w' alts → Q x.real a' w') → (if q then Code.rounds P c Q k a w else c.wp P Q a w) := by
  intro k
  induction k with
  | zero => intro q c p σ μ ρ nx obs alts h; simp [ev] at h
  | succ k ih =>
    intro q c p σ μ ρ nx obs alts h hL ho w0 may φ a w hs Q hQ
    obtain ⟨hf1, hf2⟩ := hs.fresh
    cases q with
    | true =>
      simp only [ev] at h
      simp only [if_true]
      split at h
      · cases h
      rename_i obs1 alts1 h1
      split at h
      · cases h
      · rename_i l hsp
        simp only [Option.some.injEq, Prod.mk.injEq] at h
        obtain ⟨rfl, rfl⟩ := h
        have := ih false c p σ μ ρ nx h1 hL ho w0 may φ a w hs (Exit.then (Code.rounds P c Q k) Q) fun x a' w' hg => by
          rcases good_split hsp hg with ⟨_, a0, e, _⟩ | ⟨hx, hg', _⟩
          · cases e
          · have := hQ x a' w' hg'
            cases x with
            | n => exact absurd rfl hx
            | e id => exact this
            | r => exact this
        rw [rounds_succ]
        simpa using this
      · rename_i a0 l hsp
        split at h
        · cases h
        rename_i obs2 bs h2
        split at h
        · rename_i r hr
          simp only [Option.some.injEq, Prod.mk.injEq] at h
          obtain ⟨rfl, rfl⟩ := h
          obtain ⟨o1, o2⟩ := Alls.append.1 ho
          have := ih false c p σ μ ρ nx h1 hL o1 w0 may φ a w hs (Exit.then (Code.rounds P c Q k) Q) fun x a' w' hg => by
            rcases good_split hsp hg with ⟨hx, a1, e, hon, hoff⟩ | ⟨hx, hg', hoff⟩
            · subst hx
              simp only [Option.some.injEq] at e; subst e
              obtain ⟨_, e2, ψ, e3, e4⟩ := hon
              have := ih true c p _ _ _ _ h2 hL (underO_spec o2 e2) w0 may ψ a' w' e4 Q fun x a'' w'' hg'' => hQ x a'' w'' (seq_good hf1 hf2 hr hoff e2 e3 hg'')
              show Code.rounds P c Q k a' w'
              simpa using this
            · have := hQ x a' w' (rest_good hf1 hf2 hr (hoff a0 rfl) hg')
              cases x with
              | n => exact absurd rfl hx
              | e id => exact this
              | r => exact this
          rw [rounds_succ]
          simpa using this
        · cases h
    | false =>
      simp only [Bool.false_eq_true, if_false]
      cases c with
      | skip =>
        simp only [ev, Option.some.injEq, Prod.mk.injEq] at h
        obtain ⟨rfl, rfl⟩ := h
        exact wp_skip (hQ .n a w (good_one φ.le_refl hs))
      | region id ops draw =>
        simp only [ev] at h
        split at h
        · rename_i obs' d hl
          simp only [Option.some.injEq, Prod.mk.injEq] at h
          obtain ⟨rfl, rfl⟩ := h
          exact region_wp hT hF hl ho hs fun φ' a' w' hle hs' => hQ .n a' w' (good_one hle hs')
        · cases h
      | seq c1 c2 =>
        obtain ⟨L1, L2⟩ := hL
        simp only [ev] at h
        refine wp_seq ?_
        split at h
        · cases h
        rename_i obs1 alts1 h1
        split at h
        · cases h
        · rename_i l hsp
          simp only [Option.some.injEq, Prod.mk.injEq] at h
          obtain ⟨rfl, rfl⟩ := h
          have := ih false c1 _ σ μ ρ nx h1 L1 ho w0 may φ a w hs (Exit.then (c2.wp P Q) Q) fun x a' w' hg => by
            rcases good_split hsp hg with ⟨_, a0, e, _⟩ | ⟨hx, hg', _⟩
            · cases e
            · have := hQ x a' w' hg'
              cases x with
              | n => exact absurd rfl hx
              | e id => exact this
              | r => exact this
          simpa using this
        · rename_i a0 l hsp
          split at h
          · cases h
          rename_i obs2 bs h2
          split at h
          · rename_i r hr
            simp only [Option.some.injEq, Prod.mk.injEq] at h
            obtain ⟨rfl, rfl⟩ := h
            obtain ⟨o1, o2⟩ := Alls.append.1 ho
            have := ih false c1 _ σ μ ρ nx h1 L1 o1 w0 may φ a w hs (Exit.then (c2.wp P Q) Q) fun x a' w' hg => by
              rcases good_split hsp hg with ⟨hx, a1, e, hon, hoff⟩ | ⟨hx, hg', hoff⟩
              · subst hx
                simp only [Option.some.injEq] at e; subst e
                obtain ⟨_, e2, ψ, e3, e4⟩ := hon
                have := ih false c2 _ _ _ _ _ h2 L2 (underO_spec o2 e2) w0 may ψ a' w' e4 Q fun x a'' w'' hg'' => hQ x a'' w'' (seq_good hf1 hf2 hr hoff e2 e3 hg'')
                show Code.wp P c2 Q a' w'
                simpa using this
              · have := hQ x a' w' (rest_good hf1 hf2 hr (hoff a0 rfl) hg')
                cases x with
                | n => exact absurd rfl hx
                | e id => exact this
                | r => exact this
            simpa using this
          · cases h
      | cond q c1 c2 =>
        obtain ⟨L1, L2⟩ := hL
        simp only [ev] at h
        split at h
        · rename_i hq
          have := ih false c1 _ σ μ ρ nx h L1 ho w0 may φ a w hs Q hQ
          exact wp_cond_true (condOf_spec hq hs.tr) (by simpa using this)
        · rename_i hq
          have := ih false c2 _ σ μ ρ nx h L2 ho w0 may φ a w hs Q hQ
          exact wp_cond_false (condOf_spec hq hs.tr) (by simpa using this)
        · rename_i g hq
          split at h
          · split at h
            case h_2 => cases h
            rename_i o1 l1 h1
            simp only [Option.some.injEq, Prod.mk.injEq] at h
            obtain ⟨rfl, rfl⟩ := h
            have := ih false c1 _ σ μ ρ nx h1 L1 ho.2 w0 may φ a w hs Q hQ
            exact wp_cond_true (by rw [condOf_spec hq hs.tr, ho.1]) (by simpa using this)
          · split at h
            case h_2 => cases h
            rename_i o2 l2 h2
            simp only [Option.some.injEq, Prod.mk.injEq] at h
            obtain ⟨rfl, rfl⟩ := h
            have := ih false c2 _ σ μ ρ nx h2 L2 ho.2 w0 may φ a w hs Q hQ
            exact wp_cond_false (by rw [condOf_spec hq hs.tr, ho.1]) (by simpa using this)
          split at h
          case h_2 => cases h
          rename_i o1 l1 o2 l2 h1 h2
          split at h
          case h_2 => cases h
          rename_i l hl
          simp only [Option.some.injEq, Prod.mk.injEq] at h
          obtain ⟨rfl, rfl⟩ := h
          obtain ⟨p1, p2⟩ := Alls.append.1 ho
          have hv := condOf_spec hq hs.tr
          cases g with
          | true =>
            have := ih false c1 _ σ μ ρ nx h1 L1 (under_spec p1) w0 may φ a w hs Q fun x a' w' hg => by
              obtain ⟨k1, k2⟩ := joinC_t hf1 hf2 hl hg.2
              exact hQ x a' w' ⟨k2 hg.1, k1⟩
            exact wp_cond_true hv (by simpa using this)
          | false =>
            have := ih false c2 _ σ μ ρ nx h2 L2 (under_spec p2) w0 may φ a w hs Q fun x a' w' hg => by
              obtain ⟨k1, k2⟩ := joinC_f hf1 hf2 hl hg.2
              exact hQ x a' w' ⟨k2 hg.1, k1⟩
            exact wp_cond_false hv (by simpa using this)
        · cases h
      | block id c1 =>
        obtain ⟨L1, L2⟩ := hL
        simp only [ev] at h
        split at h
        · rename_i x hx
          obtain ⟨f, hf, he⟩ := trySum_mem hx
          rw [h] at he
          exact L1 f hf σ μ ρ nx obs alts he ho w0 may φ a w hs Q hQ
        · split at h
          case h_2 => cases h
          rename_i obs1 alts1 h1
          split at h
          case h_2 => cases h
          rename_i l hl
          simp only [Option.some.injEq, Prod.mk.injEq] at h
          obtain ⟨rfl, rfl⟩ := h
          refine wp_block ?_
          have key := ih false c1 _ σ μ ρ nx h1 L2 ho w0 may φ a w hs (Exit.inBlock id Q) fun x a' w' hg => by
            -- the exit, as the block leaves it
            have hfin : ∀ y : X, (∀ b, On n lv w0 may φ σ μ ρ x a' w' b → On n lv w0 may φ σ μ ρ y a' w' (out1 id b)) → Good n lv w0 may φ σ μ ρ y a' w' l := by
              intro y hy
              obtain ⟨g1, g2⟩ := insAll_on hf1 hf2 (φ := φ) (x := y) (a' := a') (w' := w') (w0 := w0) (may := may) (n := n) hl (fun α hα => by cases hα) (fun α hα => by
                obtain ⟨b, hb, rfl⟩ := mem_outOf.1 hα
                rcases hg.2 b hb with hon | hoff
                · exact .inl (hy b hon)
                · right
                  unfold out1
                  split
                  · split
                    · exact hoff
                    · exact hoff
                  · exact hoff)
              refine ⟨g2 (.inr ?_), g1⟩
              obtain ⟨b, hb, hon⟩ := hg.1
              exact ⟨_, mem_outOf.2 ⟨b, hb, rfl⟩, hy b hon⟩
            cases x with
            | n =>
              refine hQ .n a' w' (hfin .n fun b hon => ?_)
              unfold out1; rw [hon.1]; exact hon
            | r =>
              refine hQ .r a' w' (hfin .r fun b hon => ?_)
              unfold out1; rw [hon.1]; exact hon
            | e i =>
              by_cases hi : i = id
              · subst hi
                have := hQ .n a' w' (hfin .n fun b hon => by
                  unfold out1; rw [hon.1]
                  simp only [Nat.beq_refl]
                  exact ⟨rfl, hon.2⟩)
                simpa [X.real, Exit.inBlock] using this
              · have := hQ (.e i) a' w' (hfin (.e i) fun b hon => by
                  unfold out1; rw [hon.1]
                  have : Nat.beq i id = false := by
                    cases hb : Nat.beq i id
                    · rfl
                    · exact absurd (Nat.eq_of_beq_eq_true hb) hi
                  simp only [this]
                  exact hon)
                simpa [X.real, Exit.inBlock, hi] using this
          simpa using key
      | loop c1 =>
        simp only [ev] at h
        have := ih true c1 _ σ μ ρ nx h hL ho w0 may φ a w hs Q hQ
        simp only [if_true] at this
        exact wp_loop_rounds k this
      | exit id =>
        simp only [ev, Option.some.injEq, Prod.mk.injEq] at h
        obtain ⟨rfl, rfl⟩ := h
        exact wp_exit (hQ (.e id) a w (good_one φ.le_refl hs))
      | ret =>
        simp only [ev, Option.some.injEq, Prod.mk.injEq] at h
        obtain ⟨rfl, rfl⟩ := h
        exact wp_ret (hQ .r a w (good_one φ.le_refl hs))
      | rangeFunc => simp [ev] at h
      | scope => simp [ev] at h
      | label => simp [ev] at h
      | goto => simp [ev] at h
      | refuse => simp [ev] at h

end
end Go.Proofs.Ytcdejlgophpdjaa.V
