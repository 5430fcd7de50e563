/-
  That each operation does on the real memory what the function says (fifth part: new blocks, append, make).
-/
import Derived.Laws.AppendOwn
import Derived.Laws.MakeOwn
import Derived.Test.YtcdejlgophpdjaaQRasterTiles0
section
namespace Go.Proofs.Ytcdejlgophpdjaa.V
open Go Go.RowKit

def setP (φ : Phi) (b : Nat) (j : Inf) : Phi := fun n => if n = b then some j else φ n
theorem setP_same (φ : Phi) (b : Nat) (j : Inf) : setP φ b j b = some j := if_pos rfl

section
variable {P : Program} {w0 : World} {may : Nat → Prop} {φ : Phi} {σ : Sig} {μ : Mem} {ρ : Hds} {fr : Nat → Prop} {w : World} {a : Act} {o : Oper}

theorem cell_none (hM : MR w0 may φ μ ρ fr w) {k : Nat} {x : At} (h : μ k = some x) (hn : φ (k / 65536) = none) : x = .unk := by
  rcases hM.cell k x h with e | ⟨i, hi, _⟩
  · exact e
  · rw [hn] at hi; cases hi

/-- A new block of cells. -/
theorem MR.newCells (hM : MR w0 may φ μ ρ fr w) {id : Nat} (hid : fr id) {l : List At} {arr : Array Value} (ty : TypeId) (hl : All2 (At.rel φ) l arr.toList) (h1 : l.length ≤ 65536) :
    φ.le (setP φ id ⟨ty, some (w.heap.size, 0), arr.size, arr.size, 0, false⟩) ∧
    MR w0 may (setP φ id ⟨ty, some (w.heap.size, 0), arr.size, arr.size, 0, false⟩) (updL μ (enum id 0 l)) (updL ρ [(id, ⟨0, l.length, false, none⟩)]) (fun b => fr b ∧ b ≠ id) (w.alloc (.cells arr ty)) := by
  have hn := hM.dom id hid
  have hle : φ.le (setP φ id ⟨ty, some (w.heap.size, 0), arr.size, arr.size, 0, false⟩) := phi_upd_le (.inl hn)
  have hlen : l.length = arr.size := by have := hl.length; simpa using this
  have hnew : (w.alloc (.cells arr ty)).heap[w.heap.size]? = some (.cells arr ty (0, 0)) := by show (w.heap.push _)[w.heap.size]? = _; simp
  refine ⟨hle, ?_⟩
  refine hM.step (b := id) (j := ⟨ty, some (w.heap.size, 0), arr.size, arr.size, 0, false⟩) (r := w.heap.size) (arr := arr) (.inl hn) rfl rfl rfl (.inr (Nat.le_refl _)) hnew
    (fun k hk _ => Below.heap_alloc _ _ _ hk) rfl rfl rfl (by show _ ≤ (w.heap.push _).size; simp) (frozen_alloc w arr ty) ?_ ?_ ?_
  · intro k x hx
    rcases updL_spec hx with h2 | ⟨h2, _⟩
    · obtain ⟨j, j1, j2⟩ := mem_enum.1 h2
      have hjl : j < l.length := (List.getElem?_eq_some_iff.1 j1).1
      obtain ⟨v, v1, v2⟩ := hl.get j1
      right; right
      rw [Nat.zero_add] at j2
      subst j2
      rw [key_div _ _ (by omega), key_mod _ _ (by omega)]
      exact ⟨rfl, rfl, by show j < arr.size; omega, w.heap.size, 0, arr, ty, (0, 0), v, rfl, hnew, by simpa using v1, At.rel_mono hle v2⟩
    · by_cases hk : k / 65536 = id
      · right; left; exact cell_none hM h2 (by rw [hk]; exact hn)
      · exact .inl ⟨hk, h2⟩
  · intro c g hg
    rcases updL_spec hg with h2 | ⟨h2, h3⟩
    · simp only [List.mem_singleton, Prod.mk.injEq] at h2
      obtain ⟨rfl, rfl⟩ := h2
      exact .inr ⟨rfl, rfl, rfl, fun _ => ⟨rfl, hlen.symm, fun _ => rfl⟩, fun R hR => by cases hR⟩
    · refine .inl ⟨fun e => ?_, h2⟩
      subst e; exact h3 _ (List.mem_singleton.2 rfl)
  · intro k x g hx hne hk hg
    rcases updL_spec hg with h2 | ⟨h2, h3⟩
    · simp only [List.mem_singleton, Prod.mk.injEq] at h2
      obtain ⟨_, rfl⟩ := h2
      exact ⟨rfl, fun R hR => by cases hR⟩
    · exact absurd (by simp) (h3 ⟨0, l.length, false, none⟩)

/-- A new block of cells, a part of which may be rows. -/
theorem MR.newMixed (hM : MR w0 may φ μ ρ fr w) {id : Nat} (hid : fr id) {l : List At} {arr : Array Value} (ty : TypeId) (hl : All2 (At.rel φ) l arr.toList) (h1 : l.length ≤ 65536) {m : Option (Nat × Nat × Nat)} {cs : List (Nat × At)} {hd : Hd} (hm : newMix m id l = some (cs, hd)) :
    ∃ n, φ.le (setP φ id ⟨ty, some (w.heap.size, 0), arr.size, n, 0, false⟩) ∧
    MR w0 may (setP φ id ⟨ty, some (w.heap.size, 0), arr.size, n, 0, false⟩) (updL μ cs) (updL ρ [(id, hd)]) (fun b => fr b ∧ b ≠ id) (w.alloc (.cells arr ty)) := by
  cases m with
  | none =>
    simp only [newMix, Option.some.injEq, Prod.mk.injEq] at hm
    obtain ⟨rfl, rfl⟩ := hm
    exact ⟨_, hM.newCells hid ty hl h1⟩
  | some q =>
    obtain ⟨st, el, N⟩ := q
    simp only [newMix] at hm
    split at hm
    case h_2 => cases hm
    rename_i sh hsh hb
    split at hm
    case h_2 => cases hm
    rename_i rows hrows hb2
    simp only [Option.some.injEq, Prod.mk.injEq] at hm
    obtain ⟨rfl, rfl⟩ := hm
    simp only [Bool.and_eq_true] at hb
    have b1 := Nat.le_of_ble_eq_true hb.1
    have b2 : sh.length = el := Nat.eq_of_beq_eq_true hb2
    have hn := hM.dom id hid
    have hle : φ.le (setP φ id ⟨ty, some (w.heap.size, 0), arr.size, N, 0, false⟩) := phi_upd_le (.inl hn)
    have hlen : l.length = arr.size := by have := hl.length; simpa using this
    have hnew : (w.alloc (.cells arr ty)).heap[w.heap.size]? = some (.cells arr ty (0, 0)) := by show (w.heap.push _)[w.heap.size]? = _; simp
    obtain ⟨e1, _, e3⟩ := encRows_spec hrows ((hl.drop st).take (N * el))
    have cellIn : ∀ (j : Nat) (x : At), l[j]? = some x → j < l.length → CellOK ((w.alloc (.cells arr ty)).heap[·]?) (fun n => if n = id then some ⟨ty, some (w.heap.size, 0), arr.size, N, 0, false⟩ else φ n) ⟨ty, some (w.heap.size, 0), arr.size, N, 0, false⟩ j x := fun j x j1 hj => by
      obtain ⟨v, v1, v2⟩ := hl.get j1
      exact ⟨rfl, by show j < arr.size; omega, w.heap.size, 0, arr, ty, (0, 0), v, rfl, hnew, by simpa using v1, At.rel_mono hle v2⟩
    refine ⟨N, hle, ?_⟩
    refine hM.step (b := id) (j := ⟨ty, some (w.heap.size, 0), arr.size, N, 0, false⟩) (r := w.heap.size) (arr := arr) (.inl hn) rfl rfl rfl (.inr (Nat.le_refl _)) hnew
      (fun k hk _ => Below.heap_alloc _ _ _ hk) rfl rfl rfl (by show _ ≤ (w.heap.push _).size; simp) (frozen_alloc w arr ty) ?_ ?_ ?_
    · intro k x hx
      rcases updL_spec hx with h2 | ⟨h2, _⟩
      · rcases List.mem_append.1 h2 with h2 | h2
        · obtain ⟨j, j1, j2⟩ := mem_enum.1 h2
          rw [List.getElem?_take] at j1
          split at j1
          · have hjl : j < l.length := (List.getElem?_eq_some_iff.1 j1).1
            right; right
            rw [Nat.zero_add] at j2
            subst j2
            rw [key_div _ _ (by omega), key_mod _ _ (by omega)]
            exact ⟨rfl, cellIn j x j1 hjl⟩
          · cases j1
        · obtain ⟨j, j1, j2⟩ := mem_enum.1 h2
          rw [List.getElem?_drop] at j1
          have hjl : st + N * el + j < l.length := (List.getElem?_eq_some_iff.1 j1).1
          right; right
          subst j2
          rw [key_div _ _ (by omega), key_mod _ _ (by omega)]
          exact ⟨rfl, cellIn _ x j1 hjl⟩
      · by_cases hk : k / 65536 = id
        · right; left; exact cell_none hM h2 (by rw [hk]; exact hn)
        · exact .inl ⟨hk, h2⟩
    · intro c g hg
      rcases updL_spec hg with h2 | ⟨h2, h3⟩
      · simp only [List.mem_singleton, Prod.mk.injEq] at h2
        obtain ⟨rfl, rfl⟩ := h2
        refine .inr ⟨rfl, rfl, rfl, fun _ => ⟨rfl, hlen.symm, fun h => by cases h⟩, fun R hR => ?_⟩
        simp only [Option.some.injEq] at hR
        subst hR
        refine ⟨e1, fun N' hN => by simp only [Option.some.injEq] at hN; exact hN, .inr ⟨w.heap.size, 0, arr, ty, (0, 0), rfl, hnew, ⟨fun p row hp => ?_, ?_⟩, ?_⟩⟩
        · obtain ⟨q1, q2⟩ := e3 p row hp
          refine ⟨q1, fun j n k hj hk => ?_⟩
          have := q2 j n k hj hk
          rw [List.getElem?_take] at this
          split at this
          · rw [List.getElem?_drop] at this
            rw [← this]
            simp only [Nat.zero_add, Array.getElem?_toList]
            congr 1
            simp only [b2]; omega
          · cases this
        · simp only [e1, b2]; omega
        · simp only [e1, b2]; omega
      · refine .inl ⟨fun e => ?_, h2⟩
        subst e; exact h3 _ (List.mem_singleton.2 rfl)
    · intro k x g hx hne hk hg
      rcases updL_spec hg with h2 | ⟨h2, h3⟩
      · simp only [List.mem_singleton, Prod.mk.injEq] at h2
        obtain ⟨_, rfl⟩ := h2
        refine ⟨rfl, fun R hR => ?_⟩
        simp only [Option.some.injEq] at hR
        subst hR
        simp only [e1, b2]
        rcases updL_spec hx with h4 | ⟨h4, _⟩
        · rcases List.mem_append.1 h4 with h4 | h4
          · obtain ⟨j, j1, j2⟩ := mem_enum.1 h4
            rw [List.getElem?_take] at j1
            split at j1
            · have hjl : j < l.length := (List.getElem?_eq_some_iff.1 j1).1
              rw [Nat.zero_add] at j2
              subst j2
              rw [key_mod _ _ (by omega)]
              left; omega
            · cases j1
          · obtain ⟨j, j1, j2⟩ := mem_enum.1 h4
            rw [List.getElem?_drop] at j1
            have hjl : st + N * el + j < l.length := (List.getElem?_eq_some_iff.1 j1).1
            subst j2
            rw [key_mod _ _ (by omega)]
            right; omega
        · exact absurd (cell_none hM h4 (by rw [hk]; exact hn)) hne
      · exact absurd (by simp) (h3 ⟨0, l.length, false, some ⟨st, sh, rows, some N⟩⟩)

/-- A block of rows, new or in the place of an older one. -/
theorem MR.newRows (hM : MR w0 may φ μ ρ fr w) {b : Nat} {v n : Nat} (hb : φ b = none ∨ ∃ i, φ b = some i ∧ i.v < v ∧ i.ro = false) {R : Rw} {arr : Array Value} {ty : TypeId} {r : Nat} {w' : World}
    (hr : (∃ i, φ b = some i ∧ i.a = some (r, 0)) ∨ w.heap.size ≤ r) (hheap : w'.heap[r]? = some (.cells arr ty (0, 0)))
    (hoth : ∀ k, k < w.heap.size → k ≠ r → w'.heap[k]? = w.heap[k]?) (os : w'.os = w.os) (tape : w'.tape = w.tape) (output : w'.output = w.output) (size : w.heap.size ≤ w'.heap.size) (frz : ∀ a, w'.frozen? a = w.frozen? a)
    (hR : RowsIn arr 0 R) (hfx : R.fx = none) (hn : R.l.length = n) (hno : ∀ k x, μ k = some x → k / 65536 = b → x = .unk) :
    φ.le (setP φ b ⟨ty, some (r, 0), arr.size, n, v, false⟩) ∧
    MR w0 may (setP φ b ⟨ty, some (r, 0), arr.size, n, v, false⟩) μ (updL ρ [(b, ⟨v, 0, false, some R⟩)]) (fun c => fr c ∧ c ≠ b) w' := by
  have hle : φ.le (setP φ b ⟨ty, some (r, 0), arr.size, n, v, false⟩) := phi_upd_le (hb.imp id fun ⟨i, h1, h2, _⟩ => ⟨i, h1, .inr h2⟩)
  refine ⟨hle, ?_⟩
  refine hM.step (b := b) (j := ⟨ty, some (r, 0), arr.size, n, v, false⟩) (r := r) (arr := arr) (hb.imp id fun ⟨i, h1, h2, h3⟩ => ⟨i, h1, .inr h2, h3⟩) rfl rfl rfl hr hheap hoth os tape output size frz ?_ ?_ ?_
  · intro k x hx
    by_cases hk : k / 65536 = b
    · right; left; exact hno k x hx hk
    · exact .inl ⟨hk, hx⟩
  · intro c g hg
    rcases updL_spec hg with h2 | ⟨h2, h3⟩
    · simp only [List.mem_singleton, Prod.mk.injEq] at h2
      obtain ⟨rfl, rfl⟩ := h2
      refine .inr ⟨rfl, rfl, rfl, (fun hg => by simp [Hd.grows, hfx] at hg), fun R' hR' => ?_⟩
      simp only [Option.some.injEq] at hR'; subst hR'
      refine ⟨hn, (fun N hN => by rw [hfx] at hN; cases hN), .inr ⟨r, 0, arr, ty, (0, 0), rfl, hheap, hR, ?_⟩⟩
      have := hR.2; simpa using this
    · refine .inl ⟨fun e => ?_, h2⟩
      subst e; exact h3 _ (List.mem_singleton.2 rfl)
  · intro k x g hx hne hk hg
    exact absurd (hno k x hx hk) hne

/-- Cells of no rows: a slice that is nil. -/
theorem MR.nilRows (hM : MR w0 may φ μ ρ fr w) {id : Nat} (hid : fr id) {R : Rw} (hl : R.l = []) (hfx : R.fx = none) (ty : TypeId) :
    φ.le (setP φ id ⟨ty, none, 0, 0, 0, false⟩) ∧ MR w0 may (setP φ id ⟨ty, none, 0, 0, 0, false⟩) μ (updL ρ [(id, ⟨0, 0, false, some R⟩)]) (fun c => fr c ∧ c ≠ id) w := by
  have hn := hM.dom id hid
  have hle : φ.le (setP φ id ⟨ty, none, 0, 0, 0, false⟩) := phi_upd_le (.inl hn)
  have get : ∀ c i, setP φ id ⟨ty, none, 0, 0, 0, false⟩ c = some i → (c = id ∧ i.a = none) ∨ (c ≠ id ∧ φ c = some i) := by
    intro c i h
    unfold setP at h
    split at h
    · rename_i e; simp only [Option.some.injEq] at h; subst h; exact .inl ⟨e, rfl⟩
    · rename_i e; exact .inr ⟨e, h⟩
  refine ⟨hle, ?_⟩
  constructor
  · intro k x hx
    rcases hM.cell k x hx with e | ⟨i, h1, h2⟩
    · exact .inl e
    · right
      have hk : k / 65536 ≠ id := fun e => by rw [e, hn] at h1; cases h1
      exact ⟨i, by simp [setP, hk, h1], h2.other hle fun _ _ _ => rfl⟩
  · intro c g hg
    rcases updL_spec hg with h2 | ⟨h2, h3⟩
    · simp only [List.mem_singleton, Prod.mk.injEq] at h2
      obtain ⟨rfl, rfl⟩ := h2
      refine ⟨_, by simp [setP]; rfl, rfl, rfl, (fun hg => by simp [Hd.grows, hfx] at hg), fun R' hR' => ?_⟩
      simp only [Option.some.injEq] at hR'; subst hR'
      exact ⟨by simp [hl], (fun N hN => by rw [hfx] at hN; cases hN), .inl ⟨rfl, hl, hfx⟩⟩
    · have hc : c ≠ id := fun e => by subst e; exact h3 _ (List.mem_singleton.2 rfl)
      obtain ⟨i, h4, h5⟩ := hM.hdr c g h2
      exact ⟨i, by simp [setP, hc, h4], h5⟩
  · intro k x g hx hne hg
    rcases updL_spec hg with h2 | ⟨h2, h3⟩
    · simp only [List.mem_singleton, Prod.mk.injEq] at h2
      exact absurd (cell_none hM hx (by rw [h2.1]; exact hn)) hne
    · exact hM.apart k x g hx hne h2
  · intro c c' i i' r o o' hc hc' hi hi'
    rcases get c i hc with ⟨_, e⟩ | ⟨_, e⟩
    · rw [e] at hi; cases hi
    · rcases get c' i' hc' with ⟨_, e'⟩ | ⟨_, e'⟩
      · rw [e'] at hi'; cases hi'
      · exact hM.inj c c' i i' r o o' e e' hi hi'
  · intro c i r o hc hi hro
    rcases get c i hc with ⟨_, e⟩ | ⟨_, e⟩
    · rw [e] at hi; cases hi
    · exact hM.own c i r o e hi hro
  · intro c i r o hc hi hro
    rcases get c i hc with ⟨_, e⟩ | ⟨_, e⟩
    · rw [e] at hi; cases hi
    · exact hM.keep c i r o e hi hro
  · intro c hc
    simp only [setP, hc.2, if_false]; exact hM.dom c hc.1
  · intro c i r o hc hi
    rcases get c i hc with ⟨_, e⟩ | ⟨_, e⟩
    · rw [e] at hi; cases hi
    · exact hM.big c i r o e hi
  · exact hM.os
  · exact hM.tape
  · exact hM.output
  · exact hM.size
  · exact hM.block
  · exact hM.frz

/-! append -/
theorem kdsEq_spec : ∀ {k k' : List Kd}, kdsEq k k' = true → k = k'
  | [], [], _ => rfl
  | k :: ks, k' :: ks', h => by
    unfold kdsEq at h
    split at h
    · rename_i hk; rw [kdEq_spec hk, kdsEq_spec h]
    · cases h
  | [], _ :: _, h => by simp [kdsEq] at h
  | _ :: _, [], h => by simp [kdsEq] at h

/-- Values that are rows' numbers, one behind the other. -/
def RowVals (sh : List Kd) (l : List (List Int)) (vs : List Value) : Prop :=
  vs.length = l.length * sh.length ∧ ∀ (p : Nat) row, l[p]? = some row → row.length = sh.length ∧ ∀ (j : Nat) m k, row[j]? = some m → sh[j]? = some k → vs[p * sh.length + j]? = some (k.val m)

theorem RowVals.nil (sh : List Kd) : RowVals sh [] [] := ⟨by simp, fun p row h => by simp at h⟩

theorem RowVals.app {sh : List Kd} {l m : List (List Int)} {us vs : List Value} (h : RowVals sh l us) (k : RowVals sh m vs) : RowVals sh (l ++ m) (us ++ vs) := by
  refine ⟨by simp [h.1, k.1, Nat.add_mul], fun p row hp => ?_⟩
  rw [List.getElem?_append] at hp
  split at hp
  · rename_i hlt
    obtain ⟨a1, a2⟩ := h.2 p row hp
    refine ⟨a1, fun j m k hj hk => ?_⟩
    have hjl : j < sh.length := (List.getElem?_eq_some_iff.1 hk).1
    rw [List.getElem?_append_left]
    · exact a2 j m k hj hk
    · rw [h.1]
      have := Nat.mul_le_mul_right sh.length (show p + 1 ≤ l.length by omega)
      rw [Nat.succ_mul] at this; omega
  · rename_i hlt
    obtain ⟨a1, a2⟩ := k.2 _ row hp
    refine ⟨a1, fun j m k' hj hk => ?_⟩
    have := a2 j m k' hj hk
    have hge : us.length ≤ p * sh.length + j := by
      rw [h.1]
      have := Nat.mul_le_mul_right sh.length (show l.length ≤ p by omega)
      omega
    rw [List.getElem?_append_right hge, ← this]
    congr 1
    rw [h.1, Nat.sub_mul]
    have := Nat.mul_le_mul_right sh.length (show l.length ≤ p by omega)
    omega

theorem RowVals.one {sh : List Kd} {l : List (List Int)} {vs : List Value} (h : RowVals sh l vs) : ∀ u ∈ vs, u.oneCell' = true := by
  intro u hu
  obtain ⟨q, hq, rfl⟩ := List.mem_iff_getElem.1 hu
  rcases Nat.eq_zero_or_pos sh.length with h0 | h0
  · rw [h.1, h0] at hq; simp at hq
  · have hp : q / sh.length < l.length := by rw [Nat.div_lt_iff_lt_mul h0]; rw [h.1] at hq; exact hq
    obtain ⟨a1, a2⟩ := h.2 (q / sh.length) l[q / sh.length] (by simp [hp])
    have hm : q % sh.length < sh.length := Nat.mod_lt _ h0
    have := a2 (q % sh.length) (l[q / sh.length][q % sh.length]'(by omega)) sh[q % sh.length] (by simp) (by simp [hm])
    rw [Nat.mul_comm, Nat.div_add_mod] at this
    rw [List.getElem?_eq_getElem hq] at this
    simp only [Option.some.injEq] at this
    rw [this]
    cases sh[q % sh.length] <;> rfl

theorem RowsIn.vals {arr : Array Value} {o : Nat} {R : Rw} (h : RowsIn arr o R) : RowVals R.sh R.l ((arr.toList.drop (o + R.st)).take (R.l.length * R.sh.length)) := by
  refine ⟨by have := h.2; simp; omega, fun p row hp => ?_⟩
  obtain ⟨a1, a2⟩ := h.1 p row hp
  refine ⟨a1, fun j m k hj hk => ?_⟩
  have hpl : p < R.l.length := (List.getElem?_eq_some_iff.1 hp).1
  have hjl : j < R.sh.length := (List.getElem?_eq_some_iff.1 hk).1
  have := Nat.mul_le_mul_right R.sh.length (show p + 1 ≤ R.l.length by omega)
  rw [Nat.succ_mul] at this
  rw [List.getElem?_take, if_pos (by omega), List.getElem?_drop, ← a2 j m k hj hk]
  simp only [Array.getElem?_toList]
  congr 1; omega

theorem RowVals.sub {sh : List Kd} {l : List (List Int)} {vs : List Value} (h : RowVals sh l vs) (off len : Nat) (hb : off + len ≤ l.length) : RowVals sh ((l.drop off).take len) ((vs.drop (off * sh.length)).take (len * sh.length)) := by
  have e1 : ((l.drop off).take len).length = len := by simp; omega
  refine ⟨?_, fun p row hp => ?_⟩
  · rw [e1]; simp [h.1]
    have := Nat.mul_le_mul_right sh.length hb
    rw [Nat.add_mul] at this; omega
  · rw [List.getElem?_take] at hp
    split at hp
    · rename_i hlt
      rw [List.getElem?_drop] at hp
      obtain ⟨a1, a2⟩ := h.2 _ row hp
      refine ⟨a1, fun j m k hj hk => ?_⟩
      have hjl : j < sh.length := (List.getElem?_eq_some_iff.1 hk).1
      have := Nat.mul_le_mul_right sh.length (show p + 1 ≤ len by omega)
      rw [Nat.succ_mul] at this
      rw [List.getElem?_take, if_pos (by omega), List.getElem?_drop, ← a2 j m k hj hk]
      congr 1; rw [Nat.add_mul]; omega
    · cases hp

/-- What is appended: where it stands in the real memory. -/
theorem src_run (hM : MR w0 may φ μ ρ fr w) {sh : List Kd} {lv : LV} {l : List (List Int)} {v : Value} (h : srcRows μ ρ sh lv = some l) (hv : lv.rel φ v) :
    (l = [] ∧ ∃ a c, v = .slice a 0 c) ∨ ∃ a c vs, v = .slice (some a) l.length c ∧ RowVals sh l vs ∧ ∀ j u, vs[j]? = some u → w.cell? (a.add j) = some u := by
  unfold srcRows at h
  split at h
  · simp only [Option.some.injEq] at h; subst h
    exact .inl ⟨rfl, none, 0, hv⟩
  · rename_i b ver e
    split at h
    case h_2 => cases h
    rename_i hd R hr
    split at h
    case h_2 => cases h
    rename_i hk
    simp only [Option.some.injEq] at h; subst h
    have hk := kdsEq_spec hk
    obtain ⟨c1, c2, c3, c4, c5⟩ := rowsAt_spec hr
    obtain ⟨_, i, hi, _, hR⟩ := hv
    obtain ⟨i', k1, k2, k3, k4, k5⟩ := hM.hdr b hd c1
    rw [hi] at k1; simp only [Option.some.injEq] at k1; subst k1
    obtain ⟨k6, k7, k8⟩ := k5 R c3
    rcases hR (by rw [k2, c2]) with ⟨e1, e2, e3⟩ | ⟨r, o', cap, e1, e2, e3, e4⟩
    · have : R.l = [] := List.eq_nil_of_length_eq_zero (by omega)
      exact .inl ⟨this, none, 0, e3⟩
    · rcases k8 with ⟨e, _⟩ | ⟨r2, o2, arr, ty, fz, q1, q2, q3, q4⟩
      · rw [e1] at e; cases e
      · rw [e1] at q1; simp only [Option.some.injEq, Prod.mk.injEq] at q1
        obtain ⟨rfl, rfl⟩ := q1
        have hvals := q3.vals
        rw [hk] at hvals
        refine .inr ⟨⟨r, o', none⟩, cap, _, by rw [k6]; exact e2, hvals, fun j u hj => ?_⟩
        rw [add_eq]
        rw [List.getElem?_take] at hj
        split at hj
        · rw [List.getElem?_drop, c4] at hj
          have q2 : w.heap[r]? = _ := q2
          simp only [World.cell?, q2]
          simpa using hj
        · cases hj
  · rename_i s b ver st e off len
    split at h
    · rename_i hd R hr
      split at h
      case h_2 => cases h
      rename_i hk
      simp only [Option.some.injEq] at h; subst h
      have hk := kdsEq_spec hk
      obtain ⟨c1, c2, c3, c4, c5⟩ := rowsAt_spec hr
      obtain ⟨_, i, hi, _, hR⟩ := hv
      obtain ⟨i', k1, k2, k3, k4, k5⟩ := hM.hdr b hd c1
      rw [hi] at k1; simp only [Option.some.injEq] at k1; subst k1
      obtain ⟨k6, k7, k8⟩ := k5 R c3
      obtain ⟨g1, a', cap, g2, g3, g4⟩ := hR (by rw [k2, c2])
      have hll : ((R.l.drop off).take len).length = len := by simp; omega
      rcases g4 with g4 | ⟨r, o', g4, g5⟩
      · subst g4; exact .inl ⟨by simp, a', cap, g2⟩
      · rcases k8 with ⟨e', _⟩ | ⟨r2, o2, arr, ty, fz, q1, q2, q3, q4⟩
        · rw [g4] at e'; cases e'
        · rw [g4] at q1; simp only [Option.some.injEq, Prod.mk.injEq] at q1
          obtain ⟨rfl, rfl⟩ := q1
          have hvals := q3.vals.sub off len (by omega)
          rw [hk] at hvals
          subst g5
          refine .inr ⟨⟨r, o' + (st + off * e), none⟩, cap, _, by rw [hll]; exact g2, hvals, fun j u hj => ?_⟩
          rw [add_eq]
          rw [List.getElem?_take] at hj
          split at hj
          · rw [List.getElem?_drop, List.getElem?_take] at hj
            split at hj
            · rw [List.getElem?_drop] at hj
              have q2 : w.heap[r]? = _ := q2
              simp only [World.cell?, q2]
              rw [c4] at hj
              rw [← c5, hk, show o' + (st + off * sh.length) + j = o' + st + (off * sh.length + j) by omega]
              simpa using hj
            · cases hj
          · cases hj
    · split at h
      case h_2 => cases h
      rename_i hd l0 hver hcur hl0
      split at h
      case h_2 => cases h
      rename_i he
      have he := Nat.eq_of_beq_eq_true he
      have hver := Nat.eq_of_beq_eq_true hver
      subst hver
      obtain ⟨c1, c2⟩ := cur_spec hcur
      obtain ⟨_, i, hi, _, hR⟩ := hv
      obtain ⟨i', k1, k2, k3, k4, k5⟩ := hM.hdr b hd c1
      rw [hi] at k1; simp only [Option.some.injEq] at k1; subst k1
      obtain ⟨g1, a', cap, g2, g3, g4⟩ := hR (by rw [k2, c2])
      rcases g4 with g4 | ⟨r, o', g4, g5⟩
      · subst g4
        have hnil : l = [] := by
          have := (encRows_spec (φ := φ) h (vs := []) (by
            have e0 : l0 = [] := by simp [rdAll] at hl0; exact hl0
            rw [e0]; exact .nil)).1
          exact List.eq_nil_of_length_eq_zero this
        exact .inl ⟨hnil, a', cap, g2⟩
      · obtain ⟨vs, v1, v2, v3⟩ := rdAll_run hM hi g4 (len * e) (st + off * e) hl0
        obtain ⟨f1, f2, f3⟩ := encRows_spec h v3
        subst g5
        refine .inr ⟨⟨r, o' + (st + off * e), none⟩, cap, vs, by rw [f1]; exact g2, ⟨by rw [v1, f1, he], f3⟩, fun j u hj => ?_⟩
        rw [add_eq]
        exact v2 j u hj
  · cases h

theorem run_append0 {t ty e : TypeId} {i : TypeInfo} (ht : P.underlying t = some (.slice e)) (hi : P.info? e = some i) (base x : Option Addr) (n cap c : Nat) (hn : n ≤ cap) (w : World) :
    (Builtin.append_ #[t, t] ty #[.slice base n cap, .slice x 0 c]).run P w = .ok (.slice base n cap) w := by
  have hf : (Builtin.firstCells i.size 0 (.slice x 0 c)).run P w = .ok #[] w := by
    cases x <;> simp [Builtin.firstCells, loadCells, loadCellsFrom]
  cases base <;> simp [Builtin.append_, run_underlying ht, sizeOf, typeInfo, hi, Builtin.lenOf, hn, hf, storeCells]

theorem run_append_room' {w : World} (t ty e e' : TypeId) (i : TypeInfo) (ht : P.underlying t = some (.slice e)) (hi : P.info? e = some i)
    (g sLen sCap : Nat) (cur : Array Value) (hg : w.heap[g]? = some (.cells cur e' (0, 0)))
    (a : Addr) (m c : Nat) (news : List Value) (hl : news.length = m * i.size) (hnews : ∀ j u, news[j]? = some u → w.cell? (a.add j) = some u) (h1 : ∀ u ∈ news, u.oneCell' = true)
    (hroom : sLen + m ≤ sCap) (hfit : sLen * i.size + news.length ≤ cur.size) :
    (Builtin.append_ #[t, t] ty #[.slice (some ⟨g, 0, none⟩) sLen sCap, .slice (some a) m c]).run P w =
      .ok (.slice (some ⟨g, 0, none⟩) (sLen + m) sCap) (w.setRow g (cur.toList.take (sLen * i.size) ++ news ++ cur.toList.drop (sLen * i.size + news.length)).toArray) := by
  have hf := run_firstCells_some (P := P) w i.size m a m c news hl hnews
  have hst := run_storeCells_at P g (sLen * i.size) e' news 0 cur w hg (by simpa using hfit) h1
  simp only [Nat.add_zero] at hst
  simp [Builtin.append_, run_underlying ht, sizeOf, typeInfo, hi, Builtin.lenOf, hroom, hf, Addr.add_lit, hst]

theorem rows_of_vals {arr : Array Value} {sh : List Kd} {l : List (List Int)} {vs : List Value} (h : RowVals sh l vs) (he : ∀ k, k < vs.length → arr[k]? = vs[k]?) (hs : vs.length ≤ arr.size) : RowsIn arr 0 ⟨0, sh, l, none⟩ := by
  refine ⟨fun p row hp => ?_, by simp only [Nat.zero_add, Nat.add_zero]; rw [← h.1]; exact hs⟩
  obtain ⟨a1, a2⟩ := h.2 p row hp
  refine ⟨a1, fun j n k hj hk => ?_⟩
  have := a2 j n k hj hk
  simp only [Nat.zero_add]
  rw [he _ (List.getElem?_eq_some_iff.1 this).1]; exact this

/-- What is appended: so many elements, of these cells; what 'append' then does. -/
structure Srcs (P : Program) (t tx ty e : TypeId) (i : TypeInfo) (z : Value) (w : World) (x : Value) (n : Nat) (vs : List Value) : Prop where
  zero : n = 0 → ∀ (base : Option Addr) (m cap : Nat), m ≤ cap → (Builtin.append_ #[t, tx] ty #[.slice base m cap, x]).run P w = .ok (.slice base m cap) w
  nil_ : 0 < n → (n : Int) ≤ 9223372036854775807 → n * i.bytes ≤ 140737488355328 → (Builtin.append_ #[t, tx] ty #[.slice none 0 0, x]).run P w =
      .ok (.slice (some ⟨w.heap.size, 0, none⟩) n (grownCap w n 0 e)) (w.drew.alloc (.cells (vs.toArray ++ Builtin.zeroCells z.cells (grownCap w n 0 e - n)) e))
  room : 0 < n → ∀ (g sLen sCap : Nat) (cur : Array Value) (e' : TypeId), w.heap[g]? = some (.cells cur e' (0, 0)) → (∀ u ∈ vs, u.oneCell' = true) → n * i.bytes ≤ 140737488355328 → sLen + n ≤ sCap → sLen * i.size + vs.length ≤ cur.size →
    (Builtin.append_ #[t, tx] ty #[.slice (some ⟨g, 0, none⟩) sLen sCap, x]).run P w =
      .ok (.slice (some ⟨g, 0, none⟩) (sLen + n) sCap) (w.setRow g (cur.toList.take (sLen * i.size) ++ vs ++ cur.toList.drop (sLen * i.size + vs.length)).toArray)
  grow : 0 < n → ∀ (b : Addr) (sLen sCap : Nat) (olds : List Value), olds.length = sLen * i.size → (∀ j v, olds[j]? = some v → w.cell? (b.add j) = some v) →
    sCap < sLen + n → ((sLen + n : Nat) : Int) ≤ 9223372036854775807 → n * i.bytes ≤ 140737488355328 → Builtin.nextslicecap (sLen + n) sCap * i.bytes ≤ 281474976710656 →
    (Builtin.append_ #[t, tx] ty #[.slice (some b) sLen sCap, x]).run P w =
      .ok (.slice (some ⟨w.heap.size, 0, none⟩) (sLen + n) (grownCap w (sLen + n) sCap e))
        (w.drew.alloc (.cells (olds.toArray ++ vs.toArray ++ Builtin.zeroCells z.cells (grownCap w (sLen + n) sCap e - (sLen + n))) e))

theorem Srcs.of_slice {t ty e : TypeId} {i : TypeInfo} {z : Value} (ht : P.underlying t = some (.slice e)) (hi : P.info? e = some i) (hz : i.zero = some z) (a : Addr) (n c : Nat) (vs : List Value) (hl : vs.length = n * i.size)
    (hv : ∀ j u, vs[j]? = some u → w.cell? (a.add j) = some u) : Srcs P t t ty e i z w (.slice (some a) n c) n vs where
  zero h base m cap hm := by subst h; exact run_append0 ht hi base (some a) m cap c hm w
  nil_ h0 h63 h48 := run_append_nil (P := P) w t ty e i z ht hi hz a n c vs hl hv h0 h63 (by omega)
  room _ g sLen sCap cur e' hg h1 _ hr hf := run_append_room' (P := P) t ty e e' i ht hi g sLen sCap cur hg a n c vs hl hv h1 hr hf
  grow _ b sLen sCap olds ho hos hg h63 _ hn := run_append_grow (P := P) w t ty e i z ht hi hz b sLen sCap olds ho hos a n c vs hl hv hg h63 hn

theorem Srcs.of_none {t ty e : TypeId} {i : TypeInfo} {z : Value} (ht : P.underlying t = some (.slice e)) (hi : P.info? e = some i) (a : Option Addr) (c : Nat) : Srcs P t t ty e i z w (.slice a 0 c) 0 [] where
  zero _ base m cap hm := run_append0 ht hi base a m cap c hm w
  nil_ h0 := absurd h0 (by omega)
  room h0 := absurd h0 (by omega)
  grow h0 := absurd h0 (by omega)

/-- So many zeros. -/
theorem Srcs.of_zeros {t tx ty e : TypeId} {i : TypeInfo} {z : Value} {k kk : IntKind} (ht : P.underlying t = some (.slice e)) (htx : P.underlying tx = some (.int kk)) (hi : P.info? e = some i) (hz : i.zero = some z) (hzs : z.cells.size = i.size) (hp : 1 ≤ i.size) (_hb : 1 ≤ i.bytes) (m : Int) (h0 : 0 ≤ m) (hm : m ≤ 140737488355328) :
    Srcs P t tx ty e i z w (.int k m) m.toNat (Builtin.zeroCells z.cells m.toNat).toList := by
  have w1 : IntKind.i64.wrap m = m := by have := IntKind.wrap_i64 m; omega
  have lt : ¬ m < 0 := by omega
  have big : m.toNat * i.bytes ≤ 140737488355328 → ¬ (281474976710656 < m * (i.bytes : Int)) := fun h48 => by
    have h1 : ((m.toNat * i.bytes : Nat) : Int) ≤ ((140737488355328 : Nat) : Int) := Int.ofNat_le.mpr h48
    rw [Int.natCast_mul, Int.toNat_of_nonneg h0] at h1; omega
  obtain ⟨m', rfl⟩ : ∃ m' : Nat, m = (m' : Int) := ⟨m.toNat, by omega⟩
  simp only [Int.toNat_natCast] at big ⊢
  have hzl : (Builtin.zeroCells z.cells m').toList.length = m' * i.size := by rw [Array.length_toList, size_zeroCells, hzs]
  refine ⟨fun h base n cap hnc => ?_, fun hn h63 h48 => ?_, fun hn g sLen sCap cur e' hg h1 h48 hr hf => ?_, fun hn b sLen sCap olds ho hos hg h63 h48 hfit => ?_⟩
  · subst h
    have w0 : IntKind.i64.wrap 0 = 0 := by decide
    cases base <;> simp [w0, Builtin.append_, run_underlying ht, run_underlying htx, sizeOf, typeInfo, hi, asInt, asIntOf, hnc, storeCells]
  · have n0 : m' ≠ 0 := by omega
    have h63' : ¬ (9223372036854775807 < (m' : Int)) := by omega
    have h48' : ¬ (281474976710656 < Builtin.nextslicecap m' 0 * i.bytes) := by rw [nextslicecap_zero hn]; omega
    have s0 : m' * i.size ≠ 0 := Nat.mul_ne_zero n0 (by omega)
    have hbig := big h48
    simp [Builtin.append_, run_underlying ht, run_underlying htx, sizeOf, typeInfo, zeroValue, hi, hz, asInt, asIntOf, w1, lt, hbig, n0, s0, h63', h48', Question.forced, run_firstCells_none, newRow, grownCap]
  · have n0 : m' ≠ 0 := by omega
    have s0 : m' * i.size ≠ 0 := Nat.mul_ne_zero n0 (by omega)
    have hbig := big h48
    have hst := run_storeCells_at P g (sLen * i.size) e' (Builtin.zeroCells z.cells m').toList 0 cur w hg (by simpa using hf) h1
    simp only [Nat.add_zero] at hst
    simp [Builtin.append_, run_underlying ht, run_underlying htx, sizeOf, typeInfo, zeroValue, hi, hz, asInt, asIntOf, w1, lt, hbig, s0, hr, Addr.add_lit, hst]
  · have hn' : ¬ (sLen + m' ≤ sCap) := by omega
    have n0 : m' ≠ 0 := by omega
    have s0 : m' * i.size ≠ 0 := Nat.mul_ne_zero n0 (by omega)
    have hbig := big h48
    have h63' : ¬ (9223372036854775807 < ((sLen : Int) + (m' : Int))) := by omega
    have h48' : ¬ (281474976710656 < Builtin.nextslicecap (sLen + m') sCap * i.bytes) := by omega
    have hfo := run_firstCells_some (P := P) w.drew i.size sLen b sLen sCap olds ho (by simpa using hos)
    simp [Builtin.append_, run_underlying ht, run_underlying htx, sizeOf, typeInfo, zeroValue, hi, hz, asInt, asIntOf, w1, lt, hbig, s0, hn', h63', h48', Question.forced, hfo, newRow, grownCap]

theorem grow_run (hM : MR w0 may φ μ ρ fr w) {id : Nat} (hid : fr id) {bytes z : Nat} {sh : List Kd} {new : List (List Int)} {lv : LV} {obs : List Prop} {res : LV} {cs : List (Nat × At)} {hs : List (Nat × Hd)}
    (h : grow id ρ bytes z sh new lv = some (obs, res, cs, hs)) (ho : Alls obs) {t ty e : TypeId} {ie : TypeInfo} {zv : Value} (_ht : P.underlying t = some (.slice e)) (_hie : P.info? e = some ie) (_hzv : ie.zero = some zv)
    (hsize : ie.size = sh.length) (hzs : zv.cells.size = sh.length) (hz : z = sh.length) (hby : ie.bytes = bytes) (hpos : 0 < sh.length) (hb1 : 1 ≤ bytes) {v x : Value} (hv : lv.rel φ v)
    {tx : TypeId} {vs : List Value} (hvs : RowVals sh new vs) (hx : Srcs P t tx ty e ie zv w x new.length vs) :
    ∃ u w' φ', (Builtin.append_ #[t, tx] ty #[v, x]).run P w = .ok u w' ∧ φ.le φ' ∧ res.rel φ' u ∧ MR w0 may φ' (updL μ cs) (updL ρ hs) (fun b => fr b ∧ b ≠ id) w' := by
  -- the grown block, wherever it comes to stand
  have placed : ∀ {b ver : Nat} (hb : φ b = none ∨ ∃ i, φ b = some i ∧ i.v < ver ∧ i.ro = false) (olds : List Value) (l : List (List Int)) (hol : RowVals sh l olds) (vs : List Value) (hvs : RowVals sh new vs) (cap : Nat) (hcap : (l ++ new).length ≤ cap) (hmx : cap ≤ maxLen)
      (hno : ∀ k y, μ k = some y → k / 65536 = b → y = .unk),
      φ.le (setP φ b ⟨e, some (w.heap.size, 0), ((olds ++ vs).toArray ++ Builtin.zeroCells zv.cells (cap - (l ++ new).length)).size, (l ++ new).length, ver, false⟩) ∧
      LV.rel (setP φ b ⟨e, some (w.heap.size, 0), ((olds ++ vs).toArray ++ Builtin.zeroCells zv.cells (cap - (l ++ new).length)).size, (l ++ new).length, ver, false⟩) (.a (.vec b ver sh.length)) (.slice (some ⟨w.heap.size, 0, none⟩) (l ++ new).length cap) ∧
      MR w0 may (setP φ b ⟨e, some (w.heap.size, 0), ((olds ++ vs).toArray ++ Builtin.zeroCells zv.cells (cap - (l ++ new).length)).size, (l ++ new).length, ver, false⟩) μ (updL ρ [(b, ⟨ver, 0, false, some ⟨0, sh, l ++ new, none⟩⟩)]) (fun c => fr c ∧ c ≠ b)
        (w.drew.alloc (.cells ((olds ++ vs).toArray ++ Builtin.zeroCells zv.cells (cap - (l ++ new).length)) e)) := by
    intro b ver hb olds l hol vs hvs cap hcap hmx hno
    have happ := hol.app hvs
    have hsz : ((olds ++ vs).toArray ++ Builtin.zeroCells zv.cells (cap - (l ++ new).length)).size = cap * sh.length := by
      rw [Array.size_append, size_zeroCells, hzs, List.size_toArray, happ.1, ← Nat.add_mul]; congr 1; omega
    have hnew : (w.drew.alloc (.cells ((olds ++ vs).toArray ++ Builtin.zeroCells zv.cells (cap - (l ++ new).length)) e)).heap[w.heap.size]? = some (.cells ((olds ++ vs).toArray ++ Builtin.zeroCells zv.cells (cap - (l ++ new).length)) e (0, 0)) := by
      show (w.heap.push _)[w.heap.size]? = _; simp
    have := hM.newRows (b := b) (v := ver) (n := (l ++ new).length) hb (R := ⟨0, sh, l ++ new, none⟩) (arr := (olds ++ vs).toArray ++ Builtin.zeroCells zv.cells (cap - (l ++ new).length)) (ty := e) (r := w.heap.size)
      (w' := w.drew.alloc (.cells ((olds ++ vs).toArray ++ Builtin.zeroCells zv.cells (cap - (l ++ new).length)) e)) (.inr (Nat.le_refl _)) hnew (fun k hk _ => Below.heap_alloc w.drew _ _ hk) rfl rfl rfl (by show _ ≤ (w.heap.push _).size; simp) (fun p => frozen_alloc w.drew _ e p)
      (rows_of_vals happ (fun k hk => by rw [Array.getElem?_append, if_pos (by simpa using hk)]; simp) (by simp)) rfl rfl hno
    refine ⟨this.1, ⟨⟨rfl, rfl⟩, ⟨e, some (w.heap.size, 0), ((olds ++ vs).toArray ++ Builtin.zeroCells zv.cells (cap - (l ++ new).length)).size, (l ++ new).length, ver, false⟩, setP_same _ _ _, Nat.le_refl _, fun _ => .inr ⟨w.heap.size, 0, cap, rfl, rfl, hcap, hsz.symm, hmx⟩⟩, this.2⟩
  have bound : ∀ m : Nat, m * bytes ≤ 70368744177664 → m ≤ maxLen ∧ m * bytes ≤ 140737488355328 ∧ m ≤ 9223372036854775807 := by
    intro m hm
    have : m ≤ m * bytes := Nat.le_mul_of_pos_right m (by omega)
    refine ⟨by simp only [maxLen]; omega, by omega, by omega⟩
  unfold grow at h
  split at h
  · -- from nil
    simp only [Option.some.injEq, Prod.mk.injEq] at h
    obtain ⟨rfl, rfl, rfl, rfl⟩ := h
    have hv : v = .slice none 0 0 := hv
    subst hv
    have hdom := hM.dom id hid
    subst hz
    · by_cases h0 : new = []
      · subst h0
        obtain ⟨n1, n2⟩ := hM.nilRows hid (R := ⟨0, sh, [], none⟩) rfl rfl e
        exact ⟨_, w, _, hx.zero rfl none 0 0 (Nat.le_refl _), n1, ⟨⟨rfl, rfl⟩, ⟨e, none, 0, 0, 0, false⟩, setP_same _ _ _, Nat.le_refl _, fun _ => .inl ⟨rfl, rfl, rfl⟩⟩, n2⟩
      · have hpl : 0 < new.length := List.length_pos_iff.2 h0
        obtain ⟨b1, b2, b3⟩ := bound new.length ho.1
        have hr := hx.nil_ hpl (by omega) (by rw [hby]; omega)
        have := placed (b := id) (ver := 0) (.inl hdom) [] [] (RowVals.nil sh) vs hvs (grownCap w new.length 0 e) (by simpa using grownCap_ge w new.length 0 e) (grownCap_le_maxLen w new.length 0 e b1) (fun k y hy hk => cell_none hM hy (by rw [hk]; exact hdom))
        simp only [List.nil_append] at this
        exact ⟨_, _, _, hr, this.1, this.2.1, this.2.2⟩
  · rename_i b ver e'
    split at h
    case h_2 => cases h
    rename_i hd R hr
    split at h
    case h_2 => cases h
    rename_i hk hfx
    simp only [Bool.and_eq_true, Bool.not_eq_true'] at hk
    simp only [Option.some.injEq, Prod.mk.injEq] at h
    obtain ⟨rfl, rfl, rfl, rfl⟩ := h
    have hsh := kdsEq_spec hk.1
    obtain ⟨c1, c2, c3, c4, c5⟩ := rowsAt_spec hr
    obtain ⟨_, i, hi, _, hR⟩ := hv
    obtain ⟨i', k1, k2, k3, k4, k5⟩ := hM.hdr b hd c1
    rw [hi] at k1; simp only [Option.some.injEq] at k1; subst k1
    obtain ⟨k6, k7, k8⟩ := k5 R c3
    have hro : i.ro = false := by rw [k3, hk.2]
    have hee : e' = sh.length := by rw [← c5, hsh]
    subst hee
    have hidb : b ≠ id := fun e => by subst e; rw [hM.dom b hid] at hi; cases hi
    have hver : i.v < ver + 1 := by rw [k2, c2]; omega
    have hno : ∀ k y, μ k = some y → k / 65536 = b → y = .unk := fun k y hy hkb => by
      by_cases hu : y = .unk
      · exact hu
      · have := (hM.apart k y hd hy hu (by rw [hkb]; exact c1)).1
        simp [Hd.grows, c3, hfx] at this
    obtain ⟨b1, b2, b3⟩ := bound _ ho.1
    have nb : new.length * bytes ≤ 140737488355328 := Nat.le_trans (Nat.mul_le_mul_right _ (by simp)) b2
    have frd : ∀ {φ' : Phi} {μ' : Mem} {ρ' : Hds} {w' : World}, MR w0 may φ' μ' ρ' (fun c => fr c ∧ c ≠ b) w' → MR w0 may φ' μ' ρ' (fun c => fr c ∧ c ≠ id) w' := fun hm => hm.drop fun c hc => ⟨hc.1, fun e => by subst e; rw [hM.dom c hc.1] at hi; cases hi⟩
    have nonew : new = [] → ∃ u w' φ', (Builtin.append_ #[t, tx] ty #[v, x]).run P w = .ok u w' ∧ φ.le φ' ∧ LV.rel φ' (.a (.vec b (ver + 1) sh.length)) u ∧ MR w0 may φ' μ (updL ρ [(b, ⟨ver + 1, 0, false, some ⟨0, sh, R.l ++ new, none⟩⟩)]) (fun b => fr b ∧ b ≠ id) w' := by
      intro hn
      subst hn
      rcases hR (by rw [k2, c2]) with ⟨e1, e2, e3⟩ | ⟨r, o', cap, e1, e2, e3, e4⟩
      · subst e3
        have hl0 : R.l = [] := List.eq_nil_of_length_eq_zero (by omega)
        -- the block is nowhere: it may be named anew
        have hle : φ.le (setP φ b ⟨e, none, 0, 0, ver + 1, false⟩) := phi_upd_le (.inr ⟨i, hi, .inr hver⟩)
        refine ⟨_, w, setP φ b ⟨e, none, 0, 0, ver + 1, false⟩, hx.zero rfl none 0 0 (Nat.le_refl _), hle, ⟨⟨rfl, rfl⟩, ⟨e, none, 0, 0, ver + 1, false⟩, setP_same _ _ _, Nat.le_refl _, fun _ => .inl ⟨rfl, rfl, rfl⟩⟩, ?_⟩
        have get : ∀ c i', setP φ b ⟨e, none, 0, 0, ver + 1, false⟩ c = some i' → (c = b ∧ i'.a = none) ∨ (c ≠ b ∧ φ c = some i') := by
          intro c i' h
          unfold setP at h
          split at h
          · rename_i e'; simp only [Option.some.injEq] at h; subst h; exact .inl ⟨e', rfl⟩
          · rename_i e'; exact .inr ⟨e', h⟩
        constructor
        · intro k x hx
          by_cases hkb : k / 65536 = b
          · exact .inl (hno k x hx hkb)
          · rcases hM.cell k x hx with e' | ⟨i', h1, h2⟩
            · exact .inl e'
            · exact .inr ⟨i', by simp [setP, hkb, h1], h2.other hle fun _ _ _ => rfl⟩
        · intro c g hg
          rcases updL_spec hg with h2 | ⟨h2, h3⟩
          · simp only [List.mem_singleton, Prod.mk.injEq] at h2
            obtain ⟨rfl, rfl⟩ := h2
            refine ⟨_, by simp [setP]; rfl, rfl, rfl, (fun hg => by simp [Hd.grows] at hg), fun R' hR' => ?_⟩
            simp only [Option.some.injEq] at hR'; subst hR'
            exact ⟨by simp [hl0], (fun N hN => by cases hN), .inl ⟨rfl, by simp [hl0], rfl⟩⟩
          · have hc : c ≠ b := fun e' => by subst e'; exact h3 _ (List.mem_singleton.2 rfl)
            obtain ⟨i', h4, h5⟩ := hM.hdr c g h2
            exact ⟨i', by simp [setP, hc, h4], h5⟩
        · intro k x g hx hne hg
          rcases updL_spec hg with h2 | ⟨h2, h3⟩
          · simp only [List.mem_singleton, Prod.mk.injEq] at h2
            exact absurd (hno k x hx h2.1) hne
          · exact hM.apart k x g hx hne h2
        · intro c c' i1 i2 r o o' hc hc' hi1 hi2
          rcases get c i1 hc with ⟨_, e'⟩ | ⟨_, e'⟩
          · rw [e'] at hi1; cases hi1
          · rcases get c' i2 hc' with ⟨_, e2'⟩ | ⟨_, e2'⟩
            · rw [e2'] at hi2; cases hi2
            · exact hM.inj c c' i1 i2 r o o' e' e2' hi1 hi2
        · intro c i1 r o hc hi1 hro
          rcases get c i1 hc with ⟨_, e'⟩ | ⟨_, e'⟩
          · rw [e'] at hi1; cases hi1
          · exact hM.own c i1 r o e' hi1 hro
        · intro c i1 r o hc hi1 hro
          rcases get c i1 hc with ⟨_, e'⟩ | ⟨_, e'⟩
          · rw [e'] at hi1; cases hi1
          · exact hM.keep c i1 r o e' hi1 hro
        · intro c hc
          have hcb : c ≠ b := fun e' => by subst e'; rw [hM.dom c hc.1] at hi; cases hi
          simp only [setP, hcb, if_false]; exact hM.dom c hc.1
        · intro c i1 r o hc hi1
          rcases get c i1 hc with ⟨_, e'⟩ | ⟨_, e'⟩
          · rw [e'] at hi1; cases hi1
          · exact hM.big c i1 r o e' hi1
        · exact hM.os
        · exact hM.tape
        · exact hM.output
        · exact hM.size
        · exact hM.block
        · exact hM.frz
      · subst e2
        rcases k8 with ⟨e', _⟩ | ⟨r2, o2, arr, ty', fz, q1, q2, q3, q4⟩
        · rw [e1] at e'; cases e'
        · rw [e1] at q1; simp only [Option.some.injEq, Prod.mk.injEq] at q1
          obtain ⟨rfl, rfl⟩ := q1
          obtain ⟨_, ho0, arr2, h6, h7⟩ := hM.own b i r o' hi e1 hro
          subst ho0
          have q2 : w.heap[r]? = _ := q2
          rw [h6] at q2; simp only [Option.some.injEq, Obj.cells.injEq] at q2
          obtain ⟨rfl, rfl, rfl⟩ := q2
          obtain ⟨e5, e6⟩ := e4
          have := hM.newRows (b := b) (v := ver + 1) (n := (R.l ++ []).length) (.inr ⟨i, hi, hver, hro⟩) (R := ⟨0, sh, R.l ++ [], none⟩) (arr := arr2) (ty := i.ty) (r := r) (w' := w) (.inl ⟨i, hi, e1⟩) h6 (fun _ _ _ => rfl) rfl rfl rfl (Nat.le_refl _) (fun _ => rfl)
            (by have h3 := q3; simp only [List.append_nil]; obtain ⟨st, sh', l', fx⟩ := R; simp only at c4 hfx hsh; subst c4 hfx hsh; exact h3) rfl rfl hno
          refine ⟨_, w, _, hx.zero rfl (some ⟨r, 0, none⟩) i.n cap e3, this.1, ⟨⟨rfl, rfl⟩, _, setP_same _ _ _, Nat.le_refl _, fun _ => .inr ⟨r, 0, cap, rfl, by simp [k6], by simpa [k6] using e3, by rw [e5, h7], e6⟩⟩, frd this.2⟩
    · by_cases h0 : new = []
      · subst h0; exact nonew rfl
      · rcases hR (by rw [k2, c2]) with ⟨e1, e2, e3⟩ | ⟨r, o', cap, e1, e2, e3, e4⟩
        · -- nil till now
          subst e3
          have hl0 : R.l = [] := List.eq_nil_of_length_eq_zero (by omega)
          have hpl : 0 < new.length := List.length_pos_iff.2 h0
          rw [hl0] at b1 b2 b3 ⊢
          simp only [List.nil_append] at b1 b2 b3 ⊢
          have hr := hx.nil_ hpl (by omega) (by rw [hby]; omega)
          have := placed (b := b) (ver := ver + 1) (.inr ⟨i, hi, hver, hro⟩) [] [] (RowVals.nil sh) vs hvs (grownCap w new.length 0 e) (by simpa using grownCap_ge w new.length 0 e) (grownCap_le_maxLen w new.length 0 e b1) hno
          simp only [List.nil_append] at this
          exact ⟨_, _, _, hr, this.1, this.2.1, frd this.2.2⟩
        · subst e2
          rcases k8 with ⟨e', _⟩ | ⟨r2, o2, arr, ty', fz, q1, q2, q3, q4⟩
          · rw [e1] at e'; cases e'
          · rw [e1] at q1; simp only [Option.some.injEq, Prod.mk.injEq] at q1
            obtain ⟨rfl, rfl⟩ := q1
            obtain ⟨_, ho0, arr2, h6, h7⟩ := hM.own b i r o' hi e1 hro
            subst ho0
            have q2 : w.heap[r]? = _ := q2
            rw [h6] at q2; simp only [Option.some.injEq, Obj.cells.injEq] at q2
            obtain ⟨rfl, rfl, rfl⟩ := q2
            obtain ⟨e5, e6⟩ := e4
            have hold : RowVals sh R.l (arr2.toList.take (R.l.length * sh.length)) := by
              have := q3.vals
              rw [c4, hsh] at this; simpa using this
            have hol : (arr2.toList.take (R.l.length * sh.length)).length = R.l.length * sh.length := hold.1
            by_cases hroom : i.n + new.length ≤ cap
            · -- in place
              have hfit : i.n * ie.size + vs.length ≤ arr2.size := by
                rw [hvs.1, hsize, h7, ← e5, ← Nat.add_mul]; exact Nat.mul_le_mul_right _ hroom
              have hrr := hx.room (List.length_pos_iff.2 h0) r i.n cap arr2 i.ty h6 hvs.one (by rw [hby]; exact nb) hroom hfit
              have hsz : (arr2.toList.take (i.n * ie.size) ++ vs ++ arr2.toList.drop (i.n * ie.size + vs.length)).toArray.size = arr2.size := by
                rw [List.size_toArray, splice_size _ _ _ (by simpa using hfit)]; simp
              have := hM.newRows (b := b) (v := ver + 1) (n := (R.l ++ new).length) (.inr ⟨i, hi, hver, hro⟩) (R := ⟨0, sh, R.l ++ new, none⟩) (arr := (arr2.toList.take (i.n * ie.size) ++ vs ++ arr2.toList.drop (i.n * ie.size + vs.length)).toArray) (ty := i.ty) (r := r) (w' := w.setRow r _)
                (.inl ⟨i, hi, e1⟩) (setRow_heap w r arr2 _ _ _ h6) (fun k _ hk => setRow_other _ _ _ _ hk) rfl rfl rfl (by rw [size_setRow]; exact Nat.le_refl _) (frozen_setRow h6)
                (rows_of_vals (hold.app hvs) (fun k hk => by
                  rw [List.getElem?_toArray]
                  rw [hsize, ← k6]
                  rw [List.getElem?_append_left (by simpa using hk)]) (by rw [hsz, List.length_append, hol]; rw [hsize, ← k6] at hfit; exact hfit)) rfl rfl hno
              refine ⟨_, _, _, hrr, this.1, ⟨⟨rfl, rfl⟩, _, setP_same _ _ _, Nat.le_refl _, fun _ => .inr ⟨r, 0, cap, rfl, by simp [k6], by simp [k6]; exact hroom, by rw [e5, ← h7]; exact hsz.symm, e6⟩⟩, frd this.2⟩
            · have hrr := hx.grow (List.length_pos_iff.2 h0) ⟨r, 0, none⟩ i.n cap (arr2.toList.take (R.l.length * sh.length)) (by rw [hol, k6, hsize]) (fun j u hj => by
                rw [add_eq, Nat.zero_add]
                simp only [World.cell?, h6]
                rw [List.getElem?_take] at hj
                split at hj
                · simpa using hj
                · cases hj) (by omega) (by have := b3; simp only [List.length_append, k6] at this; omega) (by rw [hby]; exact nb) (growslice_fits (by omega) (by rw [hby]; have := b2; simp only [List.length_append, k6] at this; exact this))
              have := placed (b := b) (ver := ver + 1) (.inr ⟨i, hi, hver, hro⟩) _ R.l hold vs hvs (grownCap w (i.n + new.length) cap e) (by have := grownCap_ge w (i.n + new.length) cap e; simp only [List.length_append, k6]; exact this)
                (grownCap_le_maxLen w _ cap e (by have := b1; simp only [List.length_append, k6] at this; exact this)) hno
              simp only [List.length_append, k6] at this ⊢
              simp only [List.append_toArray, k6] at hrr
              exact ⟨_, _, _, hrr, this.1, this.2.1, frd this.2.2⟩
  · cases h

end
end Go.Proofs.Ytcdejlgophpdjaa.V
end

section
namespace Go.Proofs.Ytcdejlgophpdjaa.V
open Go Go.RowKit

def cellOf (c : BC) (off : Nat) : Option At := match c.cs[off]? with
  | some (some x) => some x
  | _ => none

def memOf (bs : List BC) : Mem := fun k => match bs[k / 65536]? with
  | some c => cellOf c (k % 65536)
  | none => none

def roH (h : Hd) : Hd := ⟨h.v, h.z, true, h.R⟩

def hdsIn (bs : List BC) (out : List (Option BC)) : Hds := fun b => match bs[b]? with
  | some c => match out[b]? with
    | some none => some (roH c.h)
    | _ => some c.h
  | none => none

def aft (bs : List BC) (out : List (Option BC)) (i : Nat) : Option BC := match out[i]? with
  | some (some c) => some c
  | some none => match bs[i]? with
    | some c => some ⟨roH c.h, c.cs⟩
    | none => none
  | none => none

def memAft (bs : List BC) (out : List (Option BC)) : Mem := fun k => match aft bs out (k / 65536) with
  | some c => cellOf c (k % 65536)
  | none => none

def hdsAft (bs : List BC) (out : List (Option BC)) : Hds := fun b => match aft bs out b with
  | some c => some c.h
  | none => none

/-- What a contract says of a function: what it hands back and what becomes of the blocks that it was handed hangs on these alone; 'none': a block that it does not write. -/
def ConOK (P : Program) (f : Nat) (c : Con) : Prop := ∀ args bs obs lv out, c args bs = some (obs, lv, out) → Alls obs → ∀ (φ : Phi) (vs : Array Value) (w : World) (may : Nat → Prop), All2 (LV.rel φ) args vs.toList →
  MR w may φ (memOf bs) (hdsIn bs out) (fun b => bs.length ≤ b) w →
  Calls P f vs w fun e w' => ∃ v' φ', e = .returned v' ∧ φ.le φ' ∧ lv.rel φ' v' ∧ MR w may φ' (memAft bs out) (hdsAft bs out) (fun b => out.length ≤ b) w'

def Enters (P : Program) (f : Nat) : Prop := ∀ args, calm P (callFunc f args) = some (.enter f args)

def TOK (P : Program) (T : Tab) : Prop := ∀ p ∈ T, Enters P p.1 ∧ ConOK P p.1 p.2

theorem TOK.nil {P : Program} : TOK P [] := by intro p hp; cases hp
theorem TOK.cons {P : Program} {T : Tab} {f : Nat} {c : Con} (he : Enters P f) (hc : ConOK P f c) (h : TOK P T) : TOK P ((f, c) :: T) := by
  intro p hp
  rcases List.mem_cons.1 hp with rfl | hp
  · exact ⟨he, hc⟩
  · exact h p hp

theorem idxOf_spec {b : Nat} : ∀ {l : List Nat} {s i : Nat}, idxOf b l s = some i → s ≤ i ∧ l[i - s]? = some b
  | [], s, i, h => by simp [idxOf] at h
  | c :: r, s, i, h => by
    unfold idxOf at h
    split at h
    · rename_i hb
      have := Nat.eq_of_beq_eq_true hb
      simp only [Option.some.injEq] at h; subst h; subst this
      simp
    · obtain ⟨h1, h2⟩ := idxOf_spec h
      refine ⟨by omega, ?_⟩
      rw [show i - s = (i - (s + 1)) + 1 by omega]; simpa using h2

theorem idxOf_none {b : Nat} : ∀ {l : List Nat} {s : Nat}, idxOf b l s = none → b ∉ l
  | [], s, _ => by simp
  | c :: r, s, h => by
    unfold idxOf at h
    split at h
    · cases h
    · rename_i hb
      have : b ≠ c := fun e => by subst e; simp at hb
      simp [this, idxOf_none h]

theorem nodupB_spec : ∀ {l : List Nat}, nodupB l = true → ∀ {i j : Nat} {b : Nat}, l[i]? = some b → l[j]? = some b → i = j
  | [], _, i, j, b, h, _ => by simp at h
  | c :: r, hn, i, j, b, hi, hj => by
    unfold nodupB at hn
    split at hn
    · cases hn
    · rename_i hno
      have hc := idxOf_none hno
      cases i with
      | zero =>
        cases j with
        | zero => rfl
        | succ j => simp at hi hj; subst hi; exact absurd (List.mem_of_getElem? hj) hc
      | succ i =>
        cases j with
        | zero => simp at hi hj; subst hj; exact absurd (List.mem_of_getElem? hi) hc
        | succ j => simp at hi hj; rw [nodupB_spec hn hi hj]

theorem blksOf_get {μ : Mem} {ρ : Hds} {foot : List Nat} : ∀ {l : List Nat} {bs : List BC}, blksOf μ ρ foot l = some bs → bs.length = l.length ∧ ∀ (i b : Nat), l[i]? = some b → ∃ c, bs[i]? = some c ∧ blkOf μ ρ foot b = some c
  | [], bs, h => by simp only [blksOf, Option.some.injEq] at h; subst h; exact ⟨rfl, fun i b hb => by simp at hb⟩
  | b :: r, bs, h => by
    unfold blksOf at h
    split at h
    · rename_i c l h1 h2
      simp only [Option.some.injEq] at h; subst h
      obtain ⟨g1, g2⟩ := blksOf_get h2
      refine ⟨by simp [g1], fun i b' hb => ?_⟩
      cases i with
      | zero => simp at hb; subst hb; exact ⟨c, by simp, h1⟩
      | succ i => obtain ⟨c', q1, q2⟩ := g2 i b' (by simpa using hb); exact ⟨c', by simpa using q1, q2⟩
    · cases h

theorem blkCells_get {μ : Mem} {ρ : Hds} {foot : List Nat} {b : Nat} {h : Hd} : ∀ {n k j : Nat}, j < n → (blkCells μ ρ foot b h k n)[j]? = some (match inReg h (k + j) with
    | true => none
    | false => renO ρ foot (μ (b * 65536 + (k + j))))
  | 0, k, j, h => by omega
  | n + 1, k, 0, h => by simp only [blkCells, List.getElem?_cons_zero]; rfl
  | n + 1, k, j + 1, h => by
    simp only [blkCells, List.getElem?_cons_succ]
    rw [blkCells_get (by omega), show k + 1 + j = k + (j + 1) by omega]

theorem blkCells_len {μ : Mem} {ρ : Hds} {foot : List Nat} {b : Nat} {h : Hd} : ∀ {n k : Nat}, (blkCells μ ρ foot b h k n).length = n
  | 0, k => rfl
  | n + 1, k => by simp [blkCells, blkCells_len]

theorem blkOf_spec {μ : Mem} {ρ : Hds} {foot : List Nat} {b : Nat} {c : BC} (h : blkOf μ ρ foot b = some c) : ∃ hd, ρ b = some hd ∧ c.h = ⟨0, hd.z, hd.ro, hd.R⟩ ∧ hd.z ≤ 65536 ∧ c.cs = blkCells μ ρ foot b hd 0 hd.z := by
  unfold blkOf at h
  split at h
  · rename_i hd hh
    split at h
    · rename_i hz
      simp only [Option.some.injEq] at h; subst h
      exact ⟨hd, hh, rfl, Nat.le_of_ble_eq_true hz, rfl⟩
    · cases h
  · cases h

/-- Looking into a block under another name. -/
theorem vrel_move {φ ψ : Phi} {b c v v' : Nat} {u : Value} {R : Inf → Prop} (hR : ∀ i j : Inf, i.a = j.a → i.z = j.z → i.n = j.n → R i → R j) (h : vrel φ b v u R)
    (hm : ∀ i, φ b = some i → v ≤ i.v → ∃ j, ψ c = some j ∧ v' ≤ j.v ∧ (v' = j.v → v = i.v ∧ i.a = j.a ∧ i.z = j.z ∧ i.n = j.n)) : vrel ψ c v' u R := by
  obtain ⟨h0, i, h1, h2, h3⟩ := h
  obtain ⟨j, g1, g2, g3⟩ := hm i h1 h2
  exact ⟨h0, j, g1, g2, fun e => by obtain ⟨e1, e2, e3, e4⟩ := g3 e; exact hR i j e2 e3 e4 (h3 e1)⟩

theorem ptrR_move {o : Nat} {u : Value} (i j : Inf) (ha : i.a = j.a) (_ : i.z = j.z) (_ : i.n = j.n) : (∃ r o', i.a = some (r, o') ∧ u = .pointer (some ⟨r, o' + o, none⟩)) → ∃ r o', j.a = some (r, o') ∧ u = .pointer (some ⟨r, o' + o, none⟩) := by
  rw [ha]; exact id
theorem vecR_move {e : Nat} {u : Value} (i j : Inf) (ha : i.a = j.a) (hz : i.z = j.z) (hn : i.n = j.n) (h : vecR e u i) : vecR e u j := by
  unfold vecR at *; rw [← ha, ← hz, ← hn]; exact h
theorem slcR_move {st e off len : Nat} {u : Value} (i j : Inf) (ha : i.a = j.a) (_ : i.z = j.z) (hn : i.n = j.n) (h : slcR st e off len u i) : slcR st e off len u j := by
  unfold slcR at *; rw [← ha, ← hn]; exact h
theorem prwR_move {st e p q : Nat} {u : Value} (i j : Inf) (ha : i.a = j.a) (_ : i.z = j.z) (hn : i.n = j.n) (h : prwR st e p q u i) : prwR st e p q u j := by
  unfold prwR at *; rw [← ha, ← hn]; exact h

/-- Names go over into names: what is needed of two maps. -/
def Moves (φ ψ : Phi) (b v c v' : Nat) : Prop := ∀ i, φ b = some i → v ≤ i.v → ∃ j, ψ c = some j ∧ v' ≤ j.v ∧ (v' = j.v → v = i.v ∧ i.a = j.a ∧ i.z = j.z ∧ i.n = j.n)

theorem prel_move {φ ψ : Phi} {b c o : Nat} {u : Value} (h : prel φ (b, o) u) (hm : Moves φ ψ b 0 c 0) : prel ψ (c, o) u := vrel_move ptrR_move h hm

section
variable {P : Program} {w0 : World} {may : Nat → Prop} {φ : Phi} {σ : Sig} {μ : Mem} {ρ : Hds} {fr : Nat → Prop} {w : World} {a : Act} {o : Oper}

theorem renB_spec {foot : List Nat} {b v i : Nat} (h : renB ρ foot b v = some i) : foot[i]? = some b ∧ ∃ hd, ρ b = some hd ∧ hd.v = v := by
  unfold renB at h
  split at h
  · rename_i j hj
    split at h
    · rename_i hd hc
      simp only [Option.some.injEq] at h; subst h
      obtain ⟨_, h2⟩ := idxOf_spec hj
      exact ⟨by simpa using h2, hd, (cur_spec hc).1, (cur_spec hc).2⟩
    · cases h
  · cases h

theorem renC_rel {foot : List Nat} {ψ : Phi} (hm : ∀ b v i, renB ρ foot b v = some i → Moves φ ψ b v i 0) : ∀ {l : List (Nat × Nat)} {l' : List (Nat × Nat)} {vs : List Value}, renC ρ foot l = some l' → All2 (prel φ) l vs → All2 (prel ψ) l' vs
  | [], l', vs, h, hv => by simp only [renC, Option.some.injEq] at h; subst h; cases hv; exact .nil
  | (b, o) :: r, l', vs, h, hv => by
    unfold renC at h
    split at h
    · rename_i i l'' h1 h2
      simp only [Option.some.injEq] at h; subst h
      cases hv with
      | cons x y => exact .cons (prel_move x (hm b 0 i h1)) (renC_rel hm h2 y)
    · cases h

theorem renA_rel {foot : List Nat} {ψ : Phi} (hm : ∀ b v i, renB ρ foot b v = some i → Moves φ ψ b v i 0) {x : At} {v : Value} (h : x.rel φ v) : (renA ρ foot x).rel ψ v := by
  have hu := At.rel_one h
  cases x with
  | bool s b => exact h
  | int s k n => exact h
  | str s y => exact h
  | nil => exact h
  | nils => exact h
  | nilfn => exact h
  | unk => exact h
  | val u => exact h
  | ptr b o =>
    simp only [renA]
    split
    · rename_i i hi; exact prel_move h (hm b 0 i hi)
    · exact hu
  | prw s b ver st e p q =>
    simp only [renA]
    split
    · rename_i i hi; exact vrel_move prwR_move h (hm b ver i hi)
    · exact hu
  | slc s b ver st e off len =>
    simp only [renA]
    split
    · rename_i i hi; exact vrel_move slcR_move h (hm b ver i hi)
    · exact hu
  | vec b ver e =>
    simp only [renA]
    split
    · rename_i i hi; exact vrel_move vecR_move h (hm b ver i hi)
    · exact hu
  | fn f caps =>
    simp only [renA]
    split
    · rename_i l hl
      obtain ⟨cs, e, g⟩ := h
      exact ⟨cs, e, renC_rel hm hl g⟩
    · exact hu

theorem renV_rel {foot : List Nat} {ψ : Phi} (hm : ∀ b v i, renB ρ foot b v = some i → Moves φ ψ b v i 0) {x : LV} {v : Value} (h : x.rel φ v) : (renV ρ foot x).rel ψ v := by
  cases x with
  | a x => exact renA_rel hm h
  | g l =>
    obtain ⟨cs, e, k⟩ := h
    refine ⟨cs, e, ?_⟩
    generalize cs.toList = m at k
    induction k with
    | nil => exact .nil
    | cons r _ ih => exact .cons (renA_rel hm r) ih
  | t l => trivial
  | u => trivial

theorem backB_lt {foot : List Nat} {id i b : Nat} {hd : Hd} (h : foot[i]? = some b) (hh : ρ b = some hd) : backB ρ foot id i = (b, hd.v) := by simp [backB, h, hh]
theorem backB_ge {foot : List Nat} {id i : Nat} (h : foot.length ≤ i) : backB ρ foot id i = (id + (i - foot.length), 0) := by
  have : foot[i]? = none := by simpa using h
  simp [backB, this]

theorem backC_rel {foot : List Nat} {id : Nat} {ψ : Phi} (hm : ∀ i v b u, backB ρ foot id i = (b, u) → Moves φ ψ i v b (u + v)) : ∀ {l : List (Nat × Nat)} {l' : List (Nat × Nat)} {vs : List Value}, backC ρ foot id l = some l' → All2 (prel φ) l vs → All2 (prel ψ) l' vs
  | [], l', vs, h, hv => by simp only [backC, Option.some.injEq] at h; subst h; cases hv; exact .nil
  | (i, o) :: r, l', vs, h, hv => by
    unfold backC at h
    split at h
    · rename_i b u l'' h1 h2
      split at h
      · rename_i hu
        have hu := Nat.eq_of_beq_eq_true hu
        subst hu
        simp only [Option.some.injEq] at h; subst h
        cases hv with
        | cons x y => exact .cons (prel_move x (hm i 0 b 0 h1)) (backC_rel hm h2 y)
      · cases h
    · cases h

theorem backA_rel {foot : List Nat} {id : Nat} {ψ : Phi} (hm : ∀ i v b u, backB ρ foot id i = (b, u) → Moves φ ψ i v b (u + v)) {x : At} {v : Value} (h : x.rel φ v) : (backA ρ foot id x).rel ψ v := by
  have hu := At.rel_one h
  cases x with
  | bool s b => exact h
  | int s k n => exact h
  | str s y => exact h
  | nil => exact h
  | nils => exact h
  | nilfn => exact h
  | unk => exact h
  | val u => exact h
  | ptr i o =>
    simp only [backA]
    cases hb : backB ρ foot id i with
    | mk b u =>
      simp only
      split
      · rename_i hz
        have hz := Nat.eq_of_beq_eq_true hz
        subst hz
        exact prel_move h (hm i 0 b 0 hb)
      · exact hu
  | prw s i ver st e p q =>
    simp only [backA]
    cases hb : backB ρ foot id i with
    | mk b u => exact vrel_move prwR_move h (hm i ver b u hb)
  | slc s i ver st e off len =>
    simp only [backA]
    cases hb : backB ρ foot id i with
    | mk b u => exact vrel_move slcR_move h (hm i ver b u hb)
  | vec i ver e =>
    simp only [backA]
    cases hb : backB ρ foot id i with
    | mk b u => exact vrel_move vecR_move h (hm i ver b u hb)
  | fn f caps =>
    simp only [backA]
    split
    · rename_i l hl
      obtain ⟨cs, e, g⟩ := h
      exact ⟨cs, e, backC_rel hm hl g⟩
    · exact hu

theorem backL_rel {foot : List Nat} {id : Nat} {ψ : Phi} (hm : ∀ i v b u, backB ρ foot id i = (b, u) → Moves φ ψ i v b (u + v)) {l : List At} {m : List Value} (k : All2 (At.rel φ) l m) : All2 (At.rel ψ) (l.map (backA ρ foot id)) m := by
  induction k with
  | nil => exact .nil
  | cons r _ ih => exact .cons (backA_rel hm r) ih

theorem backV_rel {foot : List Nat} {id : Nat} {ψ : Phi} (hm : ∀ i v b u, backB ρ foot id i = (b, u) → Moves φ ψ i v b (u + v)) {x y : LV} {v : Value} (e : backV ρ foot id x = some y) (h : x.rel φ v) : y.rel ψ v ∧ (x.rel1 φ v → y.rel1 ψ v) := by
  cases x with
  | a x => simp only [backV, Option.some.injEq] at e; subst e; exact ⟨backA_rel hm h, fun _ => backA_rel hm h⟩
  | g l =>
    simp only [backV, Option.some.injEq] at e; subst e
    obtain ⟨cs, e, k⟩ := h
    exact ⟨⟨cs, e, backL_rel hm k⟩, fun _ => ⟨cs, e, backL_rel hm k⟩⟩
  | t l => simp [backV] at e
  | u => simp [backV] at e

theorem backVs_rel {foot : List Nat} {id : Nat} {ψ : Phi} (hm : ∀ i v b u, backB ρ foot id i = (b, u) → Moves φ ψ i v b (u + v)) : ∀ {l m : List LV} {vs : List Value}, backVs ρ foot id l = some m → All2 (LV.rel1 φ) l vs → All2 (LV.rel1 ψ) m vs
  | [], m, vs, h, hv => by simp only [backVs, Option.some.injEq] at h; subst h; cases hv; exact .nil
  | x :: r, m, vs, h, hv => by
    unfold backVs at h
    split at h
    · rename_i y l h1 h2
      simp only [Option.some.injEq] at h; subst h
      cases hv with
      | cons p q =>
        refine .cons ((backV_rel hm h1 ?_).2 p) (backVs_rel hm h2 q)
        cases x with
        | a x => exact p
        | g l => exact p
        | t l => exact p.elim
        | u => trivial
    · cases h

theorem backT_rel {foot : List Nat} {id : Nat} {ψ : Phi} (hm : ∀ i v b u, backB ρ foot id i = (b, u) → Moves φ ψ i v b (u + v)) {x y : LV} {v : Value} (e : backT ρ foot id x = some y) (h : x.rel φ v) : y.rel ψ v := by
  cases x with
  | t l =>
    simp only [backT] at e
    split at e
    · rename_i m hm'
      simp only [Option.some.injEq] at e; subst e
      obtain ⟨vs, e, k⟩ := h
      exact ⟨vs, e, backVs_rel hm hm' k⟩
    · cases e
  | a x => exact (backV_rel hm (x := .a x) e h).1
  | g l => exact (backV_rel hm (x := .g l) e h).1
  | u => simp [backT, backV] at e

theorem mem_backCells {sk : Nat → Bool} {foot : List Nat} {id b u : Nat} {key : Nat} {x : At} : ∀ {cs : List (Option At)} {k : Nat}, (key, x) ∈ backCells sk ρ foot id b u k cs ↔ ∃ j y, cs[j]? = some y ∧ key = b * 65536 + (k + j) ∧ sk (k + j) = false ∧ x = (match y, Nat.beq u 0 with
      | some z, true => backA ρ foot id z
      | _, _ => .unk)
  | [], k => by simp [backCells]
  | c :: cs, k => by
    unfold backCells
    cases hs : sk k with
    | true =>
      simp only [mem_backCells (cs := cs)]
      constructor
      · rintro ⟨j, y, h1, h2, h3, h4⟩
        exact ⟨j + 1, y, by simpa using h1, by omega, by rw [show k + (j + 1) = k + 1 + j by omega]; exact h3, h4⟩
      · rintro ⟨j, y, h1, h2, h3, h4⟩
        cases j with
        | zero => rw [Nat.add_zero, hs] at h3; cases h3
        | succ j => exact ⟨j, y, by simpa using h1, by omega, by rw [show k + 1 + j = k + (j + 1) by omega]; exact h3, h4⟩
    | false =>
      simp only [List.mem_cons, Prod.mk.injEq, mem_backCells (cs := cs)]
      constructor
      · rintro (⟨rfl, rfl⟩ | ⟨j, y, h1, h2, h3, h4⟩)
        · exact ⟨0, c, by simp, by simp, by simpa using hs, rfl⟩
        · exact ⟨j + 1, y, by simpa using h1, by omega, by rw [show k + (j + 1) = k + 1 + j by omega]; exact h3, h4⟩
      · rintro ⟨j, y, h1, h2, h3, h4⟩
        cases j with
        | zero => simp at h1; subst h1; exact .inl ⟨by omega, h4⟩
        | succ j => exact .inr ⟨j, y, by simpa using h1, by omega, by rw [show k + 1 + j = k + (j + 1) by omega]; exact h3, h4⟩

theorem mem_backBlks {foot : List Nat} {id : Nat} : ∀ {out : List (Option BC)} {i : Nat} {cs : List (Nat × At)} {hs : List (Nat × Hd)}, backBlks ρ foot id i out = (cs, hs) →
    (∀ key x, (key, x) ∈ cs ↔ ∃ j c b u, out[j]? = some (some c) ∧ backB ρ foot id (i + j) = (b, u) ∧ (key, x) ∈ backCells (skipOf ρ foot (i + j)) ρ foot id b u 0 c.cs) ∧
    (∀ k h, (k, h) ∈ hs ↔ ∃ j c u, out[j]? = some (some c) ∧ backB ρ foot id (i + j) = (k, u) ∧ h = ⟨u + c.h.v, c.h.z, c.h.ro, c.h.R⟩)
  | [], i, cs, hs, h => by
    simp only [backBlks, Prod.mk.injEq] at h
    obtain ⟨rfl, rfl⟩ := h
    simp
  | none :: r, i, cs, hs, h => by
    simp only [backBlks] at h
    obtain ⟨g1, g2⟩ := mem_backBlks h
    constructor
    · intro key x
      rw [g1]
      constructor
      · rintro ⟨j, c, b, u, h1, h2, h3⟩; exact ⟨j + 1, c, b, u, by simpa using h1, by rw [show i + (j + 1) = i + 1 + j by omega]; exact h2, by first | exact h3 | (rw [show i + (j + 1) = i + 1 + j by omega]; exact h3)⟩
      · rintro ⟨j, c, b, u, h1, h2, h3⟩
        cases j with
        | zero => simp at h1
        | succ j => exact ⟨j, c, b, u, by simpa using h1, by rw [show i + 1 + j = i + (j + 1) by omega]; exact h2, by first | exact h3 | (rw [show i + 1 + j = i + (j + 1) by omega]; exact h3)⟩
    · intro key x
      rw [g2]
      constructor
      · rintro ⟨j, c, u, h1, h2, h3⟩; exact ⟨j + 1, c, u, by simpa using h1, by rw [show i + (j + 1) = i + 1 + j by omega]; exact h2, by first | exact h3 | (rw [show i + (j + 1) = i + 1 + j by omega]; exact h3)⟩
      · rintro ⟨j, c, u, h1, h2, h3⟩
        cases j with
        | zero => simp at h1
        | succ j => exact ⟨j, c, u, by simpa using h1, by rw [show i + 1 + j = i + (j + 1) by omega]; exact h2, by first | exact h3 | (rw [show i + 1 + j = i + (j + 1) by omega]; exact h3)⟩
  | some c0 :: r, i, cs, hs, h => by
    simp only [backBlks] at h
    cases hb : backB ρ foot id i with
    | mk b0 u0 =>
    cases hr : backBlks ρ foot id (i + 1) r with
    | mk cs' hs' =>
    rw [hb, hr] at h
    simp only [Prod.mk.injEq] at h
    obtain ⟨rfl, rfl⟩ := h
    obtain ⟨g1, g2⟩ := mem_backBlks hr
    constructor
    · intro key x
      rw [List.mem_append, g1]
      constructor
      · rintro (h | ⟨j, c, b, u, h1, h2, h3⟩)
        · exact ⟨0, c0, b0, u0, by simp, hb, h⟩
        · exact ⟨j + 1, c, b, u, by simpa using h1, by rw [show i + (j + 1) = i + 1 + j by omega]; exact h2, by first | exact h3 | (rw [show i + (j + 1) = i + 1 + j by omega]; exact h3)⟩
      · rintro ⟨j, c, b, u, h1, h2, h3⟩
        cases j with
        | zero =>
          simp only [List.getElem?_cons_zero, Option.some.injEq] at h1; subst h1
          rw [Nat.add_zero, hb] at h2
          simp only [Prod.mk.injEq] at h2; obtain ⟨rfl, rfl⟩ := h2
          exact .inl h3
        | succ j => exact .inr ⟨j, c, b, u, by simpa using h1, by rw [show i + 1 + j = i + (j + 1) by omega]; exact h2, by first | exact h3 | (rw [show i + 1 + j = i + (j + 1) by omega]; exact h3)⟩
    · intro key x
      rw [List.mem_cons, g2]
      constructor
      · rintro (h | ⟨j, c, u, h1, h2, h3⟩)
        · simp only [Prod.mk.injEq] at h; obtain ⟨rfl, rfl⟩ := h
          exact ⟨0, c0, u0, by simp, hb, rfl⟩
        · exact ⟨j + 1, c, u, by simpa using h1, by rw [show i + (j + 1) = i + 1 + j by omega]; exact h2, by first | exact h3 | (rw [show i + (j + 1) = i + 1 + j by omega]; exact h3)⟩
      · rintro ⟨j, c, u, h1, h2, h3⟩
        cases j with
        | zero =>
          simp only [List.getElem?_cons_zero, Option.some.injEq] at h1; subst h1
          rw [Nat.add_zero, hb] at h2
          simp only [Prod.mk.injEq] at h2; obtain ⟨rfl, rfl⟩ := h2
          exact .inl (by rw [h3])
        | succ j => exact .inr ⟨j, c, u, by simpa using h1, by rw [show i + 1 + j = i + (j + 1) by omega]; exact h2, by first | exact h3 | (rw [show i + 1 + j = i + (j + 1) by omega]; exact h3)⟩

theorem cellBound_get : ∀ {out : List (Option BC)}, cellBound out = true → ∀ (i : Nat) (c : BC), out[i]? = some (some c) → c.cs.length = c.h.z ∧ c.h.z ≤ 65536 ∧ c.h.ro = false
  | [], _, i, c, h => by simp at h
  | none :: r, hb, i, c, h => by
    cases i with
    | zero => simp at h
    | succ i => exact cellBound_get (out := r) hb i c (by simpa using h)
  | some c0 :: r, hb, i, c, h => by
    unfold cellBound at hb
    split at hb
    · rename_i hc
      simp only [Bool.and_eq_true, Bool.not_eq_true'] at hc
      cases i with
      | zero => simp at h; subst h; exact ⟨Nat.eq_of_beq_eq_true hc.1.1, Nat.le_of_ble_eq_true hc.1.2, hc.2⟩
      | succ i => exact cellBound_get hb i c (by simpa using h)
    · cases hb

theorem zOK_get : ∀ {bs : List BC} {out : List (Option BC)}, zOK bs out = true → bs.length ≤ out.length ∧ ∀ (i : Nat) (b c : BC), bs[i]? = some b → out[i]? = some (some c) → b.h.z ≤ c.cs.length
  | [], out, _ => ⟨by simp, fun i b c h => by simp at h⟩
  | _ :: _, [], h => by simp [zOK] at h
  | b0 :: bs, none :: out, h => by
    obtain ⟨h1, h2⟩ := zOK_get (bs := bs) (out := out) h
    refine ⟨by simp [h1], fun i b c hb hc => ?_⟩
    cases i with
    | zero => simp at hc
    | succ i => exact h2 i b c (by simpa using hb) (by simpa using hc)
  | b0 :: bs, some c0 :: out, h => by
    unfold zOK at h
    split at h
    · rename_i hz
      obtain ⟨h1, h2⟩ := zOK_get h
      refine ⟨by simp [h1], fun i b c hb hc => ?_⟩
      cases i with
      | zero => simp at hb hc; subst hb; subst hc; exact Nat.le_of_ble_eq_true hz
      | succ i => exact h2 i b c (by simpa using hb) (by simpa using hc)
    · cases h

theorem vOK_get {foot : List Nat} {id : Nat} : ∀ {out : List (Option BC)} {k : Nat}, vOK ρ foot id k out = true → ∀ (i : Nat) (c : BC) (b u : Nat), out[i]? = some (some c) → backB ρ foot id (k + i) = (b, u) → u = 0 ∨ c.h.grows = true
  | [], k, _, i, c, b, u, h, _ => by simp at h
  | none :: out, k, h, i, c, b, u, hc, hb => by
    cases i with
    | zero => simp at hc
    | succ i => exact vOK_get (out := out) (k := k + 1) h i c b u (by simpa using hc) (by rw [show k + 1 + i = k + (i + 1) by omega]; exact hb)
  | some c0 :: out, k, h, i, c, b, u, hc, hb => by
    unfold vOK at h
    split at h
    · rename_i hv
      cases i with
      | zero =>
        simp only [List.getElem?_cons_zero, Option.some.injEq] at hc; subst hc
        rw [Nat.add_zero] at hb
        rw [hb] at hv
        simp only [Bool.or_eq_true] at hv
        exact hv.imp (fun e => Nat.eq_of_beq_eq_true e) (fun e => e)
      | succ i => exact vOK_get (out := out) (k := k + 1) h i c b u (by simpa using hc) (by rw [show k + 1 + i = k + (i + 1) by omega]; exact hb)
    · cases h

theorem allSet_get : ∀ {l : List (Option BC)}, allSet l = true → ∀ (i : Nat), i < l.length → ∃ c, l[i]? = some (some c)
  | [], _, i, h => by simp at h
  | none :: _, h, _, _ => by simp [allSet] at h
  | some c :: r, h, i, hi => by
    cases i with
    | zero => exact ⟨c, by simp⟩
    | succ i => obtain ⟨c', h'⟩ := allSet_get (l := r) h i (by simpa using hi); exact ⟨c', by simpa using h'⟩

end
end Go.Proofs.Ytcdejlgophpdjaa.V
end

section
namespace Go.Proofs.Ytcdejlgophpdjaa.V
open Go Go.RowKit

def isKeep (out : List (Option BC)) (i : Nat) : Bool := match out[i]? with
  | some none => true
  | _ => false

def phiC (φ : Phi) (foot : List Nat) (out : List (Option BC)) : Phi := fun i => match foot[i]? with
  | some b => match φ b with
    | some j => some ⟨j.ty, j.a, j.z, j.n, 0, j.ro || isKeep out i⟩
    | none => none
  | none => none

theorem phiC_get {φ : Phi} {foot : List Nat} {out : List (Option BC)} {i : Nat} {j' : Inf} (h : phiC φ foot out i = some j') : ∃ b j, foot[i]? = some b ∧ φ b = some j ∧ j' = ⟨j.ty, j.a, j.z, j.n, 0, j.ro || isKeep out i⟩ := by
  unfold phiC at h
  split at h
  · rename_i b hb
    split at h
    · rename_i j hj
      simp only [Option.some.injEq] at h
      exact ⟨b, j, hb, hj, h.symm⟩
    · cases h
  · cases h

theorem phiC_mk {φ : Phi} {foot : List Nat} {out : List (Option BC)} {i b : Nat} {j : Inf} (h : foot[i]? = some b) (hj : φ b = some j) : phiC φ foot out i = some ⟨j.ty, j.a, j.z, j.n, 0, j.ro || isKeep out i⟩ := by
  simp [phiC, h, hj]

def mayC (φ : Phi) (foot : List Nat) (out : List (Option BC)) (r : Nat) : Prop := ∃ i b j o, foot[i]? = some b ∧ φ b = some j ∧ j.a = some (r, o) ∧ j.ro = false ∧ isKeep out i = false

section
variable {P : Program} {w0 : World} {may : Nat → Prop} {φ : Phi} {σ : Sig} {μ : Mem} {ρ : Hds} {fr : Nat → Prop} {w : World} {a : Act} {o : Oper}

theorem ren_moves (hM : MR w0 may φ μ ρ fr w) {foot : List Nat} {out : List (Option BC)} : ∀ b v i, renB ρ foot b v = some i → Moves φ (phiC φ foot out) b v i 0 := by
  intro b v i h j hj
  obtain ⟨h1, hd, h2, h3⟩ := renB_spec h
  obtain ⟨j', g1, g2, _⟩ := hM.hdr b hd h2
  rw [hj] at g1; simp only [Option.some.injEq] at g1; subst g1
  exact fun _ => ⟨_, phiC_mk h1 hj, Nat.le_refl _, fun _ => ⟨by rw [g2, h3], rfl, rfl, rfl⟩⟩

theorem callee_mr (hM : MR w0 may φ μ ρ fr w) {foot : List Nat} {bs : List BC} {out : List (Option BC)} (hbs : blksOf μ ρ foot foot = some bs) (hnd : nodupB foot = true) :
    MR w (mayC φ foot out) (phiC φ foot out) (memOf bs) (hdsIn bs out) (fun b => bs.length ≤ b) w := by
  obtain ⟨hlen, hget⟩ := blksOf_get hbs
  have blk : ∀ (i : Nat) (c : BC), bs[i]? = some c → ∃ b hd, foot[i]? = some b ∧ ρ b = some hd ∧ c.h = ⟨0, hd.z, hd.ro, hd.R⟩ ∧ hd.z ≤ 65536 ∧ c.cs = blkCells μ ρ foot b hd 0 hd.z := by
    intro i c hc
    have hi : i < foot.length := by rw [← hlen]; exact (List.getElem?_eq_some_iff.1 hc).1
    obtain ⟨c', h1, h2⟩ := hget i foot[i] (by simp [hi])
    rw [hc] at h1; simp only [Option.some.injEq] at h1; subst h1
    obtain ⟨hd, q1, q2, q3, q4⟩ := blkOf_spec h2
    exact ⟨foot[i], hd, by simp [hi], q1, q2, q3, q4⟩
  have cell : ∀ k x, memOf bs k = some x → ∃ c b hd x0, bs[k / 65536]? = some c ∧ foot[k / 65536]? = some b ∧ ρ b = some hd ∧ c.h = ⟨0, hd.z, hd.ro, hd.R⟩ ∧ k % 65536 < hd.z ∧ μ (b * 65536 + k % 65536) = some x0 ∧ x = renA ρ foot x0 := by
    intro k x hx
    unfold memOf at hx
    split at hx
    · rename_i c hc
      obtain ⟨b, hd, q1, q2, q3, q4, q5⟩ := blk _ c hc
      unfold cellOf at hx
      split at hx
      · rename_i y hy
        simp only [Option.some.injEq] at hx; subst hx
        have hk : k % 65536 < hd.z := by
          have := (List.getElem?_eq_some_iff.1 hy).1
          rw [q5, blkCells_len] at this; exact this
        rw [q5, blkCells_get hk, Nat.zero_add] at hy
        simp only [Option.some.injEq] at hy
        cases hm : μ (b * 65536 + k % 65536) with
        | none => rw [hm] at hy; simp only [renO] at hy; split at hy <;> cases hy
        | some x0 =>
          rw [hm] at hy; simp only [renO] at hy
          split at hy
          · cases hy
          · split at hy
            · cases hy
            · simp only [Option.some.injEq] at hy
              exact ⟨c, b, hd, x0, hc, q1, q2, q3, hk, hm, hy.symm⟩
      · cases hx
    · cases hx
  have hdr : ∀ i h, hdsIn bs out i = some h → ∃ c b hd, bs[i]? = some c ∧ foot[i]? = some b ∧ ρ b = some hd ∧ h = ⟨0, hd.z, hd.ro || isKeep out i, hd.R⟩ := by
    intro i h hh
    unfold hdsIn at hh
    split at hh
    · rename_i c hc
      obtain ⟨b, hd, q1, q2, q3, q4, q5⟩ := blk _ c hc
      refine ⟨c, b, hd, hc, q1, q2, ?_⟩
      split at hh
      · rename_i ho
        simp only [Option.some.injEq] at hh; subst hh
        simp [roH, q3, isKeep, ho]
      · rename_i hne
        simp only [Option.some.injEq] at hh; subst hh
        have : isKeep out i = false := by
          unfold isKeep
          split
          · rename_i ho; exact absurd ho hne
          · rfl
        simp [q3, this]
    · cases hh
  constructor
  · intro k x hx
    obtain ⟨c, b, hd, x0, q1, q2, q3, q4, q5, q6, rfl⟩ := cell k x hx
    have hz : k % 65536 < 65536 := Nat.mod_lt _ (by decide)
    rcases hM.cell _ _ q6 with e | ⟨j, h1, h2, h3, r, o', arr, ty, fz, v, h4, h5, h6, h7⟩
    · subst e; exact .inl rfl
    · right
      rw [key_div _ _ hz] at h1
      rw [key_mod _ _ hz] at h3 h6
      exact ⟨_, phiC_mk q2 h1, rfl, h3, r, o', arr, ty, fz, v, h4, h5, h6, renA_rel (ren_moves hM) h7⟩
  · intro i h hh
    obtain ⟨c, b, hd, q1, q2, q3, rfl⟩ := hdr i h hh
    obtain ⟨j, h1, h2, h3, h4, h5⟩ := hM.hdr b hd q3
    refine ⟨_, phiC_mk q2 h1, rfl, by simp [h3], fun hg => ?_, fun R hR => ?_⟩
    · obtain ⟨e1, e2, e3⟩ := h4 (by simpa [Hd.grows] using hg)
      exact ⟨rfl, e2, e3⟩
    · exact h5 R hR
  · intro k x h hx hne hh
    obtain ⟨c, b, hd, x0, q1, q2, q3, q4, q5, q6, rfl⟩ := cell k x hx
    obtain ⟨c', b', hd', p1, p2, p3, rfl⟩ := hdr _ h hh
    rw [q2] at p2; simp only [Option.some.injEq] at p2; subst p2
    rw [q3] at p3; simp only [Option.some.injEq] at p3; subst p3
    have hz : k % 65536 < 65536 := Nat.mod_lt _ (by decide)
    have hx0 : x0 ≠ .unk := fun e => by subst e; exact hne rfl
    have := hM.apart _ x0 hd q6 hx0 (by rw [key_div _ _ hz]; exact q3)
    rw [key_mod _ _ hz] at this
    exact ⟨by simpa [Hd.grows] using this.1, this.2⟩
  · intro i i' j j' r o' o'' hi hi' ha ha'
    obtain ⟨b, j1, h1, h2, rfl⟩ := phiC_get hi
    obtain ⟨b', j2, h3, h4, rfl⟩ := phiC_get hi'
    rcases hM.inj b b' j1 j2 r o' o'' h2 h4 ha ha' with e | ⟨e1, e2⟩
    · subst e; exact .inl (nodupB_spec hnd h1 h3)
    · exact .inr ⟨by simp [e1], by simp [e2]⟩
  · intro i j r o' hi ha hro
    obtain ⟨b, j1, h1, h2, rfl⟩ := phiC_get hi
    simp only [Bool.or_eq_false_iff] at hro
    obtain ⟨_, g2, arr, g3, g4⟩ := hM.own b j1 r o' h2 ha hro.1
    exact ⟨.inl ⟨i, b, j1, o', h1, h2, ha, hro.1, hro.2⟩, g2, arr, g3, g4⟩
  · intro i j r o' hi ha hro
    obtain ⟨b, j1, h1, h2, rfl⟩ := phiC_get hi
    refine ⟨hM.big b j1 r o' h2 ha, ?_⟩
    rintro ⟨i2, b2, j2, o2, f1, f2, f3, f4, f5⟩
    rcases hM.inj b b2 j1 j2 r o' o2 h2 f2 ha f3 with e | ⟨_, e⟩
    · subst e
      have := nodupB_spec hnd h1 f1
      subst this
      rw [h2] at f2; simp only [Option.some.injEq] at f2; subst f2
      simp [f4, f5] at hro
    · rw [f4] at e; cases e
  · intro i hi
    have hi : bs.length ≤ i := hi
    have : foot[i]? = none := by simp; omega
    simp [phiC, this]
  · intro i j r o' hi ha
    obtain ⟨b, j1, h1, h2, rfl⟩ := phiC_get hi
    exact hM.big b j1 r o' h2 ha
  · rfl
  · rfl
  · rfl
  · exact Nat.le_refl _
  · intro k _ _; rfl
  · intro p; rfl

def phiB (φ ψ : Phi) (ρ : Hds) (foot : List Nat) (out : List (Option BC)) (id : Nat) : Phi := fun b => match idxOf b foot 0 with
  | some i => match isKeep out i with
    | true => φ b
    | false => match ψ i, ρ b with
      | some j, some h => some ⟨j.ty, j.a, j.z, j.n, h.v + j.v, j.ro⟩
      | _, _ => none
  | none => match Nat.ble id b && Nat.blt b (id + (out.length - foot.length)) with
    | true => ψ (foot.length + (b - id))
    | false => φ b

set_option maxHeartbeats 4000000 in
theorem caller_mr (hM : MR w0 may φ μ ρ fr w) {foot : List Nat} {bs : List BC} {out : List (Option BC)} {id : Nat} (hbs : blksOf μ ρ foot foot = some bs) (hnd : nodupB foot = true) (hcb : cellBound out = true) (hz : zOK bs out = true) (hvo : vOK ρ foot id 0 out = true)
    (h16 : out.length ≤ foot.length + 16) (hset : allSet (out.drop foot.length) = true) (hid : ∀ j, j < 16 → fr (id + j)) {ψ : Phi} {w' : World} (hle : (phiC φ foot out).le ψ)
    (hM' : MR w (mayC φ foot out) ψ (memAft bs out) (hdsAft bs out) (fun b => out.length ≤ b) w') {cs : List (Nat × At)} {hs : List (Nat × Hd)} (hbk : backBlks ρ foot id 0 out = (cs, hs)) :
    φ.le (phiB φ ψ ρ foot out id) ∧ (∀ i v b u, backB ρ foot id i = (b, u) → Moves ψ (phiB φ ψ ρ foot out id) i v b (u + v)) ∧
    MR w0 may (phiB φ ψ ρ foot out id) (updL μ cs) (updL ρ hs) (fun b => fr b ∧ ∀ j, j < 16 → b ≠ id + j) w' := by
  obtain ⟨hlen, hget⟩ := blksOf_get hbs
  obtain ⟨hlo, hzz⟩ := zOK_get hz
  obtain ⟨m1, m2⟩ := mem_backBlks hbk
  have hcbg := cellBound_get hcb
  have footρ : ∀ (i b : Nat), foot[i]? = some b → ∃ (hd : Hd) (c : BC), ρ b = some hd ∧ bs[i]? = some c ∧ c.h = ⟨0, hd.z, hd.ro, hd.R⟩ := by
    intro i b hb
    obtain ⟨c, h1, h2⟩ := hget i b hb
    obtain ⟨hd, q1, q2, _, _⟩ := blkOf_spec h2
    exact ⟨hd, c, q1, h1, q2⟩
  have footφ : ∀ (i b : Nat), foot[i]? = some b → ∃ hd j, ρ b = some hd ∧ φ b = some j ∧ j.v = hd.v ∧ j.ro = hd.ro := by
    intro i b hb
    obtain ⟨hd, c, q1, _, _⟩ := footρ i b hb
    obtain ⟨j, h1, h2, h3, _⟩ := hM.hdr b hd q1
    exact ⟨hd, j, q1, h1, h2, h3⟩
  have newφ : ∀ i, foot.length ≤ i → i < out.length → φ (id + (i - foot.length)) = none := fun i h1 h2 => hM.dom _ (hid _ (by omega))
  have idx : ∀ (i b : Nat), foot[i]? = some b → idxOf b foot 0 = some i := by
    intro i b hb
    cases h : idxOf b foot 0 with
    | none => exact absurd (List.mem_of_getElem? hb) (idxOf_none h)
    | some i' =>
      have := (idxOf_spec h).2
      rw [Nat.sub_zero] at this
      rw [nodupB_spec hnd this hb]
  have noidx : ∀ b, φ b = none → idxOf b foot 0 = none := by
    intro b hb
    cases h : idxOf b foot 0 with
    | none => rfl
    | some i =>
      have := (idxOf_spec h).2
      rw [Nat.sub_zero] at this
      obtain ⟨_, j, _, h2, _⟩ := footφ i b this
      rw [hb] at h2; cases h2
  -- blocks that the callee has told anew
  have anew : ∀ (i : Nat) (c : BC), out[i]? = some (some c) → ∃ b u, backB ρ foot id i = (b, u) ∧ isKeep out i = false ∧
      ((i < foot.length ∧ foot[i]? = some b ∧ ∃ hd j, ρ b = some hd ∧ φ b = some j ∧ hd.v = u ∧ j.v = u ∧ j.ro = hd.ro) ∨ (foot.length ≤ i ∧ b = id + (i - foot.length) ∧ u = 0 ∧ φ b = none)) := by
    intro i c hc
    have hk : isKeep out i = false := by simp [isKeep, hc]
    have hil : i < out.length := (List.getElem?_eq_some_iff.1 hc).1
    by_cases hi : i < foot.length
    · have hb : foot[i]? = some foot[i] := by simp [hi]
      obtain ⟨hd, j, h1, h2, h3, h4⟩ := footφ i _ hb
      exact ⟨foot[i], hd.v, backB_lt hb h1, hk, .inl ⟨hi, hb, hd, j, h1, h2, rfl, h3, h4⟩⟩
    · exact ⟨id + (i - foot.length), 0, backB_ge (by omega), hk, .inr ⟨by omega, rfl, rfl, newφ i (by omega) hil⟩⟩
  have ψsome : ∀ (i : Nat) (c : BC), out[i]? = some (some c) → ∃ j, ψ i = some j ∧ HdOK (w'.heap[·]?) j c.h := by
    intro i c hc
    exact hM'.hdr i c.h (by simp [hdsAft, aft, hc])
  have phiNew : ∀ (i : Nat) (c : BC) (b u : Nat), out[i]? = some (some c) → backB ρ foot id i = (b, u) → ∃ j, ψ i = some j ∧ phiB φ ψ ρ foot out id b = some ⟨j.ty, j.a, j.z, j.n, u + j.v, j.ro⟩ := by
    intro i c b u hc hb
    obtain ⟨j, hj, _⟩ := ψsome i c hc
    obtain ⟨b', u', e1, hk, e2⟩ := anew i c hc
    rw [hb] at e1; simp only [Prod.mk.injEq] at e1; obtain ⟨rfl, rfl⟩ := e1
    refine ⟨j, hj, ?_⟩
    rcases e2 with ⟨hi, hf, hd, jj, g1, g2, g3, _⟩ | ⟨hi, e3, e4, e5⟩
    · simp only [phiB, idx i b hf, hk, hj, g1, g3]
    · have hil : i < out.length := (List.getElem?_eq_some_iff.1 hc).1
      have hbb : (Nat.ble id b && Nat.blt b (id + (out.length - foot.length))) = true := by
        simp only [Bool.and_eq_true]
        exact ⟨Nat.ble_eq_true_of_le (by omega), Nat.ble_eq_true_of_le (by omega)⟩
      simp only [phiB, noidx b e5, hbb]
      rw [show foot.length + (b - id) = i by omega, hj, e4, Nat.zero_add]
  -- the others
  have phiOld : ∀ b, (∀ (i : Nat) (c : BC) (u : Nat), out[i]? = some (some c) → backB ρ foot id i ≠ (b, u)) → phiB φ ψ ρ foot out id b = φ b := by
    intro b hno
    unfold phiB
    split
    · rename_i i hi
      have hf := (idxOf_spec hi).2
      rw [Nat.sub_zero] at hf
      split
      · rfl
      · rename_i hk
        have hil : i < foot.length := (List.getElem?_eq_some_iff.1 hf).1
        have hio : i < out.length := by omega
        obtain ⟨hd, j, h1, _⟩ := footφ i b hf
        cases hc : out[i] with
        | none => simp [isKeep, hio, hc] at hk
        | some c => exact absurd (backB_lt hf h1) (hno i c hd.v (by simp [hio, hc]))
    · rename_i hni
      split
      · rename_i hb
        simp only [Bool.and_eq_true] at hb
        have b1 := Nat.le_of_ble_eq_true hb.1
        have b2 : b < id + (out.length - foot.length) := Nat.le_of_ble_eq_true hb.2
        have hio : foot.length + (b - id) < out.length := by omega
        obtain ⟨c, hc⟩ := allSet_get hset (b - id) (by simp; omega)
        rw [List.getElem?_drop] at hc
        exact absurd (by rw [backB_ge (by omega)]; congr 1; omega) (hno (foot.length + (b - id)) c 0 hc)
      · rfl
  -- each block is of one of the two kinds
  have kinds : ∀ b, (∃ (i : Nat) (c : BC) (u : Nat), out[i]? = some (some c) ∧ backB ρ foot id i = (b, u)) ∨ (∀ (i : Nat) (c : BC) (u : Nat), out[i]? = some (some c) → backB ρ foot id i ≠ (b, u)) := by
    intro b
    by_cases h : ∃ (i : Nat) (c : BC) (u : Nat), out[i]? = some (some c) ∧ backB ρ foot id i = (b, u)
    · exact .inl h
    · exact .inr fun i c u h1 h2 => h ⟨i, c, u, h1, h2⟩
  have uniq : ∀ (i i' : Nat) (c c' : BC) (b u u' : Nat), out[i]? = some (some c) → out[i']? = some (some c') → backB ρ foot id i = (b, u) → backB ρ foot id i' = (b, u') → i = i' ∧ u = u' := by
    intro i i' c c' b u u' hc hc' hb hb'
    have e : i = i' := by
      obtain ⟨b1, u1, e1, _, e2⟩ := anew i c hc
      rw [hb] at e1; simp only [Prod.mk.injEq] at e1; obtain ⟨rfl, rfl⟩ := e1
      obtain ⟨b2, u2, f1, _, f2⟩ := anew i' c' hc'
      rw [hb'] at f1; simp only [Prod.mk.injEq] at f1; obtain ⟨rfl, rfl⟩ := f1
      rcases e2 with ⟨_, e2, _, _, _, e3, _⟩ | ⟨e2, e3, _, e4⟩ <;> rcases f2 with ⟨_, f2, _, _, _, f3, _⟩ | ⟨f2, f3, _, f4⟩
      · exact nodupB_spec hnd e2 f2
      · rw [e3] at f4; cases f4
      · rw [f3] at e4; cases e4
      · omega
    subst e
    rw [hb] at hb'; simp only [Prod.mk.injEq] at hb'
    exact ⟨rfl, hb'.2⟩
  have ψfoot : ∀ (i b : Nat) (j : Inf), foot[i]? = some b → φ b = some j → ∃ j', ψ i = some j' ∧ ((j' = ⟨j.ty, j.a, j.z, j.n, 0, j.ro || isKeep out i⟩) ∨ 0 < j'.v) := by
    intro i b j hf hj
    obtain ⟨j', h1, h2⟩ := hle i _ (phiC_mk hf hj)
    refine ⟨j', h1, ?_⟩
    rcases h2 with e | e
    · exact .inl e.symm
    · exact .inr e
  have hle' : φ.le (phiB φ ψ ρ foot out id) := by
    intro b j hj
    rcases kinds b with ⟨i, c, u, hc, hb⟩ | hno
    · obtain ⟨b', u', e1, hk, e2⟩ := anew i c hc
      rw [hb] at e1; simp only [Prod.mk.injEq] at e1; obtain ⟨rfl, rfl⟩ := e1
      rcases e2 with ⟨_, hf, hd, jj, g1, g2, g3, g4, g5⟩ | ⟨_, _, _, e5⟩
      · obtain ⟨j1, q1, q2⟩ := phiNew i c b u hc hb
        refine ⟨_, q2, ?_⟩
        obtain ⟨j2, p1, p2⟩ := ψfoot i b j hf hj
        rw [q1] at p1; simp only [Option.some.injEq] at p1; subst p1
        rw [hj] at g2; simp only [Option.some.injEq] at g2; subst g2
        rcases p2 with e | e
        · left; rw [e]; cases j; simp_all
        · right; show j.v < u + j1.v; omega
      · rw [hj] at e5; cases e5
    · exact ⟨j, by rw [phiOld b hno]; exact hj, j.le_refl⟩
  -- blocks that are not told anew have not turned
  have keepHeap : ∀ b j r o', (∀ (i : Nat) (c : BC) (u : Nat), out[i]? = some (some c) → backB ρ foot id i ≠ (b, u)) → φ b = some j → j.a = some (r, o') → w'.heap[r]? = w.heap[r]? ∧ ¬ mayC φ foot out r := by
    intro b j r o' hno hj ha
    have hnm : ¬ mayC φ foot out r := by
      rintro ⟨i2, b2, j2, o2, f1, f2, f3, f4, f5⟩
      rcases hM.inj b b2 j j2 r o' o2 hj f2 ha f3 with e | ⟨_, e⟩
      · subst e
        have hil : i2 < foot.length := (List.getElem?_eq_some_iff.1 f1).1
        have hio : i2 < out.length := by omega
        obtain ⟨hd, _, h1, _⟩ := footφ i2 b f1
        cases hc : out[i2] with
        | none => simp [isKeep, hio, hc] at f5
        | some c => exact absurd (backB_lt f1 h1) (hno i2 c hd.v (by simp [hio, hc]))
      · rw [f4] at e; cases e
    exact ⟨hM'.block r (hM.big b j r o' hj ha) hnm, hnm⟩
  have moves : ∀ i v b u, backB ρ foot id i = (b, u) → Moves ψ (phiB φ ψ ρ foot out id) i v b (u + v) := by
    intro i v b u hb j hj hv
    have hil : i < out.length := by
      by_cases h : i < out.length
      · exact h
      · rw [hM'.dom i (by show out.length ≤ i; omega)] at hj; cases hj
    cases hc : out[i] with
    | some c =>
      obtain ⟨j1, q1, q2⟩ := phiNew i c b u (by simp [hil, hc]) hb
      rw [hj] at q1; simp only [Option.some.injEq] at q1; subst q1
      exact ⟨_, q2, Nat.add_le_add_left hv u, fun e => ⟨by have e : u + v = u + j.v := e; omega, rfl, rfl, rfl⟩⟩
    | none =>
      have hfl : i < foot.length := by
        by_cases h : i < foot.length
        · exact h
        · obtain ⟨c, hc'⟩ := allSet_get hset (i - foot.length) (by simp; omega)
          rw [List.getElem?_drop, show foot.length + (i - foot.length) = i by omega] at hc'
          simp [hil, hc] at hc'
      have hf : foot[i]? = some foot[i] := by simp [hfl]
      obtain ⟨hd, jb, g1, g2, g3, g4⟩ := footφ i _ hf
      rw [backB_lt hf g1] at hb
      simp only [Prod.mk.injEq] at hb; obtain ⟨rfl, rfl⟩ := hb
      have hno : ∀ (i' : Nat) (c : BC) (u : Nat), out[i']? = some (some c) → backB ρ foot id i' ≠ (foot[i], u) := by
        intro i' c u hc' e
        obtain ⟨b', u', e1, hk, e2⟩ := anew i' c hc'
        rw [e] at e1; simp only [Prod.mk.injEq] at e1; obtain ⟨e1, rfl⟩ := e1
        rcases e2 with ⟨_, e2, _⟩ | ⟨_, _, _, e5⟩
        · rw [← e1] at e2
          have := nodupB_spec hnd e2 hf
          subst this
          simp [hil, hc] at hc'
        · rw [← e1, g2] at e5; cases e5
      obtain ⟨hd', c', g5, g6, g7⟩ := footρ i _ hf
      have hjv : j.v = 0 := by
        obtain ⟨j', q1, q2, _⟩ := hM'.hdr i (roH c'.h) (by simp [hdsAft, aft, hil, hc, g6])
        rw [hj] at q1; simp only [Option.some.injEq] at q1; subst q1
        rw [q2]; simp [roH, g7]
      obtain ⟨j2, p1, p2⟩ := ψfoot i _ jb hf g2
      rw [hj] at p1; simp only [Option.some.injEq] at p1; subst p1
      have hje : j = ⟨jb.ty, jb.a, jb.z, jb.n, 0, jb.ro || isKeep out i⟩ := by
        rcases p2 with e | e
        · exact e
        · omega
      refine ⟨jb, by rw [phiOld _ hno]; exact g2, by omega, fun e => ⟨by omega, ?_, ?_, ?_⟩⟩ <;> rw [hje]
  have told : ∀ (k : Nat) (x : At), μ k = some x → x ≠ .unk → (∀ y, (k, y) ∉ cs) → ∀ (i : Nat) (c : BC) (u : Nat), out[i]? = some (some c) → backB ρ foot id i ≠ (k / 65536, u) := by
    intro k x hx hne hno i c u hc hb
    rcases hM.cell k x hx with e | ⟨j, h1, h2, h3, _⟩
    · exact hne e
    · obtain ⟨b', u', e1, hk, e2⟩ := anew i c hc
      rw [hb] at e1; simp only [Prod.mk.injEq] at e1; obtain ⟨rfl, rfl⟩ := e1
      rcases e2 with ⟨_, hf, hd, jj, g1, g2, g3, g4, g5⟩ | ⟨_, _, _, e5⟩
      · rw [h1] at g2; simp only [Option.some.injEq] at g2; subst g2
        obtain ⟨hd', c', q1, q2, q3⟩ := footρ i _ hf
        rw [g1] at q1; simp only [Option.some.injEq] at q1; subst q1
        have hgr := (hM.apart k x hd hx hne g1).1
        obtain ⟨j', r1, r2, r3, r4, _⟩ := hM.hdr _ hd g1
        rw [h1] at r1; simp only [Option.some.injEq] at r1; subst r1
        have hjz := (r4 hgr).2.1
        have hle1 := hzz i c' c q2 hc
        rw [q3] at hle1
        have hlt : k % 65536 < c.cs.length := by simp only at hle1; omega
        have hsk : skipOf ρ foot (0 + i) (0 + k % 65536) = false := by
          unfold skipOf
          rw [Nat.zero_add, Nat.zero_add, hf]
          simp only [g1]
          unfold inReg
          cases hR : hd.R with
          | none => rfl
          | some R =>
            simp only
            cases hN : R.fx with
            | none => rfl
            | some N =>
              simp only
              have ap := (hM.apart k x hd hx hne g1).2 R hR
              obtain ⟨_, s1, _, _, _, s5⟩ := hM.hdr _ hd g1
              obtain ⟨t1, t2, _⟩ := s5 R hR
              rw [t1, t2 N hN] at ap
              cases hq : Nat.ble R.st (k % 65536) && Nat.blt (k % 65536) (R.st + N * R.sh.length) with
              | false => rfl
              | true =>
                simp only [Bool.and_eq_true] at hq
                have q5 := Nat.le_of_ble_eq_true hq.1
                have q6 : k % 65536 < R.st + N * R.sh.length := Nat.le_of_ble_eq_true hq.2
                omega
        refine hno _ ((m1 _ _).2 ⟨i, c, k / 65536, u, hc, by rw [Nat.zero_add]; exact hb, mem_backCells.2 ⟨k % 65536, c.cs[k % 65536], by simp [hlt], by omega, hsk, rfl⟩⟩)
      · rw [h1] at e5; cases e5
  have newcell : ∀ key x, (key, x) ∈ cs → ∃ (i : Nat) (c : BC) (u : Nat), out[i]? = some (some c) ∧ backB ρ foot id i = (key / 65536, u) ∧ (x = .unk ∨ ∃ z, u = 0 ∧ x = backA ρ foot id z ∧ memAft bs out (i * 65536 + key % 65536) = some z ∧ aft bs out i = some c) := by
    intro key x hx
    obtain ⟨i, c, b, u, h1, h2, h3⟩ := (m1 key x).1 hx
    rw [Nat.zero_add] at h2
    obtain ⟨j, y, k1, k2, _, k3⟩ := mem_backCells.1 h3
    obtain ⟨z1, z2, _⟩ := hcbg i c h1
    have hj : j < 65536 := by have := (List.getElem?_eq_some_iff.1 k1).1; omega
    rw [Nat.zero_add] at k2
    subst k2
    rw [key_div _ _ hj, key_mod _ _ hj]
    refine ⟨i, c, u, h1, h2, ?_⟩
    cases y with
    | none => left; rw [k3]
    | some z =>
      cases hu : Nat.beq u 0 with
      | false => left; rw [k3, hu]
      | true =>
        right
        have ha : aft bs out i = some c := by simp [aft, h1]
        exact ⟨z, Nat.eq_of_beq_eq_true hu, by rw [k3, hu], by simp [memAft, key_div _ _ hj, key_mod _ _ hj, ha, cellOf, k1], ha⟩
  have newhd : ∀ k h, (k, h) ∈ hs → ∃ (i : Nat) (c : BC) (u : Nat), out[i]? = some (some c) ∧ backB ρ foot id i = (k, u) ∧ h = ⟨u + c.h.v, c.h.z, c.h.ro, c.h.R⟩ := by
    intro k h hh
    obtain ⟨i, c, u, h1, h2, h3⟩ := (m2 k h).1 hh
    rw [Nat.zero_add] at h2
    exact ⟨i, c, u, h1, h2, h3⟩
  have oldhd : ∀ k, (∀ y, (k, y) ∉ hs) → ∀ (i : Nat) (c : BC) (u : Nat), out[i]? = some (some c) → backB ρ foot id i ≠ (k, u) := by
    intro k hno i c u hc hb
    exact hno _ ((m2 k _).2 ⟨i, c, u, hc, by rw [Nat.zero_add]; exact hb, rfl⟩)
  -- where a block's place is: at the callee, or as it was
  have place : ∀ b j, phiB φ ψ ρ foot out id b = some j → (∃ (i : Nat) (c : BC) (u : Nat) (j1 : Inf), out[i]? = some (some c) ∧ backB ρ foot id i = (b, u) ∧ ψ i = some j1 ∧ j1.ro = false ∧ j = ⟨j1.ty, j1.a, j1.z, j1.n, u + j1.v, j1.ro⟩) ∨
      ((∀ (i : Nat) (c : BC) (u : Nat), out[i]? = some (some c) → backB ρ foot id i ≠ (b, u)) ∧ φ b = some j) := by
    intro b j hj
    rcases kinds b with ⟨i, c, u, hc, hb⟩ | hno
    · obtain ⟨j1, q1, q2⟩ := phiNew i c b u hc hb
      rw [hj] at q2; simp only [Option.some.injEq] at q2
      obtain ⟨j2, p1, p2⟩ := ψsome i c hc
      rw [q1] at p1; simp only [Option.some.injEq] at p1; subst p1
      exact .inl ⟨i, c, u, j1, hc, hb, q1, by rw [p2.2.1]; exact (hcbg i c hc).2.2, q2⟩
    · rw [phiOld b hno] at hj; exact .inr ⟨hno, hj⟩
  refine ⟨hle', moves, ?_⟩
  constructor
  · intro k x hx
    rcases updL_spec hx with h | ⟨h1, h2⟩
    · obtain ⟨i, c, u, hc, hb, he⟩ := newcell k x h
      rcases he with e | ⟨z, hu, e, hz, ha⟩
      · exact .inl e
      · rcases hM'.cell _ z hz with e' | ⟨j, g1, g2, g3, r, o', arr, ty, fz, v, g4, g5, g6, g7⟩
        · left; rw [e, e']; rfl
        · right
          have hk : k % 65536 < 65536 := Nat.mod_lt _ (by decide)
          rw [key_div _ _ hk] at g1
          rw [key_mod _ _ hk] at g3 g6
          obtain ⟨j1, q1, q2⟩ := phiNew i c _ u hc hb
          rw [g1] at q1; simp only [Option.some.injEq] at q1; subst q1
          subst hu e
          exact ⟨_, q2, by show 0 + j.v = 0; omega, g3, r, o', arr, ty, fz, v, g4, g5, g6, backA_rel moves g7⟩
    · by_cases hne : x = .unk
      · exact .inl hne
      · have hno := told k x h1 hne h2
        rcases hM.cell k x h1 with e | ⟨j, g1, g2⟩
        · exact .inl e
        · right
          exact ⟨j, by rw [phiOld _ hno]; exact g1, g2.other hle' fun r o' ha => (keepHeap _ j r o' hno g1 ha).1⟩
  · intro k h hh
    rcases updL_spec hh with h1 | ⟨h1, h2⟩
    · obtain ⟨i, c, u, hc, hb, rfl⟩ := newhd k h h1
      obtain ⟨j, q1, q2⟩ := phiNew i c k u hc hb
      obtain ⟨j2, p1, p2, p3, p4, p5⟩ := ψsome i c hc
      rw [q1] at p1; simp only [Option.some.injEq] at p1; subst p1
      refine ⟨_, q2, by show u + j.v = u + c.h.v; rw [p2], p3, fun hg => ?_, fun R hR => p5 R hR⟩
      have hg : c.h.grows = false := hg
      obtain ⟨e1, e2, e3⟩ := p4 hg
      rcases vOK_get hvo i c k u hc (by rw [Nat.zero_add]; exact hb) with e | e
      · exact ⟨by show u + j.v = 0; omega, e2, e3⟩
      · rw [hg] at e; cases e
    · have hno := oldhd k h2
      obtain ⟨j, g1, g2⟩ := hM.hdr k h h1
      exact ⟨j, by rw [phiOld _ hno]; exact g1, g2.other fun r o' ha => (keepHeap _ j r o' hno g1 ha).1⟩
  · intro k x h hx hne hh
    rcases updL_spec hx with hx1 | ⟨hx1, hx2⟩ <;> rcases updL_spec hh with hh1 | ⟨hh1, hh2⟩
    · obtain ⟨i, c, u, hc, hb, he⟩ := newcell k x hx1
      obtain ⟨i', c', u', hc', hb', rfl⟩ := newhd _ h hh1
      obtain ⟨e1, e2⟩ := uniq i i' c c' _ u u' hc hc' hb hb'
      subst e1 e2
      rw [hc] at hc'; simp only [Option.some.injEq] at hc'; subst hc'
      rcases he with e | ⟨z, hu, e, hz, ha⟩
      · exact absurd e hne
      · have hk : k % 65536 < 65536 := Nat.mod_lt _ (by decide)
        have hz0 : z ≠ .unk := fun e' => hne (by rw [e, e']; rfl)
        have := hM'.apart _ z c.h hz hz0 (by rw [key_div _ _ hk]; simp [hdsAft, ha])
        rw [key_mod _ _ hk] at this
        exact this
    · obtain ⟨i, c, u, hc, hb, he⟩ := newcell k x hx1
      exact absurd hb (oldhd _ hh2 i c u hc)
    · obtain ⟨i', c', u', hc', hb', rfl⟩ := newhd _ h hh1
      exact absurd hb' (told k x hx1 hne hx2 i' c' u' hc')
    · exact hM.apart k x h hx1 hne hh1
  · intro b b' j j' r o' o'' hb hb' ha ha'
    rcases place b j hb with ⟨i, c, u, j1, p1, p2, p3, p4, rfl⟩ | ⟨p1, p2⟩ <;> rcases place b' j' hb' with ⟨i', c', u', j2, q1, q2, q3, q4, rfl⟩ | ⟨q1, q2⟩
    · rcases hM'.inj i i' j1 j2 r o' o'' p3 q3 ha ha' with e | ⟨e, _⟩
      · subst e
        rw [p2] at q2; simp only [Prod.mk.injEq] at q2; exact .inl q2.1
      · rw [p4] at e; cases e
    · exfalso
      rcases (hM'.own i j1 r o' p3 ha p4).1 with hm | hm
      · exact (keepHeap b' j' r o'' q1 q2 ha').2 hm
      · have := hM.big b' j' r o'' q2 ha'; omega
    · exfalso
      rcases (hM'.own i' j2 r o'' q3 ha' q4).1 with hm | hm
      · exact (keepHeap b j r o' p1 p2 ha).2 hm
      · have := hM.big b j r o' p2 ha; omega
    · exact hM.inj b b' j j' r o' o'' p2 q2 ha ha'
  · intro b j r o' hb ha hro
    rcases place b j hb with ⟨i, c, u, j1, p1, p2, p3, p4, rfl⟩ | ⟨p1, p2⟩
    · obtain ⟨g1, g2, arr, g3, g4⟩ := hM'.own i j1 r o' p3 ha p4
      refine ⟨?_, g2, arr, g3, g4⟩
      rcases g1 with ⟨i2, b2, j2, o2, f1, f2, f3, f4, f5⟩ | g1
      · exact (hM.own b2 j2 r o2 f2 f3 f4).1
      · right; have := hM.size; omega
    · obtain ⟨g1, g2, arr, g3, g4⟩ := hM.own b j r o' p2 ha hro
      exact ⟨g1, g2, arr, by rw [(keepHeap b j r o' p1 p2 ha).1]; exact g3, g4⟩
  · intro b j r o' hb ha hro
    rcases place b j hb with ⟨i, c, u, j1, p1, p2, p3, p4, rfl⟩ | ⟨p1, p2⟩
    · rw [p4] at hro; cases hro
    · exact hM.keep b j r o' p2 ha hro
  · intro b hb
    have hn := hM.dom b hb.1
    have hno : ∀ (i : Nat) (c : BC) (u : Nat), out[i]? = some (some c) → backB ρ foot id i ≠ (b, u) := by
      intro i c u hc he
      obtain ⟨b', u', e1, hk, e2⟩ := anew i c hc
      rw [he] at e1; simp only [Prod.mk.injEq] at e1; obtain ⟨rfl, rfl⟩ := e1
      have hil : i < out.length := (List.getElem?_eq_some_iff.1 hc).1
      rcases e2 with ⟨_, _, _, _, _, g2, _⟩ | ⟨e3, e4, _⟩
      · rw [hn] at g2; cases g2
      · exact hb.2 (i - foot.length) (by omega) e4
    rw [phiOld b hno]; exact hn
  · intro b j r o' hb ha
    rcases place b j hb with ⟨i, c, u, j1, p1, p2, p3, p4, rfl⟩ | ⟨p1, p2⟩
    · exact hM'.big i j1 r o' p3 ha
    · have := hM.big b j r o' p2 ha
      have := hM'.size; omega
  · exact hM'.os.trans hM.os
  · exact hM'.tape.trans hM.tape
  · exact hM'.output.trans hM.output
  · exact Nat.le_trans hM.size hM'.size
  · intro k hk hm
    have hnm : ¬ mayC φ foot out k := by
      rintro ⟨i2, b2, j2, o2, f1, f2, f3, f4, f5⟩
      rcases (hM.own b2 j2 k o2 f2 f3 f4).1 with e | e
      · exact hm e
      · omega
    rw [hM'.block k (by have := hM.size; omega) hnm]; exact hM.block k hk hm
  · intro p; rw [hM'.frz p]; exact hM.frz p

end
end Go.Proofs.Ytcdejlgophpdjaa.V
end

