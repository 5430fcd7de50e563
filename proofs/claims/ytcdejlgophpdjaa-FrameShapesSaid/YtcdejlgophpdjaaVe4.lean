/-
  That each operation does on the real memory what the function says (fifth part: new blocks, append, make).
-/
import Derived.Test.YtcdejlgophpdjaaVe3
import Derived.Laws.AppendOwn
import Derived.Laws.MakeOwn
namespace Go.Proofs.Ytcdejlgophpdjaa.V
open Go Go.RowKit

def setP (φ : Phi) (b : Nat) (j : Inf) : Phi := fun n => if n = b then some j else φ n
theorem setP_same (φ : Phi) (b : Nat) (j : Inf) : setP φ b j b = some j := if_pos rfl

section
variable {P : Program} {w0 : World} {may : Nat → Prop} {φ : Phi} {σ : Sig} {μ : Mem} {ρ : Hds} {fr : Nat → Prop} {w : World} {a : Act} {o : Oper}

theorem cell_none (hM : MR w0 may φ μ ρ fr w) {k : Nat} {x : At} (h : μ k = some x) (hn : φ (k / 65536) = none) : x = .unk := by
  rcases hM.cell k x h with e | ⟨i, hi, _⟩
  · exact e
  · rw [hn] at hi; cases hi

/-- A new block of cells. -/
theorem MR.newCells (hM : MR w0 may φ μ ρ fr w) {id : Nat} (hid : fr id) {l : List At} {arr : Array Value} (ty : TypeId) (hl : All2 (At.rel φ) l arr.toList) (h1 : l.length ≤ 65536) :
    φ.le (setP φ id ⟨ty, some (w.heap.size, 0), arr.size, arr.size, 0, false⟩) ∧
    MR w0 may (setP φ id ⟨ty, some (w.heap.size, 0), arr.size, arr.size, 0, false⟩) (updL μ (enum id 0 l)) (updL ρ [(id, ⟨0, l.length, false, none⟩)]) (fun b => fr b ∧ b ≠ id) (w.alloc (.cells arr ty)) := by
  have hn := hM.dom id hid
  have hle : φ.le (setP φ id ⟨ty, some (w.heap.size, 0), arr.size, arr.size, 0, false⟩) := phi_upd_le (.inl hn)
  have hlen : l.length = arr.size := by have := hl.length; simpa using this
  have hnew : (w.alloc (.cells arr ty)).heap[w.heap.size]? = some (.cells arr ty (0, 0)) := by show (w.heap.push _)[w.heap.size]? = _; simp
  refine ⟨hle, ?_⟩
  refine hM.step (b := id) (j := ⟨ty, some (w.heap.size, 0), arr.size, arr.size, 0, false⟩) (r := w.heap.size) (arr := arr) (.inl hn) rfl rfl rfl (.inr (Nat.le_refl _)) hnew
    (fun k hk _ => Below.heap_alloc _ _ _ hk) rfl rfl rfl (by show _ ≤ (w.heap.push _).size; simp) (frozen_alloc w arr ty) ?_ ?_ ?_
  · intro k x hx
    rcases updL_spec hx with h2 | ⟨h2, _⟩
    · obtain ⟨j, j1, j2⟩ := mem_enum.1 h2
      have hjl : j < l.length := (List.getElem?_eq_some_iff.1 j1).1
      obtain ⟨v, v1, v2⟩ := hl.get j1
      right; right
      rw [Nat.zero_add] at j2
      subst j2
      rw [key_div _ _ (by omega), key_mod _ _ (by omega)]
      exact ⟨rfl, rfl, by show j < arr.size; omega, w.heap.size, 0, arr, ty, (0, 0), v, rfl, hnew, by simpa using v1, At.rel_mono hle v2⟩
    · by_cases hk : k / 65536 = id
      · right; left; exact cell_none hM h2 (by rw [hk]; exact hn)
      · exact .inl ⟨hk, h2⟩
  · intro c g hg
    rcases updL_spec hg with h2 | ⟨h2, h3⟩
    · simp only [List.mem_singleton, Prod.mk.injEq] at h2
      obtain ⟨rfl, rfl⟩ := h2
      exact .inr ⟨rfl, rfl, rfl, fun _ => ⟨rfl, hlen.symm, fun _ => rfl⟩, fun R hR => by cases hR⟩
    · refine .inl ⟨fun e => ?_, h2⟩
      subst e; exact h3 _ (List.mem_singleton.2 rfl)
  · intro k x g hx hne hk hg
    rcases updL_spec hg with h2 | ⟨h2, h3⟩
    · simp only [List.mem_singleton, Prod.mk.injEq] at h2
      obtain ⟨_, rfl⟩ := h2
      exact ⟨rfl, fun R hR => by cases hR⟩
    · exact absurd (by simp) (h3 ⟨0, l.length, false, none⟩)

/-- A block of rows, new or in the place of an older one. -/
theorem MR.newRows (hM : MR w0 may φ μ ρ fr w) {b : Nat} {v n : Nat} (hb : φ b = none ∨ ∃ i, φ b = some i ∧ i.v < v ∧ i.ro = false) {R : Rw} {arr : Array Value} {ty : TypeId} {r : Nat} {w' : World}
    (hr : (∃ i, φ b = some i ∧ i.a = some (r, 0)) ∨ w.heap.size ≤ r) (hheap : w'.heap[r]? = some (.cells arr ty (0, 0)))
    (hoth : ∀ k, k < w.heap.size → k ≠ r → w'.heap[k]? = w.heap[k]?) (os : w'.os = w.os) (tape : w'.tape = w.tape) (output : w'.output = w.output) (size : w.heap.size ≤ w'.heap.size) (frz : ∀ a, w'.frozen? a = w.frozen? a)
    (hR : RowsIn arr 0 R) (hfx : R.fx = none) (hn : R.l.length = n) (hno : ∀ k x, μ k = some x → k / 65536 = b → x = .unk) :
    φ.le (setP φ b ⟨ty, some (r, 0), arr.size, n, v, false⟩) ∧
    MR w0 may (setP φ b ⟨ty, some (r, 0), arr.size, n, v, false⟩) μ (updL ρ [(b, ⟨v, 0, false, some R⟩)]) (fun c => fr c ∧ c ≠ b) w' := by
  have hle : φ.le (setP φ b ⟨ty, some (r, 0), arr.size, n, v, false⟩) := phi_upd_le (hb.imp id fun ⟨i, h1, h2, _⟩ => ⟨i, h1, .inr h2⟩)
  refine ⟨hle, ?_⟩
  refine hM.step (b := b) (j := ⟨ty, some (r, 0), arr.size, n, v, false⟩) (r := r) (arr := arr) (hb.imp id fun ⟨i, h1, h2, h3⟩ => ⟨i, h1, .inr h2, h3⟩) rfl rfl rfl hr hheap hoth os tape output size frz ?_ ?_ ?_
  · intro k x hx
    by_cases hk : k / 65536 = b
    · right; left; exact hno k x hx hk
    · exact .inl ⟨hk, hx⟩
  · intro c g hg
    rcases updL_spec hg with h2 | ⟨h2, h3⟩
    · simp only [List.mem_singleton, Prod.mk.injEq] at h2
      obtain ⟨rfl, rfl⟩ := h2
      refine .inr ⟨rfl, rfl, rfl, (fun hg => by simp [Hd.grows, hfx] at hg), fun R' hR' => ?_⟩
      simp only [Option.some.injEq] at hR'; subst hR'
      refine ⟨hn, (fun N hN => by rw [hfx] at hN; cases hN), .inr ⟨r, 0, arr, ty, (0, 0), rfl, hheap, hR, ?_⟩⟩
      have := hR.2; simpa using this
    · refine .inl ⟨fun e => ?_, h2⟩
      subst e; exact h3 _ (List.mem_singleton.2 rfl)
  · intro k x g hx hne hk hg
    exact absurd (hno k x hx hk) hne

/-- Cells of no rows: a slice that is nil. -/
theorem MR.nilRows (hM : MR w0 may φ μ ρ fr w) {id : Nat} (hid : fr id) {R : Rw} (hl : R.l = []) (hfx : R.fx = none) (ty : TypeId) :
    φ.le (setP φ id ⟨ty, none, 0, 0, 0, false⟩) ∧ MR w0 may (setP φ id ⟨ty, none, 0, 0, 0, false⟩) μ (updL ρ [(id, ⟨0, 0, false, some R⟩)]) (fun c => fr c ∧ c ≠ id) w := by
  have hn := hM.dom id hid
  have hle : φ.le (setP φ id ⟨ty, none, 0, 0, 0, false⟩) := phi_upd_le (.inl hn)
  have get : ∀ c i, setP φ id ⟨ty, none, 0, 0, 0, false⟩ c = some i → (c = id ∧ i.a = none) ∨ (c ≠ id ∧ φ c = some i) := by
    intro c i h
    unfold setP at h
    split at h
    · rename_i e; simp only [Option.some.injEq] at h; subst h; exact .inl ⟨e, rfl⟩
    · rename_i e; exact .inr ⟨e, h⟩
  refine ⟨hle, ?_⟩
  constructor
  · intro k x hx
    rcases hM.cell k x hx with e | ⟨i, h1, h2⟩
    · exact .inl e
    · right
      have hk : k / 65536 ≠ id := fun e => by rw [e, hn] at h1; cases h1
      exact ⟨i, by simp [setP, hk, h1], h2.other hle fun _ _ _ => rfl⟩
  · intro c g hg
    rcases updL_spec hg with h2 | ⟨h2, h3⟩
    · simp only [List.mem_singleton, Prod.mk.injEq] at h2
      obtain ⟨rfl, rfl⟩ := h2
      refine ⟨_, by simp [setP]; rfl, rfl, rfl, (fun hg => by simp [Hd.grows, hfx] at hg), fun R' hR' => ?_⟩
      simp only [Option.some.injEq] at hR'; subst hR'
      exact ⟨by simp [hl], (fun N hN => by rw [hfx] at hN; cases hN), .inl ⟨rfl, hl, hfx⟩⟩
    · have hc : c ≠ id := fun e => by subst e; exact h3 _ (List.mem_singleton.2 rfl)
      obtain ⟨i, h4, h5⟩ := hM.hdr c g h2
      exact ⟨i, by simp [setP, hc, h4], h5⟩
  · intro k x g hx hne hg
    rcases updL_spec hg with h2 | ⟨h2, h3⟩
    · simp only [List.mem_singleton, Prod.mk.injEq] at h2
      exact absurd (cell_none hM hx (by rw [h2.1]; exact hn)) hne
    · exact hM.apart k x g hx hne h2
  · intro c c' i i' r o o' hc hc' hi hi'
    rcases get c i hc with ⟨_, e⟩ | ⟨_, e⟩
    · rw [e] at hi; cases hi
    · rcases get c' i' hc' with ⟨_, e'⟩ | ⟨_, e'⟩
      · rw [e'] at hi'; cases hi'
      · exact hM.inj c c' i i' r o o' e e' hi hi'
  · intro c i r o hc hi hro
    rcases get c i hc with ⟨_, e⟩ | ⟨_, e⟩
    · rw [e] at hi; cases hi
    · exact hM.own c i r o e hi hro
  · intro c i r o hc hi hro
    rcases get c i hc with ⟨_, e⟩ | ⟨_, e⟩
    · rw [e] at hi; cases hi
    · exact hM.keep c i r o e hi hro
  · intro c hc
    simp only [setP, hc.2, if_false]; exact hM.dom c hc.1
  · intro c i r o hc hi
    rcases get c i hc with ⟨_, e⟩ | ⟨_, e⟩
    · rw [e] at hi; cases hi
    · exact hM.big c i r o e hi
  · exact hM.os
  · exact hM.tape
  · exact hM.output
  · exact hM.size
  · exact hM.block
  · exact hM.frz

/-! append -/
theorem kdsEq_spec : ∀ {k k' : List Kd}, kdsEq k k' = true → k = k'
  | [], [], _ => rfl
  | k :: ks, k' :: ks', h => by
    unfold kdsEq at h
    split at h
    · rename_i hk; rw [kdEq_spec hk, kdsEq_spec h]
    · cases h
  | [], _ :: _, h => by simp [kdsEq] at h
  | _ :: _, [], h => by simp [kdsEq] at h

/-- Values that are rows' numbers, one behind the other. -/
def RowVals (sh : List Kd) (l : List (List Int)) (vs : List Value) : Prop :=
  vs.length = l.length * sh.length ∧ ∀ (p : Nat) row, l[p]? = some row → row.length = sh.length ∧ ∀ (j : Nat) m k, row[j]? = some m → sh[j]? = some k → vs[p * sh.length + j]? = some (k.val m)

theorem RowVals.nil (sh : List Kd) : RowVals sh [] [] := ⟨by simp, fun p row h => by simp at h⟩

theorem RowVals.app {sh : List Kd} {l m : List (List Int)} {us vs : List Value} (h : RowVals sh l us) (k : RowVals sh m vs) : RowVals sh (l ++ m) (us ++ vs) := by
  refine ⟨by simp [h.1, k.1, Nat.add_mul], fun p row hp => ?_⟩
  rw [List.getElem?_append] at hp
  split at hp
  · rename_i hlt
    obtain ⟨a1, a2⟩ := h.2 p row hp
    refine ⟨a1, fun j m k hj hk => ?_⟩
    have hjl : j < sh.length := (List.getElem?_eq_some_iff.1 hk).1
    rw [List.getElem?_append_left]
    · exact a2 j m k hj hk
    · rw [h.1]
      have := Nat.mul_le_mul_right sh.length (show p + 1 ≤ l.length by omega)
      rw [Nat.succ_mul] at this; omega
  · rename_i hlt
    obtain ⟨a1, a2⟩ := k.2 _ row hp
    refine ⟨a1, fun j m k' hj hk => ?_⟩
    have := a2 j m k' hj hk
    have hge : us.length ≤ p * sh.length + j := by
      rw [h.1]
      have := Nat.mul_le_mul_right sh.length (show l.length ≤ p by omega)
      omega
    rw [List.getElem?_append_right hge, ← this]
    congr 1
    rw [h.1, Nat.sub_mul]
    have := Nat.mul_le_mul_right sh.length (show l.length ≤ p by omega)
    omega

theorem RowVals.one {sh : List Kd} {l : List (List Int)} {vs : List Value} (h : RowVals sh l vs) : ∀ u ∈ vs, u.oneCell' = true := by
  intro u hu
  obtain ⟨q, hq, rfl⟩ := List.mem_iff_getElem.1 hu
  rcases Nat.eq_zero_or_pos sh.length with h0 | h0
  · rw [h.1, h0] at hq; simp at hq
  · have hp : q / sh.length < l.length := by rw [Nat.div_lt_iff_lt_mul h0]; rw [h.1] at hq; exact hq
    obtain ⟨a1, a2⟩ := h.2 (q / sh.length) l[q / sh.length] (by simp [hp])
    have hm : q % sh.length < sh.length := Nat.mod_lt _ h0
    have := a2 (q % sh.length) (l[q / sh.length][q % sh.length]'(by omega)) sh[q % sh.length] (by simp) (by simp [hm])
    rw [Nat.mul_comm, Nat.div_add_mod] at this
    rw [List.getElem?_eq_getElem hq] at this
    simp only [Option.some.injEq] at this
    rw [this]
    cases sh[q % sh.length] <;> rfl

theorem RowsIn.vals {arr : Array Value} {o : Nat} {R : Rw} (h : RowsIn arr o R) : RowVals R.sh R.l ((arr.toList.drop (o + R.st)).take (R.l.length * R.sh.length)) := by
  refine ⟨by have := h.2; simp; omega, fun p row hp => ?_⟩
  obtain ⟨a1, a2⟩ := h.1 p row hp
  refine ⟨a1, fun j m k hj hk => ?_⟩
  have hpl : p < R.l.length := (List.getElem?_eq_some_iff.1 hp).1
  have hjl : j < R.sh.length := (List.getElem?_eq_some_iff.1 hk).1
  have := Nat.mul_le_mul_right R.sh.length (show p + 1 ≤ R.l.length by omega)
  rw [Nat.succ_mul] at this
  rw [List.getElem?_take, if_pos (by omega), List.getElem?_drop, ← a2 j m k hj hk]
  simp only [Array.getElem?_toList]
  congr 1; omega

theorem RowVals.sub {sh : List Kd} {l : List (List Int)} {vs : List Value} (h : RowVals sh l vs) (off len : Nat) (hb : off + len ≤ l.length) : RowVals sh ((l.drop off).take len) ((vs.drop (off * sh.length)).take (len * sh.length)) := by
  have e1 : ((l.drop off).take len).length = len := by simp; omega
  refine ⟨?_, fun p row hp => ?_⟩
  · rw [e1]; simp [h.1]
    have := Nat.mul_le_mul_right sh.length hb
    rw [Nat.add_mul] at this; omega
  · rw [List.getElem?_take] at hp
    split at hp
    · rename_i hlt
      rw [List.getElem?_drop] at hp
      obtain ⟨a1, a2⟩ := h.2 _ row hp
      refine ⟨a1, fun j m k hj hk => ?_⟩
      have hjl : j < sh.length := (List.getElem?_eq_some_iff.1 hk).1
      have := Nat.mul_le_mul_right sh.length (show p + 1 ≤ len by omega)
      rw [Nat.succ_mul] at this
      rw [List.getElem?_take, if_pos (by omega), List.getElem?_drop, ← a2 j m k hj hk]
      congr 1; rw [Nat.add_mul]; omega
    · cases hp

/-- What is appended: where it stands in the real memory. -/
theorem src_run (hM : MR w0 may φ μ ρ fr w) {sh : List Kd} {lv : LV} {l : List (List Int)} {v : Value} (h : srcRows μ ρ sh lv = some l) (hv : lv.rel φ v) :
    (l = [] ∧ ∃ a c, v = .slice a 0 c) ∨ ∃ a c vs, v = .slice (some a) l.length c ∧ RowVals sh l vs ∧ ∀ j u, vs[j]? = some u → w.cell? (a.add j) = some u := by
  unfold srcRows at h
  split at h
  · simp only [Option.some.injEq] at h; subst h
    exact .inl ⟨rfl, none, 0, hv⟩
  · rename_i b ver e
    split at h
    case h_2 => cases h
    rename_i hd R hr
    split at h
    case h_2 => cases h
    rename_i hk
    simp only [Option.some.injEq] at h; subst h
    have hk := kdsEq_spec hk
    obtain ⟨c1, c2, c3, c4, c5⟩ := rowsAt_spec hr
    obtain ⟨_, i, hi, _, hR⟩ := hv
    obtain ⟨i', k1, k2, k3, k4, k5⟩ := hM.hdr b hd c1
    rw [hi] at k1; simp only [Option.some.injEq] at k1; subst k1
    obtain ⟨k6, k7, k8⟩ := k5 R c3
    rcases hR (by rw [k2, c2]) with ⟨e1, e2, e3⟩ | ⟨r, o', cap, e1, e2, e3, e4⟩
    · have : R.l = [] := List.eq_nil_of_length_eq_zero (by omega)
      exact .inl ⟨this, none, 0, e3⟩
    · rcases k8 with ⟨e, _⟩ | ⟨r2, o2, arr, ty, fz, q1, q2, q3, q4⟩
      · rw [e1] at e; cases e
      · rw [e1] at q1; simp only [Option.some.injEq, Prod.mk.injEq] at q1
        obtain ⟨rfl, rfl⟩ := q1
        have hvals := q3.vals
        rw [hk] at hvals
        refine .inr ⟨⟨r, o', none⟩, cap, _, by rw [k6]; exact e2, hvals, fun j u hj => ?_⟩
        rw [add_eq]
        rw [List.getElem?_take] at hj
        split at hj
        · rw [List.getElem?_drop, c4] at hj
          have q2 : w.heap[r]? = _ := q2
          simp only [World.cell?, q2]
          simpa using hj
        · cases hj
  · rename_i s b ver st e off len
    split at h
    · rename_i hd R hr
      split at h
      case h_2 => cases h
      rename_i hk
      simp only [Option.some.injEq] at h; subst h
      have hk := kdsEq_spec hk
      obtain ⟨c1, c2, c3, c4, c5⟩ := rowsAt_spec hr
      obtain ⟨_, i, hi, _, hR⟩ := hv
      obtain ⟨i', k1, k2, k3, k4, k5⟩ := hM.hdr b hd c1
      rw [hi] at k1; simp only [Option.some.injEq] at k1; subst k1
      obtain ⟨k6, k7, k8⟩ := k5 R c3
      obtain ⟨g1, a', cap, g2, g3, g4⟩ := hR (by rw [k2, c2])
      have hll : ((R.l.drop off).take len).length = len := by simp; omega
      rcases g4 with g4 | ⟨r, o', g4, g5⟩
      · subst g4; exact .inl ⟨by simp, a', cap, g2⟩
      · rcases k8 with ⟨e', _⟩ | ⟨r2, o2, arr, ty, fz, q1, q2, q3, q4⟩
        · rw [g4] at e'; cases e'
        · rw [g4] at q1; simp only [Option.some.injEq, Prod.mk.injEq] at q1
          obtain ⟨rfl, rfl⟩ := q1
          have hvals := q3.vals.sub off len (by omega)
          rw [hk] at hvals
          subst g5
          refine .inr ⟨⟨r, o' + (st + off * e), none⟩, cap, _, by rw [hll]; exact g2, hvals, fun j u hj => ?_⟩
          rw [add_eq]
          rw [List.getElem?_take] at hj
          split at hj
          · rw [List.getElem?_drop, List.getElem?_take] at hj
            split at hj
            · rw [List.getElem?_drop] at hj
              have q2 : w.heap[r]? = _ := q2
              simp only [World.cell?, q2]
              rw [c4] at hj
              rw [← c5, hk, show o' + (st + off * sh.length) + j = o' + st + (off * sh.length + j) by omega]
              simpa using hj
            · cases hj
          · cases hj
    · split at h
      case h_2 => cases h
      rename_i hd l0 hver hcur hl0
      split at h
      case h_2 => cases h
      rename_i he
      have he := Nat.eq_of_beq_eq_true he
      have hver := Nat.eq_of_beq_eq_true hver
      subst hver
      obtain ⟨c1, c2⟩ := cur_spec hcur
      obtain ⟨_, i, hi, _, hR⟩ := hv
      obtain ⟨i', k1, k2, k3, k4, k5⟩ := hM.hdr b hd c1
      rw [hi] at k1; simp only [Option.some.injEq] at k1; subst k1
      obtain ⟨g1, a', cap, g2, g3, g4⟩ := hR (by rw [k2, c2])
      rcases g4 with g4 | ⟨r, o', g4, g5⟩
      · subst g4
        have hnil : l = [] := by
          have := (encRows_spec (φ := φ) h (vs := []) (by
            have e0 : l0 = [] := by simp [rdAll] at hl0; exact hl0
            rw [e0]; exact .nil)).1
          exact List.eq_nil_of_length_eq_zero this
        exact .inl ⟨hnil, a', cap, g2⟩
      · obtain ⟨vs, v1, v2, v3⟩ := rdAll_run hM hi g4 (len * e) (st + off * e) hl0
        obtain ⟨f1, f2, f3⟩ := encRows_spec h v3
        subst g5
        refine .inr ⟨⟨r, o' + (st + off * e), none⟩, cap, vs, by rw [f1]; exact g2, ⟨by rw [v1, f1, he], f3⟩, fun j u hj => ?_⟩
        rw [add_eq]
        exact v2 j u hj
  · cases h

theorem run_append0 {t ty e : TypeId} {i : TypeInfo} (ht : P.underlying t = some (.slice e)) (hi : P.info? e = some i) (base x : Option Addr) (n cap c : Nat) (hn : n ≤ cap) (w : World) :
    (Builtin.append_ #[t, t] ty #[.slice base n cap, .slice x 0 c]).run P w = .ok (.slice base n cap) w := by
  have hf : (Builtin.firstCells i.size 0 (.slice x 0 c)).run P w = .ok #[] w := by
    cases x <;> simp [Builtin.firstCells, loadCells, loadCellsFrom]
  cases base <;> simp [Builtin.append_, run_underlying ht, sizeOf, typeInfo, hi, Builtin.lenOf, hn, hf, storeCells]

theorem run_append_room' {w : World} (t ty e e' : TypeId) (i : TypeInfo) (ht : P.underlying t = some (.slice e)) (hi : P.info? e = some i)
    (g sLen sCap : Nat) (cur : Array Value) (hg : w.heap[g]? = some (.cells cur e' (0, 0)))
    (a : Addr) (m c : Nat) (news : List Value) (hl : news.length = m * i.size) (hnews : ∀ j u, news[j]? = some u → w.cell? (a.add j) = some u) (h1 : ∀ u ∈ news, u.oneCell' = true)
    (hroom : sLen + m ≤ sCap) (hfit : sLen * i.size + news.length ≤ cur.size) :
    (Builtin.append_ #[t, t] ty #[.slice (some ⟨g, 0, none⟩) sLen sCap, .slice (some a) m c]).run P w =
      .ok (.slice (some ⟨g, 0, none⟩) (sLen + m) sCap) (w.setRow g (cur.toList.take (sLen * i.size) ++ news ++ cur.toList.drop (sLen * i.size + news.length)).toArray) := by
  have hf := run_firstCells_some (P := P) w i.size m a m c news hl hnews
  have hst := run_storeCells_at P g (sLen * i.size) e' news 0 cur w hg (by simpa using hfit) h1
  simp only [Nat.add_zero] at hst
  simp [Builtin.append_, run_underlying ht, sizeOf, typeInfo, hi, Builtin.lenOf, hroom, hf, Addr.add_lit, hst]

theorem rows_of_vals {arr : Array Value} {sh : List Kd} {l : List (List Int)} {vs : List Value} (h : RowVals sh l vs) (he : ∀ k, k < vs.length → arr[k]? = vs[k]?) (hs : vs.length ≤ arr.size) : RowsIn arr 0 ⟨0, sh, l, none⟩ := by
  refine ⟨fun p row hp => ?_, by simp only [Nat.zero_add, Nat.add_zero]; rw [← h.1]; exact hs⟩
  obtain ⟨a1, a2⟩ := h.2 p row hp
  refine ⟨a1, fun j n k hj hk => ?_⟩
  have := a2 j n k hj hk
  simp only [Nat.zero_add]
  rw [he _ (List.getElem?_eq_some_iff.1 this).1]; exact this

/-- What is appended: so many elements, of these cells; what 'append' then does. -/
structure Srcs (P : Program) (t tx ty e : TypeId) (i : TypeInfo) (z : Value) (w : World) (x : Value) (n : Nat) (vs : List Value) : Prop where
  zero : n = 0 → ∀ (base : Option Addr) (m cap : Nat), m ≤ cap → (Builtin.append_ #[t, tx] ty #[.slice base m cap, x]).run P w = .ok (.slice base m cap) w
  nil_ : 0 < n → (n : Int) ≤ 9223372036854775807 → n * i.bytes ≤ 140737488355328 → (Builtin.append_ #[t, tx] ty #[.slice none 0 0, x]).run P w =
      .ok (.slice (some ⟨w.heap.size, 0, none⟩) n (grownCap w n 0 e)) (w.drew.alloc (.cells (vs.toArray ++ Builtin.zeroCells z.cells (grownCap w n 0 e - n)) e))
  room : 0 < n → ∀ (g sLen sCap : Nat) (cur : Array Value) (e' : TypeId), w.heap[g]? = some (.cells cur e' (0, 0)) → (∀ u ∈ vs, u.oneCell' = true) → n * i.bytes ≤ 140737488355328 → sLen + n ≤ sCap → sLen * i.size + vs.length ≤ cur.size →
    (Builtin.append_ #[t, tx] ty #[.slice (some ⟨g, 0, none⟩) sLen sCap, x]).run P w =
      .ok (.slice (some ⟨g, 0, none⟩) (sLen + n) sCap) (w.setRow g (cur.toList.take (sLen * i.size) ++ vs ++ cur.toList.drop (sLen * i.size + vs.length)).toArray)
  grow : 0 < n → ∀ (b : Addr) (sLen sCap : Nat) (olds : List Value), olds.length = sLen * i.size → (∀ j v, olds[j]? = some v → w.cell? (b.add j) = some v) →
    sCap < sLen + n → ((sLen + n : Nat) : Int) ≤ 9223372036854775807 → n * i.bytes ≤ 140737488355328 → Builtin.nextslicecap (sLen + n) sCap * i.bytes ≤ 281474976710656 →
    (Builtin.append_ #[t, tx] ty #[.slice (some b) sLen sCap, x]).run P w =
      .ok (.slice (some ⟨w.heap.size, 0, none⟩) (sLen + n) (grownCap w (sLen + n) sCap e))
        (w.drew.alloc (.cells (olds.toArray ++ vs.toArray ++ Builtin.zeroCells z.cells (grownCap w (sLen + n) sCap e - (sLen + n))) e))

theorem Srcs.of_slice {t ty e : TypeId} {i : TypeInfo} {z : Value} (ht : P.underlying t = some (.slice e)) (hi : P.info? e = some i) (hz : i.zero = some z) (a : Addr) (n c : Nat) (vs : List Value) (hl : vs.length = n * i.size)
    (hv : ∀ j u, vs[j]? = some u → w.cell? (a.add j) = some u) : Srcs P t t ty e i z w (.slice (some a) n c) n vs where
  zero h base m cap hm := by subst h; exact run_append0 ht hi base (some a) m cap c hm w
  nil_ h0 h63 h48 := run_append_nil (P := P) w t ty e i z ht hi hz a n c vs hl hv h0 h63 (by omega)
  room _ g sLen sCap cur e' hg h1 _ hr hf := run_append_room' (P := P) t ty e e' i ht hi g sLen sCap cur hg a n c vs hl hv h1 hr hf
  grow _ b sLen sCap olds ho hos hg h63 _ hn := run_append_grow (P := P) w t ty e i z ht hi hz b sLen sCap olds ho hos a n c vs hl hv hg h63 hn

theorem Srcs.of_none {t ty e : TypeId} {i : TypeInfo} {z : Value} (ht : P.underlying t = some (.slice e)) (hi : P.info? e = some i) (a : Option Addr) (c : Nat) : Srcs P t t ty e i z w (.slice a 0 c) 0 [] where
  zero _ base m cap hm := run_append0 ht hi base a m cap c hm w
  nil_ h0 := absurd h0 (by omega)
  room h0 := absurd h0 (by omega)
  grow h0 := absurd h0 (by omega)

/-- So many zeros. -/
theorem Srcs.of_zeros {t tx ty e : TypeId} {i : TypeInfo} {z : Value} {k kk : IntKind} (ht : P.underlying t = some (.slice e)) (htx : P.underlying tx = some (.int kk)) (hi : P.info? e = some i) (hz : i.zero = some z) (hzs : z.cells.size = i.size) (hp : 1 ≤ i.size) (_hb : 1 ≤ i.bytes) (m : Int) (h0 : 0 ≤ m) (hm : m ≤ 140737488355328) :
    Srcs P t tx ty e i z w (.int k m) m.toNat (Builtin.zeroCells z.cells m.toNat).toList := by
  have w1 : IntKind.i64.wrap m = m := by have := IntKind.wrap_i64 m; omega
  have lt : ¬ m < 0 := by omega
  have big : m.toNat * i.bytes ≤ 140737488355328 → ¬ (281474976710656 < m * (i.bytes : Int)) := fun h48 => by
    have h1 : ((m.toNat * i.bytes : Nat) : Int) ≤ ((140737488355328 : Nat) : Int) := Int.ofNat_le.mpr h48
    rw [Int.natCast_mul, Int.toNat_of_nonneg h0] at h1; omega
  obtain ⟨m', rfl⟩ : ∃ m' : Nat, m = (m' : Int) := ⟨m.toNat, by omega⟩
  simp only [Int.toNat_natCast] at big ⊢
  have hzl : (Builtin.zeroCells z.cells m').toList.length = m' * i.size := by rw [Array.length_toList, size_zeroCells, hzs]
  refine ⟨fun h base n cap hnc => ?_, fun hn h63 h48 => ?_, fun hn g sLen sCap cur e' hg h1 h48 hr hf => ?_, fun hn b sLen sCap olds ho hos hg h63 h48 hfit => ?_⟩
  · subst h
    have w0 : IntKind.i64.wrap 0 = 0 := by decide
    cases base <;> simp [w0, Builtin.append_, run_underlying ht, run_underlying htx, sizeOf, typeInfo, hi, asInt, asIntOf, hnc, storeCells]
  · have n0 : m' ≠ 0 := by omega
    have h63' : ¬ (9223372036854775807 < (m' : Int)) := by omega
    have h48' : ¬ (281474976710656 < Builtin.nextslicecap m' 0 * i.bytes) := by rw [nextslicecap_zero hn]; omega
    have s0 : m' * i.size ≠ 0 := Nat.mul_ne_zero n0 (by omega)
    have hbig := big h48
    simp [Builtin.append_, run_underlying ht, run_underlying htx, sizeOf, typeInfo, zeroValue, hi, hz, asInt, asIntOf, w1, lt, hbig, n0, s0, h63', h48', Question.forced, run_firstCells_none, newRow, grownCap]
  · have n0 : m' ≠ 0 := by omega
    have s0 : m' * i.size ≠ 0 := Nat.mul_ne_zero n0 (by omega)
    have hbig := big h48
    have hst := run_storeCells_at P g (sLen * i.size) e' (Builtin.zeroCells z.cells m').toList 0 cur w hg (by simpa using hf) h1
    simp only [Nat.add_zero] at hst
    simp [Builtin.append_, run_underlying ht, run_underlying htx, sizeOf, typeInfo, zeroValue, hi, hz, asInt, asIntOf, w1, lt, hbig, s0, hr, Addr.add_lit, hst]
  · have hn' : ¬ (sLen + m' ≤ sCap) := by omega
    have n0 : m' ≠ 0 := by omega
    have s0 : m' * i.size ≠ 0 := Nat.mul_ne_zero n0 (by omega)
    have hbig := big h48
    have h63' : ¬ (9223372036854775807 < ((sLen : Int) + (m' : Int))) := by omega
    have h48' : ¬ (281474976710656 < Builtin.nextslicecap (sLen + m') sCap * i.bytes) := by omega
    have hfo := run_firstCells_some (P := P) w.drew i.size sLen b sLen sCap olds ho (by simpa using hos)
    simp [Builtin.append_, run_underlying ht, run_underlying htx, sizeOf, typeInfo, zeroValue, hi, hz, asInt, asIntOf, w1, lt, hbig, s0, hn', h63', h48', Question.forced, hfo, newRow, grownCap]

theorem grow_run (hM : MR w0 may φ μ ρ fr w) {id : Nat} (hid : fr id) {bytes z : Nat} {sh : List Kd} {new : List (List Int)} {lv : LV} {obs : List Prop} {res : LV} {cs : List (Nat × At)} {hs : List (Nat × Hd)}
    (h : grow id ρ bytes z sh new lv = some (obs, res, cs, hs)) (ho : Alls obs) {t ty e : TypeId} {ie : TypeInfo} {zv : Value} (_ht : P.underlying t = some (.slice e)) (_hie : P.info? e = some ie) (_hzv : ie.zero = some zv)
    (hsize : ie.size = sh.length) (hzs : zv.cells.size = sh.length) (hz : z = sh.length) (hby : ie.bytes = bytes) (hpos : 0 < sh.length) (hb1 : 1 ≤ bytes) {v x : Value} (hv : lv.rel φ v)
    {tx : TypeId} {vs : List Value} (hvs : RowVals sh new vs) (hx : Srcs P t tx ty e ie zv w x new.length vs) :
    ∃ u w' φ', (Builtin.append_ #[t, tx] ty #[v, x]).run P w = .ok u w' ∧ φ.le φ' ∧ res.rel φ' u ∧ MR w0 may φ' (updL μ cs) (updL ρ hs) (fun b => fr b ∧ b ≠ id) w' := by
  -- the grown block, wherever it comes to stand
  have placed : ∀ {b ver : Nat} (hb : φ b = none ∨ ∃ i, φ b = some i ∧ i.v < ver ∧ i.ro = false) (olds : List Value) (l : List (List Int)) (hol : RowVals sh l olds) (vs : List Value) (hvs : RowVals sh new vs) (cap : Nat) (hcap : (l ++ new).length ≤ cap) (hmx : cap ≤ maxLen)
      (hno : ∀ k y, μ k = some y → k / 65536 = b → y = .unk),
      φ.le (setP φ b ⟨e, some (w.heap.size, 0), ((olds ++ vs).toArray ++ Builtin.zeroCells zv.cells (cap - (l ++ new).length)).size, (l ++ new).length, ver, false⟩) ∧
      LV.rel (setP φ b ⟨e, some (w.heap.size, 0), ((olds ++ vs).toArray ++ Builtin.zeroCells zv.cells (cap - (l ++ new).length)).size, (l ++ new).length, ver, false⟩) (.a (.vec b ver sh.length)) (.slice (some ⟨w.heap.size, 0, none⟩) (l ++ new).length cap) ∧
      MR w0 may (setP φ b ⟨e, some (w.heap.size, 0), ((olds ++ vs).toArray ++ Builtin.zeroCells zv.cells (cap - (l ++ new).length)).size, (l ++ new).length, ver, false⟩) μ (updL ρ [(b, ⟨ver, 0, false, some ⟨0, sh, l ++ new, none⟩⟩)]) (fun c => fr c ∧ c ≠ b)
        (w.drew.alloc (.cells ((olds ++ vs).toArray ++ Builtin.zeroCells zv.cells (cap - (l ++ new).length)) e)) := by
    intro b ver hb olds l hol vs hvs cap hcap hmx hno
    have happ := hol.app hvs
    have hsz : ((olds ++ vs).toArray ++ Builtin.zeroCells zv.cells (cap - (l ++ new).length)).size = cap * sh.length := by
      rw [Array.size_append, size_zeroCells, hzs, List.size_toArray, happ.1, ← Nat.add_mul]; congr 1; omega
    have hnew : (w.drew.alloc (.cells ((olds ++ vs).toArray ++ Builtin.zeroCells zv.cells (cap - (l ++ new).length)) e)).heap[w.heap.size]? = some (.cells ((olds ++ vs).toArray ++ Builtin.zeroCells zv.cells (cap - (l ++ new).length)) e (0, 0)) := by
      show (w.heap.push _)[w.heap.size]? = _; simp
    have := hM.newRows (b := b) (v := ver) (n := (l ++ new).length) hb (R := ⟨0, sh, l ++ new, none⟩) (arr := (olds ++ vs).toArray ++ Builtin.zeroCells zv.cells (cap - (l ++ new).length)) (ty := e) (r := w.heap.size)
      (w' := w.drew.alloc (.cells ((olds ++ vs).toArray ++ Builtin.zeroCells zv.cells (cap - (l ++ new).length)) e)) (.inr (Nat.le_refl _)) hnew (fun k hk _ => Below.heap_alloc w.drew _ _ hk) rfl rfl rfl (by show _ ≤ (w.heap.push _).size; simp) (fun p => frozen_alloc w.drew _ e p)
      (rows_of_vals happ (fun k hk => by rw [Array.getElem?_append, if_pos (by simpa using hk)]; simp) (by simp)) rfl rfl hno
    refine ⟨this.1, ⟨⟨rfl, rfl⟩, ⟨e, some (w.heap.size, 0), ((olds ++ vs).toArray ++ Builtin.zeroCells zv.cells (cap - (l ++ new).length)).size, (l ++ new).length, ver, false⟩, setP_same _ _ _, Nat.le_refl _, fun _ => .inr ⟨w.heap.size, 0, cap, rfl, rfl, hcap, hsz.symm, hmx⟩⟩, this.2⟩
  have bound : ∀ m : Nat, m * bytes ≤ 70368744177664 → m ≤ maxLen ∧ m * bytes ≤ 140737488355328 ∧ m ≤ 9223372036854775807 := by
    intro m hm
    have : m ≤ m * bytes := Nat.le_mul_of_pos_right m (by omega)
    refine ⟨by simp only [maxLen]; omega, by omega, by omega⟩
  unfold grow at h
  split at h
  · -- from nil
    simp only [Option.some.injEq, Prod.mk.injEq] at h
    obtain ⟨rfl, rfl, rfl, rfl⟩ := h
    have hv : v = .slice none 0 0 := hv
    subst hv
    have hdom := hM.dom id hid
    subst hz
    · by_cases h0 : new = []
      · subst h0
        obtain ⟨n1, n2⟩ := hM.nilRows hid (R := ⟨0, sh, [], none⟩) rfl rfl e
        exact ⟨_, w, _, hx.zero rfl none 0 0 (Nat.le_refl _), n1, ⟨⟨rfl, rfl⟩, ⟨e, none, 0, 0, 0, false⟩, setP_same _ _ _, Nat.le_refl _, fun _ => .inl ⟨rfl, rfl, rfl⟩⟩, n2⟩
      · have hpl : 0 < new.length := List.length_pos_iff.2 h0
        obtain ⟨b1, b2, b3⟩ := bound new.length ho.1
        have hr := hx.nil_ hpl (by omega) (by rw [hby]; omega)
        have := placed (b := id) (ver := 0) (.inl hdom) [] [] (RowVals.nil sh) vs hvs (grownCap w new.length 0 e) (by simpa using grownCap_ge w new.length 0 e) (grownCap_le_maxLen w new.length 0 e b1) (fun k y hy hk => cell_none hM hy (by rw [hk]; exact hdom))
        simp only [List.nil_append] at this
        exact ⟨_, _, _, hr, this.1, this.2.1, this.2.2⟩
  · rename_i b ver e'
    split at h
    case h_2 => cases h
    rename_i hd R hr
    split at h
    case h_2 => cases h
    rename_i hk hfx
    simp only [Bool.and_eq_true, Bool.not_eq_true'] at hk
    simp only [Option.some.injEq, Prod.mk.injEq] at h
    obtain ⟨rfl, rfl, rfl, rfl⟩ := h
    have hsh := kdsEq_spec hk.1
    obtain ⟨c1, c2, c3, c4, c5⟩ := rowsAt_spec hr
    obtain ⟨_, i, hi, _, hR⟩ := hv
    obtain ⟨i', k1, k2, k3, k4, k5⟩ := hM.hdr b hd c1
    rw [hi] at k1; simp only [Option.some.injEq] at k1; subst k1
    obtain ⟨k6, k7, k8⟩ := k5 R c3
    have hro : i.ro = false := by rw [k3, hk.2]
    have hee : e' = sh.length := by rw [← c5, hsh]
    subst hee
    have hidb : b ≠ id := fun e => by subst e; rw [hM.dom b hid] at hi; cases hi
    have hver : i.v < ver + 1 := by rw [k2, c2]; omega
    have hno : ∀ k y, μ k = some y → k / 65536 = b → y = .unk := fun k y hy hkb => by
      by_cases hu : y = .unk
      · exact hu
      · have := (hM.apart k y hd hy hu (by rw [hkb]; exact c1)).1
        simp [Hd.grows, c3, hfx] at this
    obtain ⟨b1, b2, b3⟩ := bound _ ho.1
    have nb : new.length * bytes ≤ 140737488355328 := Nat.le_trans (Nat.mul_le_mul_right _ (by simp)) b2
    have frd : ∀ {φ' : Phi} {μ' : Mem} {ρ' : Hds} {w' : World}, MR w0 may φ' μ' ρ' (fun c => fr c ∧ c ≠ b) w' → MR w0 may φ' μ' ρ' (fun c => fr c ∧ c ≠ id) w' := fun hm => hm.drop fun c hc => ⟨hc.1, fun e => by subst e; rw [hM.dom c hc.1] at hi; cases hi⟩
    have nonew : new = [] → ∃ u w' φ', (Builtin.append_ #[t, tx] ty #[v, x]).run P w = .ok u w' ∧ φ.le φ' ∧ LV.rel φ' (.a (.vec b (ver + 1) sh.length)) u ∧ MR w0 may φ' μ (updL ρ [(b, ⟨ver + 1, 0, false, some ⟨0, sh, R.l ++ new, none⟩⟩)]) (fun b => fr b ∧ b ≠ id) w' := by
      intro hn
      subst hn
      rcases hR (by rw [k2, c2]) with ⟨e1, e2, e3⟩ | ⟨r, o', cap, e1, e2, e3, e4⟩
      · subst e3
        have hl0 : R.l = [] := List.eq_nil_of_length_eq_zero (by omega)
        -- the block is nowhere: it may be named anew
        have hle : φ.le (setP φ b ⟨e, none, 0, 0, ver + 1, false⟩) := phi_upd_le (.inr ⟨i, hi, .inr hver⟩)
        refine ⟨_, w, setP φ b ⟨e, none, 0, 0, ver + 1, false⟩, hx.zero rfl none 0 0 (Nat.le_refl _), hle, ⟨⟨rfl, rfl⟩, ⟨e, none, 0, 0, ver + 1, false⟩, setP_same _ _ _, Nat.le_refl _, fun _ => .inl ⟨rfl, rfl, rfl⟩⟩, ?_⟩
        have get : ∀ c i', setP φ b ⟨e, none, 0, 0, ver + 1, false⟩ c = some i' → (c = b ∧ i'.a = none) ∨ (c ≠ b ∧ φ c = some i') := by
          intro c i' h
          unfold setP at h
          split at h
          · rename_i e'; simp only [Option.some.injEq] at h; subst h; exact .inl ⟨e', rfl⟩
          · rename_i e'; exact .inr ⟨e', h⟩
        constructor
        · intro k x hx
          by_cases hkb : k / 65536 = b
          · exact .inl (hno k x hx hkb)
          · rcases hM.cell k x hx with e' | ⟨i', h1, h2⟩
            · exact .inl e'
            · exact .inr ⟨i', by simp [setP, hkb, h1], h2.other hle fun _ _ _ => rfl⟩
        · intro c g hg
          rcases updL_spec hg with h2 | ⟨h2, h3⟩
          · simp only [List.mem_singleton, Prod.mk.injEq] at h2
            obtain ⟨rfl, rfl⟩ := h2
            refine ⟨_, by simp [setP]; rfl, rfl, rfl, (fun hg => by simp [Hd.grows] at hg), fun R' hR' => ?_⟩
            simp only [Option.some.injEq] at hR'; subst hR'
            exact ⟨by simp [hl0], (fun N hN => by cases hN), .inl ⟨rfl, by simp [hl0], rfl⟩⟩
          · have hc : c ≠ b := fun e' => by subst e'; exact h3 _ (List.mem_singleton.2 rfl)
            obtain ⟨i', h4, h5⟩ := hM.hdr c g h2
            exact ⟨i', by simp [setP, hc, h4], h5⟩
        · intro k x g hx hne hg
          rcases updL_spec hg with h2 | ⟨h2, h3⟩
          · simp only [List.mem_singleton, Prod.mk.injEq] at h2
            exact absurd (hno k x hx h2.1) hne
          · exact hM.apart k x g hx hne h2
        · intro c c' i1 i2 r o o' hc hc' hi1 hi2
          rcases get c i1 hc with ⟨_, e'⟩ | ⟨_, e'⟩
          · rw [e'] at hi1; cases hi1
          · rcases get c' i2 hc' with ⟨_, e2'⟩ | ⟨_, e2'⟩
            · rw [e2'] at hi2; cases hi2
            · exact hM.inj c c' i1 i2 r o o' e' e2' hi1 hi2
        · intro c i1 r o hc hi1 hro
          rcases get c i1 hc with ⟨_, e'⟩ | ⟨_, e'⟩
          · rw [e'] at hi1; cases hi1
          · exact hM.own c i1 r o e' hi1 hro
        · intro c i1 r o hc hi1 hro
          rcases get c i1 hc with ⟨_, e'⟩ | ⟨_, e'⟩
          · rw [e'] at hi1; cases hi1
          · exact hM.keep c i1 r o e' hi1 hro
        · intro c hc
          have hcb : c ≠ b := fun e' => by subst e'; rw [hM.dom c hc.1] at hi; cases hi
          simp only [setP, hcb, if_false]; exact hM.dom c hc.1
        · intro c i1 r o hc hi1
          rcases get c i1 hc with ⟨_, e'⟩ | ⟨_, e'⟩
          · rw [e'] at hi1; cases hi1
          · exact hM.big c i1 r o e' hi1
        · exact hM.os
        · exact hM.tape
        · exact hM.output
        · exact hM.size
        · exact hM.block
        · exact hM.frz
      · subst e2
        rcases k8 with ⟨e', _⟩ | ⟨r2, o2, arr, ty', fz, q1, q2, q3, q4⟩
        · rw [e1] at e'; cases e'
        · rw [e1] at q1; simp only [Option.some.injEq, Prod.mk.injEq] at q1
          obtain ⟨rfl, rfl⟩ := q1
          obtain ⟨_, ho0, arr2, h6, h7⟩ := hM.own b i r o' hi e1 hro
          subst ho0
          have q2 : w.heap[r]? = _ := q2
          rw [h6] at q2; simp only [Option.some.injEq, Obj.cells.injEq] at q2
          obtain ⟨rfl, rfl, rfl⟩ := q2
          obtain ⟨e5, e6⟩ := e4
          have := hM.newRows (b := b) (v := ver + 1) (n := (R.l ++ []).length) (.inr ⟨i, hi, hver, hro⟩) (R := ⟨0, sh, R.l ++ [], none⟩) (arr := arr2) (ty := i.ty) (r := r) (w' := w) (.inl ⟨i, hi, e1⟩) h6 (fun _ _ _ => rfl) rfl rfl rfl (Nat.le_refl _) (fun _ => rfl)
            (by have h3 := q3; simp only [List.append_nil]; obtain ⟨st, sh', l', fx⟩ := R; simp only at c4 hfx hsh; subst c4 hfx hsh; exact h3) rfl rfl hno
          refine ⟨_, w, _, hx.zero rfl (some ⟨r, 0, none⟩) i.n cap e3, this.1, ⟨⟨rfl, rfl⟩, _, setP_same _ _ _, Nat.le_refl _, fun _ => .inr ⟨r, 0, cap, rfl, by simp [k6], by simpa [k6] using e3, by rw [e5, h7], e6⟩⟩, frd this.2⟩
    · by_cases h0 : new = []
      · subst h0; exact nonew rfl
      · rcases hR (by rw [k2, c2]) with ⟨e1, e2, e3⟩ | ⟨r, o', cap, e1, e2, e3, e4⟩
        · -- nil till now
          subst e3
          have hl0 : R.l = [] := List.eq_nil_of_length_eq_zero (by omega)
          have hpl : 0 < new.length := List.length_pos_iff.2 h0
          rw [hl0] at b1 b2 b3 ⊢
          simp only [List.nil_append] at b1 b2 b3 ⊢
          have hr := hx.nil_ hpl (by omega) (by rw [hby]; omega)
          have := placed (b := b) (ver := ver + 1) (.inr ⟨i, hi, hver, hro⟩) [] [] (RowVals.nil sh) vs hvs (grownCap w new.length 0 e) (by simpa using grownCap_ge w new.length 0 e) (grownCap_le_maxLen w new.length 0 e b1) hno
          simp only [List.nil_append] at this
          exact ⟨_, _, _, hr, this.1, this.2.1, frd this.2.2⟩
        · subst e2
          rcases k8 with ⟨e', _⟩ | ⟨r2, o2, arr, ty', fz, q1, q2, q3, q4⟩
          · rw [e1] at e'; cases e'
          · rw [e1] at q1; simp only [Option.some.injEq, Prod.mk.injEq] at q1
            obtain ⟨rfl, rfl⟩ := q1
            obtain ⟨_, ho0, arr2, h6, h7⟩ := hM.own b i r o' hi e1 hro
            subst ho0
            have q2 : w.heap[r]? = _ := q2
            rw [h6] at q2; simp only [Option.some.injEq, Obj.cells.injEq] at q2
            obtain ⟨rfl, rfl, rfl⟩ := q2
            obtain ⟨e5, e6⟩ := e4
            have hold : RowVals sh R.l (arr2.toList.take (R.l.length * sh.length)) := by
              have := q3.vals
              rw [c4, hsh] at this; simpa using this
            have hol : (arr2.toList.take (R.l.length * sh.length)).length = R.l.length * sh.length := hold.1
            by_cases hroom : i.n + new.length ≤ cap
            · -- in place
              have hfit : i.n * ie.size + vs.length ≤ arr2.size := by
                rw [hvs.1, hsize, h7, ← e5, ← Nat.add_mul]; exact Nat.mul_le_mul_right _ hroom
              have hrr := hx.room (List.length_pos_iff.2 h0) r i.n cap arr2 i.ty h6 hvs.one (by rw [hby]; exact nb) hroom hfit
              have hsz : (arr2.toList.take (i.n * ie.size) ++ vs ++ arr2.toList.drop (i.n * ie.size + vs.length)).toArray.size = arr2.size := by
                rw [List.size_toArray, splice_size _ _ _ (by simpa using hfit)]; simp
              have := hM.newRows (b := b) (v := ver + 1) (n := (R.l ++ new).length) (.inr ⟨i, hi, hver, hro⟩) (R := ⟨0, sh, R.l ++ new, none⟩) (arr := (arr2.toList.take (i.n * ie.size) ++ vs ++ arr2.toList.drop (i.n * ie.size + vs.length)).toArray) (ty := i.ty) (r := r) (w' := w.setRow r _)
                (.inl ⟨i, hi, e1⟩) (setRow_heap w r arr2 _ _ _ h6) (fun k _ hk => setRow_other _ _ _ _ hk) rfl rfl rfl (by rw [size_setRow]; exact Nat.le_refl _) (frozen_setRow h6)
                (rows_of_vals (hold.app hvs) (fun k hk => by
                  rw [List.getElem?_toArray]
                  rw [hsize, ← k6]
                  rw [List.getElem?_append_left (by simpa using hk)]) (by rw [hsz, List.length_append, hol]; rw [hsize, ← k6] at hfit; exact hfit)) rfl rfl hno
              refine ⟨_, _, _, hrr, this.1, ⟨⟨rfl, rfl⟩, _, setP_same _ _ _, Nat.le_refl _, fun _ => .inr ⟨r, 0, cap, rfl, by simp [k6], by simp [k6]; exact hroom, by rw [e5, ← h7]; exact hsz.symm, e6⟩⟩, frd this.2⟩
            · have hrr := hx.grow (List.length_pos_iff.2 h0) ⟨r, 0, none⟩ i.n cap (arr2.toList.take (R.l.length * sh.length)) (by rw [hol, k6, hsize]) (fun j u hj => by
                rw [add_eq, Nat.zero_add]
                simp only [World.cell?, h6]
                rw [List.getElem?_take] at hj
                split at hj
                · simpa using hj
                · cases hj) (by omega) (by have := b3; simp only [List.length_append, k6] at this; omega) (by rw [hby]; exact nb) (growslice_fits (by omega) (by rw [hby]; have := b2; simp only [List.length_append, k6] at this; exact this))
              have := placed (b := b) (ver := ver + 1) (.inr ⟨i, hi, hver, hro⟩) _ R.l hold vs hvs (grownCap w (i.n + new.length) cap e) (by have := grownCap_ge w (i.n + new.length) cap e; simp only [List.length_append, k6]; exact this)
                (grownCap_le_maxLen w _ cap e (by have := b1; simp only [List.length_append, k6] at this; exact this)) hno
              simp only [List.length_append, k6] at this ⊢
              simp only [List.append_toArray, k6] at hrr
              exact ⟨_, _, _, hrr, this.1, this.2.1, frd this.2.2⟩
  · cases h

end
end Go.Proofs.Ytcdejlgophpdjaa.V
