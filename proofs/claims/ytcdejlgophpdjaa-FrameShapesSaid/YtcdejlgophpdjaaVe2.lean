/-
  That each operation does on the real memory what the function says (third part: stores).
-/
import Derived.Test.YtcdejlgophpdjaaVe
namespace Go.Proofs.Ytcdejlgophpdjaa.V
open Go Go.RowKit

theorem wr_spec : ∀ {vs : List Int} {row : List Int} {j : Nat}, j + vs.length ≤ row.length → (wr row j vs).length = row.length ∧ ∀ m, (wr row j vs)[m]? = if j ≤ m ∧ m < j + vs.length then vs[m - j]? else row[m]?
  | [], row, j, h => ⟨rfl, fun m => by rw [if_neg (by simp)]; rfl⟩
  | v :: vs, row, j, h => by
    simp only [List.length_cons] at h
    obtain ⟨h1, h2⟩ := wr_spec (vs := vs) (row := row.set j v) (j := j + 1) (by simp; omega)
    refine ⟨by simp only [wr]; rw [h1]; simp, fun m => ?_⟩
    simp only [wr, List.length_cons]
    rw [h2]
    by_cases h3 : j + 1 ≤ m ∧ m < j + 1 + vs.length
    · rw [if_pos h3, if_pos (by omega)]
      rw [show m - j = (m - (j + 1)) + 1 by omega]; simp
    · rw [if_neg h3]
      by_cases h4 : m = j
      · subst h4; rw [if_pos (by omega)]; simp [List.getElem?_set]; omega
      · rw [if_neg (by omega), List.getElem?_set_ne (by omega)]

theorem grows_rows {h : Hd} {R : Rw} (hR : h.R = some R) : (withRows h R []).grows = h.grows ∧ True := ⟨by simp [Hd.grows, withRows, hR], trivial⟩

/-- A row is turned, in part. -/
theorem RowsIn.put {arr arr' : Array Value} {o : Nat} {R : Rw} (h : RowsIn arr o R) (hs : arr'.size = arr.size) {p j : Nat} {ns : List Int} (hp : p < R.l.length) (hj : j + ns.length ≤ R.sh.length)
    (hin : ∀ m n k, ns[m]? = some n → R.sh[j + m]? = some k → arr'[o + (R.st + p * R.sh.length + (j + m))]? = some (k.val n))
    (hout : ∀ k, ¬ (R.st + p * R.sh.length + j ≤ k ∧ k < R.st + p * R.sh.length + j + ns.length) → arr'[o + k]? = arr[o + k]?) {l' : List (List Int)}
    (hl : l' = rset R.l p j ns ∨ (j = 0 ∧ ns.length = R.sh.length ∧ l' = R.l.set p ns)) : RowsIn arr' o ⟨R.st, R.sh, l', R.fx⟩ := by
  have hrow : R.l[p]? = some R.l[p] := by simp [hp]
  obtain ⟨g1, g2⟩ := h.1 p _ hrow
  have hw := wr_spec (vs := ns) (row := R.l[p]) (j := j) (by omega)
  have hD : R.l.getD p [] = R.l[p] := by simp [List.getD_eq_getElem?_getD, hp]
  have key : ∃ row', l' = R.l.set p row' ∧ row'.length = R.sh.length ∧ ∀ m, row'[m]? = if j ≤ m ∧ m < j + ns.length then ns[m - j]? else R.l[p][m]? := by
    rcases hl with rfl | ⟨rfl, e, rfl⟩
    · exact ⟨wr R.l[p] j ns, by rw [rset, hD], by rw [hw.1, g1], hw.2⟩
    · refine ⟨ns, rfl, e, fun m => ?_⟩
      by_cases hm : m < ns.length
      · rw [if_pos ⟨by omega, by omega⟩]; simp
      · rw [if_neg (by omega)]
        rw [List.getElem?_eq_none (by omega), List.getElem?_eq_none (by omega)]
  obtain ⟨row', e1, e2, e3⟩ := key
  subst e1
  refine ⟨fun q row hq => ?_, by simp only [List.length_set]; rw [hs]; exact h.2⟩
  have hql : q < R.l.length := by have := (List.getElem?_eq_some_iff.1 hq).1; simpa using this
  by_cases hpq : q = p
  · subst hpq
    have hq' : row = row' := by simp [hql] at hq; exact hq.symm
    subst hq'
    refine ⟨e2, fun m n k hn hk => ?_⟩
    simp only at hk ⊢
    rw [e3 m] at hn
    have hml : m < R.sh.length := (List.getElem?_eq_some_iff.1 hk).1
    split at hn
    · rename_i hm
      have := hin (m - j) n k hn (by rw [show j + (m - j) = m by omega]; exact hk)
      rw [show j + (m - j) = m by omega] at this; exact this
    · rename_i hm
      rw [hout _ (by omega)]
      exact g2 m n k hn hk
  · have hq' : R.l[q]? = some row := by rw [List.getElem?_set_ne (by omega)] at hq; exact hq
    obtain ⟨f1, f2⟩ := h.1 q row hq'
    refine ⟨f1, fun m n k hn hk => ?_⟩
    have hml : m < R.sh.length := (List.getElem?_eq_some_iff.1 hk).1
    simp only at hk ⊢
    rw [hout _ ?_]
    · exact f2 m n k hn hk
    · intro hc
      rcases Nat.lt_or_gt_of_ne hpq with hlt | hlt
      · have := Nat.mul_le_mul_right R.sh.length (show q + 1 ≤ p by omega)
        rw [Nat.succ_mul] at this; omega
      · have := Nat.mul_le_mul_right R.sh.length (show p + 1 ≤ q by omega)
        rw [Nat.succ_mul] at this; omega

section
variable {P : Program} {w0 : World} {may : Nat → Prop} {φ : Phi} {σ : Sig} {μ : Mem} {ρ : Hds} {fr : Nat → Prop} {w : World}

theorem apart_of {h : Hd} {off n : Nat} {i : Inf} (ha : apartR h off n = true) (hR : ∀ R, h.R = some R → R.l.length = i.n ∧ ∀ N, R.fx = some N → i.n = N) {R : Rw} (hr : h.R = some R) : h.grows = false ∧ (off + n ≤ R.st ∨ R.st + R.l.length * R.sh.length ≤ off) := by
  unfold apartR at ha
  simp only [hr] at ha
  split at ha
  · rename_i N hN
    obtain ⟨a, b⟩ := hR R hr
    rw [a, b N hN]
    simp only [Bool.or_eq_true] at ha
    refine ⟨by simp [Hd.grows, hr, hN], ?_⟩
    rcases ha with ha | ha
    · exact .inl (Nat.le_of_ble_eq_true ha)
    · exact .inr (Nat.le_of_ble_eq_true ha)
  · cases ha

theorem storeCells_go (hM : MR w0 may φ μ ρ fr w) {t : TypeId} {r off : Nat} {i : Inf} {b : Nat} (hi : φ b = some i) (hia : i.a = some (r, 0)) (hro : i.ro = false) {q : Bool} {n : Nat} (hs : shape P t = some (q, n)) {vs : List At} {v : Value}
    (hv : All2 (At.rel φ) vs v.cells.toList) (hn : vs.length = n) (hle : off + n ≤ i.z) :
    ∃ arr, w.heap[r]? = some (.cells arr i.ty (0, 0)) ∧ arr.size = i.z ∧ ∃ arr' : Array Value, arr'.size = arr.size ∧ (∀ j, arr'[j]? = if off ≤ j ∧ j < off + n then v.cells.toList[j - off]? else arr[j]?) ∧
      (storeVar t ⟨r, off, none⟩ v).run P w = .ok () (w.setRow r arr') := by
  obtain ⟨_, _, arr, h1, h2⟩ := hM.own b i r 0 hi hia hro
  have hvl := hv.length
  obtain ⟨_, s2⟩ := shape_run hs w
  have hfit : off + v.cells.toList.length ≤ arr.toList.length := by simp at hvl ⊢; omega
  have hst := run_storeCells_at (P := P) r off i.ty v.cells.toList 0 arr w h1 (by simpa using hfit) (rel_cells_one hv)
  refine ⟨arr, h1, h2, (arr.toList.take (off + 0) ++ v.cells.toList ++ arr.toList.drop (off + 0 + v.cells.toList.length)).toArray, ?_, ?_, ?_⟩
  · simp only [Nat.add_zero, List.size_toArray]
    rw [splice_size _ _ _ hfit]; simp
  · intro j
    simp only [Nat.add_zero, List.getElem?_toArray]
    rw [splice_get _ _ _ hfit j, ← hvl, hn]
    split <;> simp
  · have hsz : v.cells.size = n := by simp at hvl; omega
    simp only [storeVar, Sem.run_bind, s2, Result.andThen_ok, hsz]
    simp only [ne_eq, not_true_eq_false, if_false]
    exact hst

theorem storeP_run (hM : MR w0 may φ μ ρ fr w) {t : TypeId} {b off : Nat} {vs : List At} {obs : List Prop} {lv : LV} {cs : List (Nat × At)} {hs : List (Nat × Hd)} (h : storeP P ρ t b off vs = some (obs, lv, cs, hs)) {x v : Value} (hx : prel φ (b, off) x)
    (hv : All2 (At.rel φ) vs v.cells.toList) : ∃ r o' w', x = .pointer (some ⟨r, o', none⟩) ∧ (storeVar t ⟨r, o', none⟩ v).run P w = .ok () w' ∧ lv = .t [] ∧ MR w0 may φ (updL μ cs) (updL ρ hs) fr w' := by
  obtain ⟨_, i, hi, _, hP⟩ := hx
  unfold storeP at h
  split at h
  case h_2 => cases h
  rename_i hd q n hc hsh
  obtain ⟨c1, c2⟩ := cur_spec hc
  obtain ⟨i', k1, k2, k3, k4, k5⟩ := hM.hdr b hd c1
  have k1 : φ b = some i' := k1
  have hi : φ b = some i := hi
  rw [hi] at k1; simp only [Option.some.injEq] at k1; subst k1
  obtain ⟨r, o', ha, hxv⟩ := hP (by rw [k2, c2])
  split at h
  case h_2 => cases h
  rename_i hb
  simp only [Bool.and_eq_true, Bool.not_eq_true'] at hb
  obtain ⟨⟨⟨b1, b2⟩, b3⟩, b4⟩ := hb
  have b1 := Nat.eq_of_beq_eq_true b1
  have b3 := Nat.le_of_ble_eq_true b3
  have b4 := Nat.le_of_ble_eq_true b4
  have hro : i.ro = false := by rw [k3, b2]
  have ho0 : o' = 0 := (hM.own b i r o' hi ha hro).2.1
  subst ho0
  rw [Nat.zero_add] at hxv
  have kR : ∀ R, hd.R = some R → R.l.length = i.n ∧ ∀ N, R.fx = some N → i.n = N := fun R hR => ⟨(k5 R hR).1, (k5 R hR).2.1⟩
  have hvl := hv.length
  -- rows of the block, as they stand in the old array
  have oldrows : ∀ R, hd.R = some R → R.fx ≠ none → ∀ arr, w.heap[r]? = some (.cells arr i.ty (0, 0)) → RowsIn arr 0 R ∧ R.st + R.l.length * R.sh.length ≤ i.z := by
    intro R hR hfx arr harr
    rcases (k5 R hR).2.2 with ⟨e, _⟩ | ⟨r2, o2, ar, ty, fz, q1, q2, q3, q4⟩
    · rw [ha] at e; cases e
    · rw [ha] at q1; simp only [Option.some.injEq, Prod.mk.injEq] at q1
      obtain ⟨rfl, rfl⟩ := q1
      have q2 : w.heap[r]? = _ := q2
      rw [harr] at q2; simp only [Option.some.injEq, Obj.cells.injEq] at q2
      obtain ⟨rfl, _, _⟩ := q2
      exact ⟨q3, q4⟩
  split at h
  · -- apart from the rows
    rename_i hap
    simp only [Option.some.injEq, Prod.mk.injEq] at h
    obtain ⟨_, rfl, rfl, rfl⟩ := h
    have hgr : hd.grows = false := by
      cases hR : hd.R with
      | none => simp [Hd.grows, hR]
      | some R => exact (apart_of hap kR hR).1
    obtain ⟨hv0, hz, hnz⟩ := k4 hgr
    obtain ⟨arr, a1, a2, arr', a3, a4, a5⟩ := storeCells_go (off := off) hM hi ha hro hsh hv b1 (by omega)
    refine ⟨r, off, _, hxv, a5, rfl, ?_⟩
    refine hM.write hi ha hro a1 a3 c1 ?_ ?_ ?_ ?_ ?_ ?_
    · intro key y hy
      obtain ⟨j, j1, j2⟩ := mem_enum.1 hy
      have hjl : j < vs.length := (List.getElem?_eq_some_iff.1 j1).1
      obtain ⟨u, u1, u2⟩ := hv.get j1
      refine ⟨off + j, by omega, j2, hv0, by omega, u, ?_, u2⟩
      rw [a4, if_pos (by omega), show off + j - off = j by omega]; exact u1
    · intro c g hg; cases hg
    · intro k
      by_cases hk : off ≤ k ∧ k < off + n
      · right; left
        have hkl : k - off < vs.length := by omega
        exact ⟨vs[k - off], mem_enum.2 ⟨k - off, by simp [hkl], by omega⟩⟩
      · left; rw [a4, if_neg hk]
    · intro _ g R hg hR k k1' k2'
      rw [c1] at hg; simp only [Option.some.injEq] at hg; subst hg
      have := (apart_of hap kR hR).2
      rw [a4, if_neg (by omega)]
    · intro key y g hy hg
      simp only [updL] at hg
      rw [c1] at hg; simp only [Option.some.injEq] at hg; subst hg
      refine ⟨hgr, fun R hR => ?_⟩
      obtain ⟨j, j1, j2⟩ := mem_enum.1 hy
      have hjl : j < vs.length := (List.getElem?_eq_some_iff.1 j1).1
      have := (apart_of hap kR hR).2
      rw [j2, key_mod _ _ (by omega)]; omega
    · intro c g hg; cases hg
  · rename_i hap
    split at h
    case h_2 => cases h
    rename_i R hR
    split at h
    case h_2 => cases h
    rename_i N hN
    have hgr : hd.grows = false := by simp [Hd.grows, hR, hN]
    obtain ⟨hv0, hz, hnz⟩ := k4 hgr
    obtain ⟨kn, kN⟩ := kR R hR
    have kN := kN N hN
    obtain ⟨arr, a1, a2, arr', a3, a4, a5⟩ := storeCells_go (off := off) hM hi ha hro hsh hv b1 (by omega)
    obtain ⟨old1, old2⟩ := oldrows R hR (by rw [hN]; simp) arr a1
    have hgr' : ∀ l, (withRows hd R l).grows = false := fun l => by simp [Hd.grows, withRows, hN]
    split at h
    · -- all rows are within
      rename_i hcov
      simp only [Bool.and_eq_true] at hcov
      have c3 := Nat.le_of_ble_eq_true hcov.1
      have c4 := Nat.le_of_ble_eq_true hcov.2
      split at h
      case h_2 => cases h
      rename_i l hl
      simp only [Option.some.injEq, Prod.mk.injEq] at h
      obtain ⟨_, rfl, rfl, rfl⟩ := h
      have hsub : All2 (At.rel φ) ((vs.drop (R.st - off)).take (N * R.sh.length)) ((v.cells.toList.drop (R.st - off)).take (N * R.sh.length)) := (hv.drop _).take _
      obtain ⟨e1, e2, e3⟩ := encRows_spec hl hsub
      refine ⟨r, off, _, hxv, a5, rfl, ?_⟩
      have memcs : ∀ key y, (key, y) ∈ enum b off (vs.take (R.st - off)) ++ enum b (R.st + N * R.sh.length) (vs.drop (R.st - off + N * R.sh.length)) →
          ∃ k, vs[k - off]? = some y ∧ off ≤ k ∧ k < off + n ∧ key = b * 65536 + k ∧ (k < R.st ∨ R.st + N * R.sh.length ≤ k) := by
        intro key y hy
        rcases List.mem_append.1 hy with hy | hy
        · obtain ⟨j, j1, j2⟩ := mem_enum.1 hy
          rw [List.getElem?_take] at j1
          split at j1
          · have hjl : j < vs.length := (List.getElem?_eq_some_iff.1 j1).1
            exact ⟨off + j, by rw [show off + j - off = j by omega]; exact j1, by omega, by omega, j2, by omega⟩
          · cases j1
        · obtain ⟨j, j1, j2⟩ := mem_enum.1 hy
          rw [List.getElem?_drop] at j1
          have hjl : R.st - off + N * R.sh.length + j < vs.length := (List.getElem?_eq_some_iff.1 j1).1
          exact ⟨R.st + N * R.sh.length + j, by rw [show R.st + N * R.sh.length + j - off = R.st - off + N * R.sh.length + j by omega]; exact j1, by omega, by omega, j2, by omega⟩
      refine hM.write hi ha hro a1 a3 c1 ?_ ?_ ?_ ?_ ?_ ?_
      · intro key y hy
        obtain ⟨k, q1, q2, q3, q4, _⟩ := memcs key y hy
        obtain ⟨u, u1, u2⟩ := hv.get q1
        exact ⟨k, by omega, q4, hv0, by omega, u, by rw [a4, if_pos (by omega)]; exact u1, u2⟩
      · intro c g hg
        simp only [List.mem_singleton, Prod.mk.injEq] at hg
        obtain ⟨rfl, rfl⟩ := hg
        refine ⟨rfl, k2, k3, fun _ => ⟨hv0, hz, fun e => by simp [withRows] at e⟩, fun R' hR' => ?_⟩
        simp only [withRows, Option.some.injEq] at hR'; subst hR'
        refine ⟨by rw [e1, kN], fun N' hN' => by rw [hN] at hN'; simp only [Option.some.injEq] at hN'; omega, .inr ⟨r, 0, arr', i.ty, (0, 0), ha, setRow_heap w r arr arr' _ _ a1, ⟨fun p row hp => ?_, ?_⟩, ?_⟩⟩
        · obtain ⟨f1, f2⟩ := e3 p row hp
          refine ⟨f1, fun j m k hj hk => ?_⟩
          have hpl : p < l.length := (List.getElem?_eq_some_iff.1 hp).1
          have hjl : j < R.sh.length := (List.getElem?_eq_some_iff.1 hk).1
          have := f2 j m k hj hk
          rw [List.getElem?_take] at this
          split at this
          · rw [List.getElem?_drop] at this
            simp only [Nat.zero_add]
            rw [a4, if_pos ?_]
            · rw [← this]; congr 1; omega
            · have := Nat.mul_le_mul_right R.sh.length (show p + 1 ≤ N by omega)
              rw [Nat.succ_mul] at this; omega
          · cases this
        · simp only; rw [e1, a3, a2]; omega
        · simp only; rw [e1]; omega
      · intro k
        by_cases hk : off ≤ k ∧ k < off + n
        · by_cases hk2 : k < R.st
          · right; left
            exact ⟨vs[k - off], List.mem_append_left _ (mem_enum.2 ⟨k - off, by rw [List.getElem?_take, if_pos (by omega)]; simp <;> omega, by omega⟩)⟩
          · by_cases hk3 : R.st + N * R.sh.length ≤ k
            · right; left
              exact ⟨vs[k - off], List.mem_append_right _ (mem_enum.2 ⟨k - (R.st + N * R.sh.length), by rw [List.getElem?_drop, show R.st - off + N * R.sh.length + (k - (R.st + N * R.sh.length)) = k - off by omega]; simp <;> omega, by omega⟩)⟩
            · right; right; exact ⟨hd, R, c1, hR, by omega, by rw [kn, kN]; omega⟩
        · left; rw [a4, if_neg hk]
      · intro e; cases e
      · intro key y g hy hg
        simp only [updL, upd_same, Option.some.injEq] at hg
        subst hg
        refine ⟨hgr' _, fun R' hR' => ?_⟩
        simp only [withRows, Option.some.injEq] at hR'; subst hR'
        obtain ⟨k, q1, q2, q3, q4, q5⟩ := memcs key y hy
        rw [q4, key_mod _ _ (by omega)]; simp only; rw [e1]; omega
      · intro c g hg k hk
        simp only [List.mem_singleton, Prod.mk.injEq] at hg
        obtain ⟨rfl, rfl⟩ := hg
        refine ⟨hgr' _, fun R' hR' => ?_⟩
        simp only [withRows, Option.some.injEq] at hR'; subst hR'
        have := hk.2 R hR
        simp only; rw [e1]; rw [kn, kN] at this; exact this
    · split at h
      case h_2 => cases h
      rename_i hin
      simp only [Bool.and_eq_true] at hin
      have c3 := Nat.le_of_ble_eq_true hin.1.1
      have c4 := Nat.le_of_ble_eq_true hin.1.2
      have c5 := Nat.le_of_ble_eq_true hin.2
      split at h
      case h_2 => cases h
      rename_i ns hns
      simp only [Option.some.injEq, Prod.mk.injEq] at h
      obtain ⟨_, rfl, rfl, rfl⟩ := h
      obtain ⟨n1, n2⟩ := encs_len hns
      have hdm := Nat.div_add_mod (off - R.st) R.sh.length
      rw [Nat.mul_comm] at hdm
      refine ⟨r, off, _, hxv, a5, rfl, ?_⟩
      by_cases hn0 : n = 0
      · -- nothing is written
        subst hn0
        have hns0 : ns = [] := List.eq_nil_of_length_eq_zero (by rw [n1, ← n2, b1])
        have harr : arr' = arr := by
          apply Array.ext_getElem?
          intro j; rw [a4, if_neg (by omega)]
        have hl : ∀ (p j : Nat), rset R.l p j ([] : List Int) = R.l := by
          intro p j
          simp only [rset, wr]
          by_cases hp : p < R.l.length
          · apply List.ext_getElem?
            intro q
            rw [List.getElem?_set]
            split
            · rename_i e; subst e; simp [List.getD_eq_getElem?_getD, hp]
            · rfl
          · rw [List.set_eq_of_length_le (by omega)]
        refine hM.write hi ha hro a1 a3 c1 ?_ ?_ ?_ ?_ ?_ ?_
        · intro key y hy; cases hy
        · intro c g hg
          simp only [List.mem_singleton, Prod.mk.injEq] at hg
          obtain ⟨rfl, rfl⟩ := hg
          refine ⟨rfl, k2, k3, fun _ => ⟨hv0, hz, fun e => by simp [withRows] at e⟩, fun R' hR' => ?_⟩
          simp only [withRows, Option.some.injEq] at hR'; subst hR'
          subst hns0
          rw [hl]
          exact ⟨kn, fun N' hN' => by rw [hN] at hN'; simp only [Option.some.injEq] at hN'; omega, .inr ⟨r, 0, arr', i.ty, (0, 0), ha, setRow_heap w r arr arr' _ _ a1, by rw [harr]; exact old1, old2⟩⟩
        · intro k; left; rw [a4, if_neg (by omega)]
        · intro e; cases e
        · intro key y g hy; cases hy
        · intro c g hg k hk
          simp only [List.mem_singleton, Prod.mk.injEq] at hg
          obtain ⟨rfl, rfl⟩ := hg
          refine ⟨hgr' _, fun R' hR' => ?_⟩
          simp only [withRows, Option.some.injEq] at hR'; subst hR'
          subst hns0
          simp only [hl]
          exact hk.2 R hR
      have hpos : 0 < R.sh.length := by omega
      have hp : (off - R.st) / R.sh.length < R.l.length := by
        rw [kn, kN, Nat.div_lt_iff_lt_mul hpos]; omega
      have hnsl : ns.length = n := by rw [n1, ← n2, b1]
      have hnew : RowsIn arr' 0 ⟨R.st, R.sh, rset R.l ((off - R.st) / R.sh.length) ((off - R.st) % R.sh.length) ns, R.fx⟩ := by
        refine old1.put a3 hp (by omega) (fun m x k hm hk => ?_) (fun k hk => ?_) (.inl rfl)
        · have hml : m < ns.length := (List.getElem?_eq_some_iff.1 hm).1
          have hkk : ((ksAt R.sh ((off - R.st) % R.sh.length)).take n)[m]? = some k := by
            rw [List.getElem?_take, if_pos (by omega), ksAt_get]; exact hk
          have := encs_val hns hv m x k hm hkk
          rw [Nat.zero_add, a4, if_pos (by omega), ← this]
          congr 1; omega
        · rw [Nat.zero_add, a4, if_neg (by omega)]
      refine hM.write hi ha hro a1 a3 c1 ?_ ?_ ?_ ?_ ?_ ?_
      · intro key y hy; cases hy
      · intro c g hg
        simp only [List.mem_singleton, Prod.mk.injEq] at hg
        obtain ⟨rfl, rfl⟩ := hg
        refine ⟨rfl, k2, k3, fun _ => ⟨hv0, hz, fun e => by simp [withRows] at e⟩, fun R' hR' => ?_⟩
        simp only [withRows, Option.some.injEq] at hR'; subst hR'
        exact ⟨by simp only [rset, List.length_set]; exact kn, fun N' hN' => by rw [hN] at hN'; simp only [Option.some.injEq] at hN'; omega, .inr ⟨r, 0, arr', i.ty, (0, 0), ha, setRow_heap w r arr arr' _ _ a1, hnew, by simp only [rset, List.length_set]; exact old2⟩⟩
      · intro k
        by_cases hk : off ≤ k ∧ k < off + n
        · right; right; exact ⟨hd, R, c1, hR, by omega, by rw [kn, kN]; omega⟩
        · left; rw [a4, if_neg hk]
      · intro e; cases e
      · intro key y g hy; cases hy
      · intro c g hg k hk
        simp only [List.mem_singleton, Prod.mk.injEq] at hg
        obtain ⟨rfl, rfl⟩ := hg
        refine ⟨hgr' _, fun R' hR' => ?_⟩
        simp only [withRows, Option.some.injEq] at hR'; subst hR'
        have := hk.2 R hR
        simp only [rset, List.length_set]; exact this

theorem mixA_rel {c : Bool} {y o x : At} {v : Value} (h : mixA c y o = some x) (hv : (bif c then y else o).rel φ v) : x.rel φ v := by
  unfold mixA at h
  split at h
  · split at h
    · rename_i hk
      have hk := of_decide_eq_true hk
      subst hk
      simp only [Option.some.injEq] at h; subst h
      cases c <;> exact hv
    · cases h
  · simp only [Option.some.injEq] at h; subst h
    cases c <;> exact hv
  · cases h

theorem mixCells_spec {b : Nat} {c : Bool} : ∀ {vs : List At} {k : Nat} {l : List (Nat × At)}, mixCells μ ρ b c k vs = some l →
    (∀ key x, (key, x) ∈ l → ∃ m y o, m < vs.length ∧ vs[m]? = some y ∧ key = b * 65536 + (k + m) ∧ rdc μ ρ b (k + m) = some o ∧ mixA c y o = some x) ∧ ∀ m, m < vs.length → ∃ x, (b * 65536 + (k + m), x) ∈ l
  | [], k, l, h => by
    simp only [mixCells, Option.some.injEq] at h; subst h
    exact ⟨fun _ _ h => (List.not_mem_nil h).elim, fun m hm => by simp at hm⟩
  | y :: r, k, l, h => by
    unfold mixCells at h
    split at h
    · rename_i x l' h1 h2
      simp only [Option.some.injEq] at h; subst h
      obtain ⟨o, o1, o2⟩ := Option.bind_eq_some_iff.1 h1
      obtain ⟨g1, g2⟩ := mixCells_spec h2
      refine ⟨fun key z hz => ?_, fun m hm => ?_⟩
      · rcases List.mem_cons.1 hz with e | hz
        · simp only [Prod.mk.injEq] at e; obtain ⟨rfl, rfl⟩ := e
          exact ⟨0, y, o, by simp, by simp, rfl, o1, o2⟩
        · obtain ⟨m, y', o', q1, q2, q3, q4, q5⟩ := g1 key z hz
          exact ⟨m + 1, y', o', by simp; omega, by simpa using q2, by rw [q3]; omega, by rw [show k + (m + 1) = k + 1 + m by omega]; exact q4, q5⟩
      · cases m with
        | zero => exact ⟨x, by simp⟩
        | succ m =>
          obtain ⟨z, hz⟩ := g2 m (by simp at hm; omega)
          exact ⟨z, List.mem_cons_of_mem _ (by rw [show k + (m + 1) = k + 1 + m by omega]; exact hz)⟩
    · cases h

theorem mixRows_spec {b e i k : Nat} {vs : List At} : ∀ {N : Nat} {l : List (Nat × At)}, mixRows μ ρ b e i k vs N = some l →
    (∀ key x, (key, x) ∈ l → ∃ p m y o, p < N ∧ m < vs.length ∧ vs[m]? = some y ∧ key = b * 65536 + (k + p * e + m) ∧ rdc μ ρ b (k + p * e + m) = some o ∧ mixA (Nat.beq i p) y o = some x) ∧
      ∀ p m, p < N → m < vs.length → ∃ x, (b * 65536 + (k + p * e + m), x) ∈ l
  | 0, l, h => by
    simp only [mixRows, Option.some.injEq] at h; subst h
    exact ⟨fun _ _ h => (List.not_mem_nil h).elim, fun p m hp => by omega⟩
  | N + 1, l, h => by
    unfold mixRows at h
    split at h
    · rename_i l1 l2 h1 h2
      simp only [Option.some.injEq] at h; subst h
      obtain ⟨f1, f2⟩ := mixCells_spec h1
      obtain ⟨g1, g2⟩ := mixRows_spec h2
      refine ⟨fun key z hz => ?_, fun p m hp hm => ?_⟩
      · rcases List.mem_append.1 hz with hz | hz
        · obtain ⟨m, y, o, q1, q2, q3, q4, q5⟩ := f1 key z hz
          exact ⟨N, m, y, o, by omega, q1, q2, q3, q4, q5⟩
        · obtain ⟨p, m, y, o, q0, q1, q2, q3, q4, q5⟩ := g1 key z hz
          exact ⟨p, m, y, o, by omega, q1, q2, q3, q4, q5⟩
      · by_cases hpN : p = N
        · subst hpN
          obtain ⟨z, hz⟩ := f2 m hm
          exact ⟨z, List.mem_append_left _ hz⟩
        · obtain ⟨z, hz⟩ := g2 p m (by omega) hm
          exact ⟨z, List.mem_append_right _ hz⟩
    · cases h

theorem storeC_run (hM : MR w0 may φ μ ρ fr w) {t : TypeId} {s : Bool} {b v st e i j : Nat} {vs : List At} {obs : List Prop} {lv : LV} {cs : List (Nat × At)} {hs : List (Nat × Hd)} (h : storeC P μ ρ t s b v st e i j vs = some (obs, lv, cs, hs)) (ho : Alls obs) {x y : Value} (hx : At.rel φ (.prw s b v st e i j) x)
    (hv : All2 (At.rel φ) vs y.cells.toList) : ∃ r o' w', x = .pointer (some ⟨r, o', none⟩) ∧ (storeVar t ⟨r, o', none⟩ y).run P w = .ok () w' ∧ lv = .t [] ∧ MR w0 may φ (updL μ cs) (updL ρ hs) fr w' := by
  unfold storeC at h
  split at h
  case h_2 => cases h
  rename_i hd q n hc hsh
  split at h
  case h_2 => cases h
  rename_i hR hb
  split at h
  case h_2 => cases h
  rename_i cs' hm
  simp only [Option.some.injEq, Prod.mk.injEq] at h
  obtain ⟨rfl, rfl, rfl, rfl⟩ := h
  simp only [Bool.and_eq_true, Bool.not_eq_true'] at hb
  obtain ⟨⟨⟨⟨⟨⟨b0, b1⟩, b2⟩, b3⟩, b4⟩, b5⟩, b6⟩ := hb
  have b0 := Nat.eq_of_beq_eq_true b0
  have b1 := Nat.eq_of_beq_eq_true b1
  have b3 := Nat.le_of_ble_eq_true b3
  have b4 := Nat.le_of_ble_eq_true b4
  have b5 := Nat.le_of_ble_eq_true b5
  have b6 := Nat.le_of_ble_eq_true b6
  subst b0
  obtain ⟨inf, r, o', g1, g2, g3, g4⟩ := prc_place hM hx hc
  obtain ⟨c1, c2⟩ := cur_spec hc
  obtain ⟨inf', k1, k2, k3, k4, _⟩ := hM.hdr b hd c1
  rw [g1] at k1; simp only [Option.some.injEq] at k1; subst k1
  have hgr : hd.grows = false := by simp [Hd.grows, hR]
  obtain ⟨hv0, hz, _⟩ := k4 hgr
  have hro : inf.ro = false := by rw [k3, b2]
  have ho0 : o' = 0 := (hM.own b inf r o' g1 g2 hro).2.1
  subst ho0
  have hi := ho.1
  have hdiv : (hd.z - st) / e * e ≤ hd.z - st := Nat.div_mul_le_self _ _
  have row : ∀ p, p < (hd.z - st) / e → st + p * e + e ≤ hd.z := fun p hp => by
    have := Nat.mul_le_mul_right e (show p + 1 ≤ (hd.z - st) / e by omega)
    rw [Nat.succ_mul] at this; omega
  have hri := row i hi
  obtain ⟨arr, a1, a2, arr', a3, a4, a5⟩ := storeCells_go (off := st + i * e + j) hM g1 g2 hro hsh hv b1 (by omega)
  rw [Nat.zero_add] at g4
  refine ⟨r, _, _, g4, a5, rfl, ?_⟩
  obtain ⟨m1, m2⟩ := mixRows_spec hm
  refine hM.write g1 g2 hro a1 a3 c1 ?_ ?_ ?_ ?_ ?_ ?_
  · intro key z hz'
    obtain ⟨p, m, y', o, q0, q1, q2, q3, q4, q5⟩ := m1 key z hz'
    have hrp := row p q0
    refine ⟨st + j + p * e + m, by omega, q3, hv0, by omega, ?_⟩
    obtain ⟨u, u1, u2⟩ := hv.get q2
    obtain ⟨ov, v1, v2⟩ := rdc_run hM q4 g1 g2
    by_cases hpi : i = p
    · subst hpi
      refine ⟨u, ?_, mixA_rel q5 (by simpa using u2)⟩
      rw [a4, if_pos (by omega), show st + j + i * e + m - (st + i * e + j) = m by omega]; exact u1
    · have hbq : Nat.beq i p = false := by
        cases hq : Nat.beq i p
        · rfl
        · exact absurd (Nat.eq_of_beq_eq_true hq) hpi
      rw [hbq] at q5
      refine ⟨ov, ?_, mixA_rel q5 (by simpa using v2)⟩
      have hne : ¬ (st + i * e + j ≤ st + j + p * e + m ∧ st + j + p * e + m < st + i * e + j + n) := by
        rcases Nat.lt_or_gt_of_ne hpi with hlt | hlt
        · have := Nat.mul_le_mul_right e (show i + 1 ≤ p by omega)
          rw [Nat.succ_mul] at this; omega
        · have := Nat.mul_le_mul_right e (show p + 1 ≤ i by omega)
          rw [Nat.succ_mul] at this; omega
      rw [a4, if_neg hne]
      simpa [World.cell?, a1] using v1
  · intro c g hg; cases hg
  · intro k
    by_cases hk : st + i * e + j ≤ k ∧ k < st + i * e + j + n
    · right; left
      obtain ⟨z, hz'⟩ := m2 i (k - (st + i * e + j)) hi (by omega)
      refine ⟨z, ?_⟩
      rw [show k = st + j + i * e + (k - (st + i * e + j)) by omega]; exact hz'
    · left; rw [a4, if_neg hk]
  · intro _ g R hg hR' k _ _
    rw [c1] at hg; simp only [Option.some.injEq] at hg; subst hg
    rw [hR] at hR'; cases hR'
  · intro key z g _ hg
    simp only [updL] at hg
    rw [c1] at hg; simp only [Option.some.injEq] at hg; subst hg
    exact ⟨hgr, fun R hR' => by rw [hR] at hR'; cases hR'⟩
  · intro c g hg; cases hg

theorem encs_one {k : Kd} {vs : List At} {ns : List Int} (h : encs [k] vs = some ns) : ns.length = 1 := (encs_len h).1

theorem storeR_run (hM : MR w0 may φ μ ρ fr w) {t : TypeId} {s : Bool} {b v st e i j : Nat} {vs : List At} {obs : List Prop} {lv : LV} {cs : List (Nat × At)} {hs : List (Nat × Hd)} (h : storeR P ρ t s b v st e i j vs = some (obs, lv, cs, hs)) {x y : Value} (hx : At.rel φ (.prw s b v st e i j) x)
    (hv : All2 (At.rel φ) vs y.cells.toList) : ∃ r o' w', x = .pointer (some ⟨r, o', none⟩) ∧ (storeVar t ⟨r, o', none⟩ y).run P w = .ok () w' ∧ lv = .t [] ∧ MR w0 may φ (updL μ cs) (updL ρ hs) fr w' := by
  have go : ∀ {hd : Hd} {R : Rw} {q : Bool} {n : Nat} {ns : List Int} {l' : List (List Int)}, rowsAt ρ b v st e = some (hd, R) → shape P t = some (q, n) → vs.length = n → hd.ro = false → ns.length = n → j + n ≤ R.sh.length →
      (∀ m x k, ns[m]? = some x → R.sh[j + m]? = some k → y.cells.toList[m]? = some (k.val x)) →
      (l' = rset R.l i j ns ∨ (j = 0 ∧ ns.length = R.sh.length ∧ l' = R.l.set i ns)) →
      ∃ r o' w', x = .pointer (some ⟨r, o', none⟩) ∧ (storeVar t ⟨r, o', none⟩ y).run P w = .ok () w' ∧ MR w0 may φ (updL μ []) (updL ρ [(b, withRows hd R l')]) fr w' := by
    intro hd R q n ns l' hr hsh hvl hro hnl hjn hval hl'
    obtain ⟨i', r, o', arr0, ty, fz, g1, gro, gv, gn, g3, g4, g5, g6, g7, g8, g9⟩ := prw_place hM hx hr
    obtain ⟨c1, c2, hR, _, _⟩ := rowsAt_spec hr
    have hro' : i'.ro = false := by rw [gro, hro]
    have ho0 : o' = 0 := (hM.own b i' r o' g1 g3 hro').2.1
    subst ho0
    obtain ⟨i2, k1, k2, k3, k4, k5⟩ := hM.hdr b hd c1
    rw [g1] at k1; simp only [Option.some.injEq] at k1; subst k1
    have hbnd : R.st + i * R.sh.length + j + n ≤ i'.z := by
      have := Nat.mul_le_mul_right R.sh.length (show i + 1 ≤ R.l.length by omega)
      rw [Nat.succ_mul] at this; omega
    obtain ⟨arr, a1, a2, arr', a3, a4, a5⟩ := storeCells_go hM g1 g3 hro' hsh hv hvl hbnd
    rw [g4] at a1; simp only [Option.some.injEq, Obj.cells.injEq] at a1
    obtain ⟨rfl, rfl, rfl⟩ := a1
    rw [Nat.zero_add] at g9
    refine ⟨r, _, _, g9, a5, ?_⟩
    have hll : l'.length = R.l.length := by
      rcases hl' with rfl | ⟨_, _, rfl⟩ <;> simp [rset]
    have hnew : RowsIn arr' 0 ⟨R.st, R.sh, l', R.fx⟩ := by
      refine g5.put a3 g6 (by omega) (fun m x k hm hk => ?_) (fun k hk => ?_) hl'
      · have hml : m < ns.length := (List.getElem?_eq_some_iff.1 hm).1
        rw [Nat.zero_add, a4, if_pos (by omega), ← hval m x k hm hk]
        congr 1; omega
      · rw [Nat.zero_add, a4, if_neg (by omega)]
    refine hM.write g1 g3 hro' g4 a3 c1 ?_ ?_ ?_ ?_ ?_ ?_
    · intro key y hy; cases hy
    · intro c g hg
      simp only [List.mem_singleton, Prod.mk.injEq] at hg
      obtain ⟨rfl, rfl⟩ := hg
      refine ⟨rfl, k2, k3, fun hgr => by obtain ⟨e1, e2, _⟩ := k4 (by simpa [Hd.grows, withRows, hR] using hgr); exact ⟨e1, e2, fun e => by simp [withRows] at e⟩, fun R' hR' => ?_⟩
      simp only [withRows, Option.some.injEq] at hR'; subst hR'
      exact ⟨by simp only [hll]; exact gn.symm, (k5 R hR).2.1, .inr ⟨r, 0, arr', i'.ty, (0, 0), g3, setRow_heap w r arr0 arr' _ _ g4, hnew, by simp only [hll]; exact g8⟩⟩
    · intro k
      by_cases hk : R.st + i * R.sh.length + j ≤ k ∧ k < R.st + i * R.sh.length + j + n
      · right; right
        refine ⟨hd, R, c1, hR, by omega, ?_⟩
        have := Nat.mul_le_mul_right R.sh.length (show i + 1 ≤ R.l.length by omega)
        rw [Nat.succ_mul] at this; omega
      · left; rw [a4, if_neg hk]
    · intro e; cases e
    · intro key y g hy; cases hy
    · intro c g hg k hk
      simp only [List.mem_singleton, Prod.mk.injEq] at hg
      obtain ⟨rfl, rfl⟩ := hg
      refine ⟨by have := hk.1; simpa [Hd.grows, withRows, hR] using this, fun R' hR' => ?_⟩
      simp only [withRows, Option.some.injEq] at hR'; subst hR'
      have := hk.2 R hR
      simp only [hll]; exact this
  unfold storeR at h
  split at h
  · rename_i hd R q n hr hsh
    split at h
    case h_2 => cases h
    rename_i ns hb hns
    simp only [Bool.and_eq_true, Bool.not_eq_true'] at hb
    have b1 := Nat.eq_of_beq_eq_true hb.1
    obtain ⟨n1, n2⟩ := encs_len hns
    obtain ⟨_, _, _, _, hel⟩ := rowsAt_spec hr
    have hjl : j + n ≤ R.sh.length ∨ n = 0 := by
      by_cases hn0 : n = 0
      · exact .inr hn0
      · left
        have : ((ksAt R.sh j).take n)[n - 1]? ≠ none := by
          rw [Ne, List.getElem?_eq_none_iff]
          rw [← n2, b1]; omega
        rw [List.getElem?_take, if_pos (by omega), ksAt_get] at this
        have : ¬ R.sh.length ≤ j + (n - 1) := fun hle => this (List.getElem?_eq_none hle)
        omega
    have hplace := prw_place hM hx hr
    obtain ⟨_, _, _, _, _, _, _, _, _, _, _, _, _, _, hj, _, _⟩ := hplace
    have hval : ∀ m x k, ns[m]? = some x → R.sh[j + m]? = some k → y.cells.toList[m]? = some (k.val x) := fun m x k hm hk => by
      have hml : m < ns.length := (List.getElem?_eq_some_iff.1 hm).1
      exact encs_val hns hv m x k hm (by rw [List.getElem?_take, if_pos (by rw [n1, ← n2, b1] at hml; omega), ksAt_get]; exact hk)
    have hnl : ns.length = n := by rw [n1, ← n2, b1]
    split at h
    · rename_i hf
      simp only [Bool.and_eq_true] at hf
      have f1 := Nat.eq_of_beq_eq_true hf.1
      have f2 := Nat.eq_of_beq_eq_true hf.2
      simp only [Option.some.injEq, Prod.mk.injEq] at h
      obtain ⟨_, rfl, rfl, rfl⟩ := h
      obtain ⟨r, o', w', p1, p2, p3⟩ := go (l' := R.l.set i ns) hr hsh b1 hb.2 hnl (by omega) hval (.inr ⟨f1, by rw [hnl, f2, hel], rfl⟩)
      exact ⟨r, o', w', p1, p2, rfl, p3⟩
    · simp only [Option.some.injEq, Prod.mk.injEq] at h
      obtain ⟨_, rfl, rfl, rfl⟩ := h
      obtain ⟨r, o', w', p1, p2, p3⟩ := go (l' := rset R.l i j ns) hr hsh b1 hb.2 hnl (by omega) hval (.inl rfl)
      exact ⟨r, o', w', p1, p2, rfl, p3⟩
  · rename_i hd R q n hr hsh
    split at h
    case h_2 => cases h
    rename_i k hk
    split at h
    case h_2 => cases h
    rename_i ns hb hns
    simp only [Bool.and_eq_true, Bool.not_eq_true'] at hb
    have b1 := Nat.eq_of_beq_eq_true hb.1.1
    have b2 := Nat.eq_of_beq_eq_true hb.1.2
    have hplace := prw_place hM hx hr
    obtain ⟨_, _, _, _, _, _, _, _, _, _, _, _, _, _, hj, _, _⟩ := hplace
    simp only [Option.some.injEq, Prod.mk.injEq] at h
    obtain ⟨_, rfl, rfl, rfl⟩ := h
    have hnl := encs_one hns
    obtain ⟨r, o', w', p1, p2, p3⟩ := go (l' := rset R.l i j ns) hr hsh (by omega) hb.2 (by omega) (by omega) (fun m x k' hm hk' => by
      have hml : m < ns.length := (List.getElem?_eq_some_iff.1 hm).1
      have hm0 : m = 0 := by omega
      subst hm0
      have hkk := oneKd_spec hk hj
      rw [Nat.add_zero] at hk'
      rw [hkk] at hk'; simp only [Option.some.injEq] at hk'; subst hk'
      exact encs_val hns hv 0 x k hm (by simp)) (.inl rfl)
    exact ⟨r, o', w', p1, p2, rfl, p3⟩
  · cases h

end
end Go.Proofs.Ytcdejlgophpdjaa.V
