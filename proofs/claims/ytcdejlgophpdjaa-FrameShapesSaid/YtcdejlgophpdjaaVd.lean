/-
  That each operation does on the real memory what the function says (first part: what turns no memory; loads).
-/
import Derived.Test.YtcdejlgophpdjaaVc
namespace Go.Proofs.Ytcdejlgophpdjaa.V
open Go Go.RowKit

section
variable {P : Program} {w0 : World} {may : Nat → Prop} {φ : Phi} {σ : Sig} {μ : Mem} {ρ : Hds} {fr : Nat → Prop} {w : World} {a : Act} {o : Oper}

theorem wp_value {v : Value} {w' : World} (h : (execOp a.eval o).run P w = .ok (.value v) w') {next : Act → World → Prop} {Q : Exit → Act → World → Prop} (hn : next (a.put o.dst v) w') : o.wp P a w next Q := by
  unfold Oper.wp; rw [h]; exact hn

theorem wp_skip' {w' : World} (h : (execOp a.eval o).run P w = .ok .skip w') {next : Act → World → Prop} {Q : Exit → Act → World → Prop} (hn : next (a.put o.dst undef) w') : o.wp P a w next Q := by
  unfold Oper.wp; rw [h]; exact hn

theorem wp_enter {f : Nat} {args : Array Value} {w' : World} (h : (execOp a.eval o).run P w = .ok (.enter f args) w') {next : Act → World → Prop} {Q : Exit → Act → World → Prop} {R : Ending → World → Prop}
    (hc : Calls P f args w' R) (hn : ∀ e w'', R e w'' → ∃ v, e = .returned v ∧ next (a.put o.dst v) w'') : o.wp P a w next Q := by
  unfold Oper.wp; rw [h]
  refine hc.mono fun e w'' hR => ?_
  obtain ⟨v, rfl, hv⟩ := hn e w'' hR
  exact hv

theorem run_pure' {α : Type} (x : α) : (pure x : Sem α).run P w = .ok x w := rfl

/-- The steps that turn no memory. -/
theorem calm_exec (h : TRel φ σ a.tmps) (hf : opsFree σ o.op.operands.toList = true) (hk : (∃ p t x y t2, o.op = .binOp p t x y t2) ∨ (∃ p t x, o.op = .unOp p t x) ∨ (∃ s d x, o.op = .convert s d x) ∨ (∃ b as ts, o.op = .call ⟨.builtin b, as, ts⟩)) :
    execOp (rho σ) o = execOp a.eval o := by
  have hr := fun (x : Operand) (hx : x ∈ o.op.operands.toList) => rho_eq h hf hx
  rcases hk with ⟨p, t, x, y, t2, e⟩ | ⟨p, t, x, e⟩ | ⟨s, d, x, e⟩ | ⟨b, as, ts, e⟩
  · have hx := hr x (by simp [e, Op.operands])
    have hy := hr y (by simp [e, Op.operands])
    simp only [execOp, e, hx, hy]
  · have hx := hr x (by simp [e, Op.operands])
    simp only [execOp, e, hx]
  · have hx := hr x (by simp [e, Op.operands])
    simp only [execOp, e, hx]
  · have hm : as.map (rho σ) = as.map a.eval := by
      apply Array.map_congr_left
      intro x hx
      exact hr x (by simp [e, Op.operands, Call.operands, hx])
    simp only [execOp, e, resolve, hm]

theorem calmOp_run {obs : List Prop} {lv : LV} {cs : List (Nat × At)} {hs : List (Nat × Hd)} (hc : calmOp P σ o = some (obs, lv, cs, hs)) (h : TRel φ σ a.tmps)
    (hk : (∃ p t x y t2, o.op = .binOp p t x y t2) ∨ (∃ p t x, o.op = .unOp p t x) ∨ (∃ s d x, o.op = .convert s d x) ∨ (∃ b as ts, o.op = .call ⟨.builtin b, as, ts⟩)) :
    ∃ v, (execOp a.eval o).run P w = .ok (.value v) w ∧ lv.rel φ v ∧ cs = [] ∧ hs = [] := by
  unfold calmOp at hc
  split at hc
  · rename_i hf
    rw [calm_exec h hf hk] at hc
    split at hc
    · rename_i v hv
      split at hc
      · rename_i lv' he
        simp only [Option.some.injEq, Prod.mk.injEq] at hc
        obtain ⟨_, rfl, rfl, rfl⟩ := hc
        exact ⟨v, calm_run _ hv w, LV.ofVal_rel he φ, rfl, rfl⟩
      · cases hc
    · cases hc
  · cases hc

theorem part_run {t : TypeId} {l : List At} {cs : Array Value} {off : Nat} {lv : LV} (h : lpart P t l off = some lv) (hl : All2 (At.rel φ) l cs.toList) :
    ∃ v, (part t cs off).run P w = .ok v w ∧ lv.rel φ v := by
  unfold lpart at h
  split at h
  · rename_i n hs
    simp only [Option.some.injEq] at h; subst h
    obtain ⟨h1, h2⟩ := shape_run hs w
    refine ⟨.agg (cs.extract off (off + n)), by simp [part, h1, h2], _, rfl, ?_⟩
    have := (hl.drop off).take n
    simpa [Array.toList_extract, List.extract_eq_take_drop] using this
  · rename_i n hs
    obtain ⟨h1, h2⟩ := shape_run hs w
    split at h
    · rename_i x hx
      simp only [Option.some.injEq] at h; subst h
      obtain ⟨v, hv, hr⟩ := hl.get hx
      refine ⟨v, ?_, hr⟩
      have : cs[off]? = some v := by simpa using hv
      simp [part, h1, this]
    · cases h
  · cases h

theorem add_eq (r off n : Nat) : (⟨r, off, none⟩ : Addr).add n = ⟨r, off + n, none⟩ := by unfold Addr.add; split <;> simp_all

theorem cur_spec {b v : Nat} {h : Hd} (e : cur ρ b v = some h) : ρ b = some h ∧ h.v = v := by
  unfold cur at e
  split at e
  · rename_i h' hh
    split at e
    · rename_i hb
      simp only [Option.some.injEq] at e; subst e
      exact ⟨hh, Nat.eq_of_beq_eq_true hb⟩
    · cases e
  · cases e

theorem rowsAt_spec {b v st e : Nat} {h : Hd} {R : Rw} (k : rowsAt ρ b v st e = some (h, R)) : ρ b = some h ∧ h.v = v ∧ h.R = some R ∧ R.st = st ∧ R.sh.length = e := by
  unfold rowsAt at k
  split at k
  · rename_i h' hc
    split at k
    · rename_i R' hR
      split at k
      · rename_i hb
        simp only [Option.some.injEq, Prod.mk.injEq] at k
        obtain ⟨rfl, rfl⟩ := k
        simp only [Bool.and_eq_true] at hb
        obtain ⟨h1, h2⟩ := cur_spec hc
        exact ⟨h1, h2, hR, Nat.eq_of_beq_eq_true hb.1, Nat.eq_of_beq_eq_true hb.2⟩
      · cases k
    · cases k
  · cases k

theorem rget_eq {l : List (List Int)} {i j : Nat} {row : List Int} {n : Int} (h : l[i]? = some row) (h' : row[j]? = some n) : rget l i j = n := by
  simp [rget, List.getD_eq_getElem?_getD, h, h']

theorem key_div (b k : Nat) (h : k < 65536) : (b * 65536 + k) / 65536 = b := by omega
theorem key_mod (b k : Nat) (h : k < 65536) : (b * 65536 + k) % 65536 = k := by omega

/-- A row's number, in the real block. -/
theorem row_cell {arr : Array Value} {o' : Nat} {R : Rw} (hR : RowsIn arr o' R) {p j : Nat} {k : Kd} (hp : p < R.l.length) (hk : R.sh[j]? = some k) : arr[o' + (R.st + p * R.sh.length + j)]? = some (k.val (rget R.l p j)) := by
  have hrow : R.l[p]? = some R.l[p] := by simp [hp]
  obtain ⟨h1, h2⟩ := hR.1 p _ hrow
  have hj : j < R.sh.length := (List.getElem?_eq_some_iff.1 hk).1
  have hn : R.l[p][j]? = some (R.l[p][j]'(by omega)) := by simp [h1, hj]
  rw [h2 j _ k hn hk, rget_eq hrow hn]

/-- What a pointer's cell holds, as the local memory has it. -/
theorem rdc_run (hM : MR w0 may φ μ ρ fr w) {b k r o' : Nat} {x : At} {i : Inf} (h : rdc μ ρ b k = some x) (hi : φ b = some i) (hia : i.a = some (r, o')) : ∃ v, w.cell? ⟨r, o' + k, none⟩ = some v ∧ x.rel φ v := by
  unfold rdc at h
  split at h
  case h_2 => cases h
  rename_i hk
  have hk' : k < 65536 := Nat.le_of_ble_eq_true hk
  have rows : rdr ρ b k = some x → ∃ v, w.cell? ⟨r, o' + k, none⟩ = some v ∧ x.rel φ v := by
    intro h
    unfold rdr at h
    split at h
    · rename_i hd hhd
      split at h
      · rename_i R hR
        split at h
        · rename_i N hN
          split at h
          · rename_i hb
            simp only [Bool.and_eq_true] at hb
            have b1 := Nat.le_of_ble_eq_true hb.1
            have b2 : k < R.st + N * R.sh.length := Nat.le_of_ble_eq_true hb.2
            split at h
            · rename_i kd hkd
              simp only [Option.some.injEq] at h; subst h
              obtain ⟨i', g1, g2, g3, _, g4⟩ := hM.hdr b hd hhd
              rw [hi] at g1; simp only [Option.some.injEq] at g1; subst g1
              obtain ⟨g5, g6, g7⟩ := g4 R hR
              have hpos : 0 < R.sh.length := by
                have := (List.getElem?_eq_some_iff.1 hkd).1; omega
              rcases g7 with ⟨g7, _⟩ | ⟨r2, o2, arr, ty, fz, q1, q2, q3, q4⟩
              · rw [hia] at g7; cases g7
              · rw [hia] at q1; simp only [Option.some.injEq, Prod.mk.injEq] at q1
                obtain ⟨rfl, rfl⟩ := q1
                have hp : (k - R.st) / R.sh.length < R.l.length := by
                  rw [g5, g6 N hN, Nat.div_lt_iff_lt_mul hpos]; omega
                have hc := row_cell q3 hp hkd
                have e : R.st + (k - R.st) / R.sh.length * R.sh.length + (k - R.st) % R.sh.length = k := by
                  have := Nat.div_add_mod (k - R.st) R.sh.length
                  rw [Nat.mul_comm] at this; omega
                rw [e] at hc
                exact ⟨_, by simp [World.cell?, q2, hc], Kd.at_rel φ _ _⟩
            · cases h
          · cases h
        · cases h
      · cases h
    · cases h
  split at h
  · exact rows h
  · rename_i y hne hy
    simp only [Option.some.injEq] at h; subst h
    rcases hM.cell _ _ hy with e | ⟨i', h1, h2, h3, r2, o2, arr, ty, fz, v, q1, q2, q3, q4⟩
    · exact absurd e hne
    · rw [key_div _ _ hk'] at h1
      rw [hi] at h1; simp only [Option.some.injEq] at h1; subst h1
      rw [hia] at q1; simp only [Option.some.injEq, Prod.mk.injEq] at q1
      obtain ⟨rfl, rfl⟩ := q1
      rw [key_mod _ _ hk'] at q3
      exact ⟨v, by simp [World.cell?, q2, q3], q4⟩
  · exact rows h

theorem rdAll_run (hM : MR w0 may φ μ ρ fr w) {b r o' : Nat} {i : Inf} (hi : φ b = some i) (hia : i.a = some (r, o')) : ∀ (n k : Nat) {l : List At}, rdAll μ ρ b k n = some l →
    ∃ vs : List Value, vs.length = n ∧ (∀ j v, vs[j]? = some v → w.cell? ⟨r, o' + k + j, none⟩ = some v) ∧ All2 (At.rel φ) l vs
  | 0, k, l, h => by simp only [rdAll, Option.some.injEq] at h; subst h; exact ⟨[], rfl, by simp, .nil⟩
  | n + 1, k, l, h => by
    unfold rdAll at h
    split at h
    · rename_i x l' hx hl
      simp only [Option.some.injEq] at h; subst h
      obtain ⟨v, v1, v2⟩ := rdc_run hM hx hi hia
      obtain ⟨vs, s1, s2, s3⟩ := rdAll_run hM hi hia n (k + 1) hl
      refine ⟨v :: vs, by simp [s1], fun j u hj => ?_, .cons v2 s3⟩
      cases j with
      | zero => simp at hj; subst hj; simpa using v1
      | succ j =>
        have := s2 j u (by simpa using hj)
        rw [show o' + k + (j + 1) = o' + (k + 1) + j by omega]; exact this
    · cases h

theorem loadP_run (hM : MR w0 may φ μ ρ fr w) {t : TypeId} {b off : Nat} {lv : LV} {v : Value} (h : loadP P μ ρ t b off = some lv) (hv : prel φ (b, off) v) :
    ∃ r o' u, v = .pointer (some ⟨r, o', none⟩) ∧ (loadVar t ⟨r, o', none⟩).run P w = .ok u w ∧ lv.rel φ u := by
  obtain ⟨_, i, hi, _, hR⟩ := hv
  have ver : ∀ hd, cur ρ b 0 = some hd → ∃ r o', i.a = some (r, o') ∧ v = .pointer (some ⟨r, o' + off, none⟩) := by
    intro hd hc
    obtain ⟨h1, h2⟩ := cur_spec hc
    obtain ⟨i', g1, g2, _⟩ := hM.hdr b hd h1
    have g1 : φ b = some i' := g1
    rw [hi] at g1; simp only [Option.some.injEq] at g1; subst g1
    exact hR (by rw [g2, h2])
  unfold loadP at h
  split at h
  · rename_i hd n hc hs
    obtain ⟨r, o', ha, hv⟩ := ver hd hc
    obtain ⟨s1, s2⟩ := shape_run hs w
    split at h
    · rename_i l hl
      simp only [Option.some.injEq] at h; subst h
      obtain ⟨vs, q1, q2, q3⟩ := rdAll_run hM hi ha n off hl
      have hc := run_loadCells_list (P := P) w ⟨r, o' + off, none⟩ vs (by
        intro j u hj
        rw [add_eq]; exact q2 j u hj)
      rw [q1] at hc
      exact ⟨r, o' + off, .agg vs.toArray, hv, by simp [loadVar, s1, s2, hc], _, rfl, by simpa using q3⟩
    · cases h
  · rename_i hd n hc hs
    obtain ⟨r, o', ha, hv⟩ := ver hd hc
    obtain ⟨s1, s2⟩ := shape_run hs w
    split at h
    · rename_i x hx
      simp only [Option.some.injEq] at h; subst h
      obtain ⟨u, q1, q2⟩ := rdc_run hM hx hi ha
      exact ⟨r, o' + off, u, hv, by simp [loadVar, s1, q1], q2⟩
    · cases h
  · cases h

theorem col_run (hM : MR w0 may φ μ ρ fr w) {b e r o' : Nat} {inf : Inf} (hi : φ b = some inf) (hia : inf.a = some (r, o')) : ∀ (n k : Nat) {l : List At}, col μ ρ b e k n = some l →
    l.length = n ∧ ∃ vs : List Value, vs.length = n ∧ (∀ p v, vs[p]? = some v → w.cell? ⟨r, o' + (k + p * e), none⟩ = some v) ∧ All2 (At.rel φ) l vs
  | 0, k, l, h => by simp only [col, Option.some.injEq] at h; subst h; exact ⟨rfl, [], rfl, by simp, .nil⟩
  | n + 1, k, l, h => by
    unfold col at h
    split at h
    · rename_i x l' hx hl
      simp only [Option.some.injEq] at h; subst h
      obtain ⟨v, v1, v2⟩ := rdc_run hM hx hi hia
      obtain ⟨s0, vs, s1, s2, s3⟩ := col_run hM hi hia n (k + e) hl
      refine ⟨by simp [s0], v :: vs, by simp [s1], fun p u hp => ?_, .cons v2 s3⟩
      cases p with
      | zero => simp at hp; subst hp; simpa using v1
      | succ p =>
        have := s2 p u (by simpa using hp)
        rw [show k + (p + 1) * e = k + e + p * e by rw [Nat.succ_mul]; omega]; exact this
    · cases h

theorem encs_val' : ∀ {ks : List Kd} {xs : List At} {ns : List Int} {vs : List Value}, encs ks xs = some ns → All2 (At.rel φ) xs vs → ∀ (j : Nat) v k, vs[j]? = some v → ks[j]? = some k → v = k.val (ns.getD j 0)
  | [], [], ns, vs, h, hv, j, v, k, hn, hk => by simp at hk
  | k0 :: ks, x :: xs, ns, vs, h, hv, j, v, k, hn, hk => by
    simp only [encs] at h
    split at h
    · rename_i n l h1 h2
      simp only [Option.some.injEq] at h; subst h
      cases hv with
      | cons r t =>
        cases j with
        | zero =>
          simp at hn hk; subst hn hk
          simpa using encA_val h1 r
        | succ j => simpa using encs_val' h2 t j v k (by simpa using hn) (by simpa using hk)
    · cases h
  | [], _ :: _, ns, vs, h, hv, j, v, k, hn, hk => by simp at hk
  | _ :: _, [], ns, vs, h, hv, j, v, k, hn, hk => by simp [encs] at h

theorem oneCol_rel {l : List At} {kd : Kd} {ns : List Int} {vs : List Value} (h : oneCol l = some (kd, ns)) (hv : All2 (At.rel φ) l vs) {i : Nat} {v : Value} (hi : vs[i]? = some v) : (kd.at (ns.getD i 0)).rel φ v := by
  have hl := hv.length
  unfold oneCol at h
  split at h
  · cases h
  · rename_i x l
    split at h
    · rename_i k hk
      split at h
      · rename_i ns' hn
        simp only [Option.some.injEq, Prod.mk.injEq] at h
        obtain ⟨rfl, rfl⟩ := h
        have hil : i < vs.length := (List.getElem?_eq_some_iff.1 hi).1
        simp only [List.length_cons] at hl
        rw [encs_val' hn hv i v _ hi (by rw [List.getElem?_replicate, if_pos (by omega)])]
        exact Kd.at_rel φ _ _
      · cases h
    · cases h

theorem cols_run (hM : MR w0 may φ μ ρ fr w) {b e r o' i N : Nat} {inf : Inf} (hi : φ b = some inf) (hia : inf.a = some (r, o')) (hiN : i < N) : ∀ (n k : Nat) {l : List At}, cols μ ρ b e i N k n = some l →
    ∃ vs : List Value, vs.length = n ∧ (∀ m v, vs[m]? = some v → w.cell? ⟨r, o' + (k + i * e) + m, none⟩ = some v) ∧ All2 (At.rel φ) l vs
  | 0, k, l, h => by simp only [cols, Option.some.injEq] at h; subst h; exact ⟨[], rfl, by simp, .nil⟩
  | n + 1, k, l, h => by
    unfold cols at h
    split at h
    · rename_i kd ns r' h1 h2
      simp only [Option.some.injEq] at h; subst h
      obtain ⟨c, hc, ho⟩ := Option.bind_eq_some_iff.1 h1
      obtain ⟨c0, us, c1, c2, c3⟩ := col_run hM hi hia N k hc
      have hu : us[i]? = some us[i] := by simp [c1, hiN]
      obtain ⟨vs, s1, s2, s3⟩ := cols_run hM hi hia hiN n (k + 1) h2
      refine ⟨us[i] :: vs, by simp [s1], fun m u hm => ?_, .cons (oneCol_rel ho c3 hu) s3⟩
      cases m with
      | zero => simp at hm; subst hm; simpa using c2 i _ hu
      | succ m =>
        have := s2 m u (by simpa using hm)
        rw [show o' + (k + i * e) + (m + 1) = o' + (k + 1 + i * e) + m by omega]; exact this
    · cases h

/-- Where a pointer into cells stands. -/
theorem prc_place (hM : MR w0 may φ μ ρ fr w) {s : Bool} {b st e i j : Nat} {x : Value} {h : Hd} (hx : At.rel φ (.prw s b 0 st e i j) x) (hc : cur ρ b 0 = some h) :
    ∃ inf r o', φ b = some inf ∧ inf.a = some (r, o') ∧ j < e ∧ x = .pointer (some ⟨r, o' + (st + i * e + j), none⟩) := by
  obtain ⟨h1, h2⟩ := cur_spec hc
  obtain ⟨_, inf, g1, g2, g3⟩ := hx
  obtain ⟨inf', k1, k2, _⟩ := hM.hdr b h h1
  rw [g1] at k1; simp only [Option.some.injEq] at k1; subst k1
  obtain ⟨p1, p2, r, o', p3, p4⟩ := g3 (by rw [k2, h2])
  exact ⟨inf, r, o', g1, p3, p2, p4⟩

theorem loadC_run (hM : MR w0 may φ μ ρ fr w) {t : TypeId} {s : Bool} {b v st e i j : Nat} {obs : List Prop} {lv : LV} {x : Value} (h : loadC P μ ρ t s b v st e i j = some (obs, lv)) (ho : Alls obs) (hx : At.rel φ (.prw s b v st e i j) x) :
    ∃ r o' u, x = .pointer (some ⟨r, o', none⟩) ∧ (loadVar t ⟨r, o', none⟩).run P w = .ok u w ∧ lv.rel φ u := by
  unfold loadC at h
  split at h
  · rename_i hd n hc hs hb
    simp only [Bool.and_eq_true] at hb
    have hv0 := Nat.eq_of_beq_eq_true hb.1
    subst hv0
    obtain ⟨inf, r, o', g1, g2, g3, g4⟩ := prc_place hM hx hc
    obtain ⟨s1, s2⟩ := shape_run hs w
    split at h
    · split at h
      · rename_i l hl
        simp only [Option.some.injEq, Prod.mk.injEq] at h
        obtain ⟨rfl, rfl⟩ := h
        obtain ⟨vs, q1, q2, q3⟩ := cols_run hM g1 g2 ho.1 n (st + j) hl
        have hc := run_loadCells_list (P := P) w ⟨r, o' + (st + i * e + j), none⟩ vs (by
          intro m u hm
          rw [add_eq]
          have := q2 m u hm
          rw [show o' + (st + i * e + j) + m = o' + (st + j + i * e) + m by omega]; exact this)
        rw [q1] at hc
        exact ⟨r, _, .agg vs.toArray, g4, by simp [loadVar, s1, s2, hc], _, rfl, by simpa using q3⟩
      · cases h
    · cases h
  · rename_i hd n hc hs hb
    simp only [Bool.and_eq_true] at hb
    have hv0 := Nat.eq_of_beq_eq_true hb.1
    subst hv0
    obtain ⟨inf, r, o', g1, g2, g3, g4⟩ := prc_place hM hx hc
    obtain ⟨s1, s2⟩ := shape_run hs w
    split at h
    · split at h
      · rename_i y hl
        simp only [Option.some.injEq, Prod.mk.injEq] at h
        obtain ⟨rfl, rfl⟩ := h
        obtain ⟨vs, q1, q2, q3⟩ := cols_run hM g1 g2 ho.1 1 (st + j) hl
        cases q3 with
        | cons q3 t =>
          rename_i u us
          have := q2 0 u (by simp)
          refine ⟨r, _, u, g4, ?_, q3⟩
          rw [show o' + (st + j + i * e) + 0 = o' + (st + i * e + j) by omega] at this
          simp [loadVar, s1, this]
      · cases h
    · cases h
  · cases h

theorem ksAt_get : ∀ (ks : List Kd) (j m : Nat), (ksAt ks j)[m]? = ks[j + m]?
  | ks, 0, m => by simp [ksAt]
  | k :: ks, j + 1, m => by simp only [ksAt]; rw [ksAt_get ks j m, show j + 1 + m = (j + m) + 1 by omega]; simp
  | [], j + 1, m => by simp [ksAt]

theorem atRow_run {l : List (List Int)} {i : Nat} (φ : Phi) (f : Nat → Option Value) : ∀ (n : Nat) (ks : List Kd) (j : Nat) {xs : List At}, atRow l i ks j n = some xs → (∀ m k, ks[m]? = some k → f (j + m) = some (k.val (rget l i (j + m)))) →
    ∃ vs : List Value, vs.length = n ∧ (∀ m v, vs[m]? = some v → f (j + m) = some v) ∧ All2 (At.rel φ) xs vs
  | 0, ks, j, xs, h, hf => by
    simp only [atRow, Option.some.injEq] at h; subst h; exact ⟨[], rfl, by simp, .nil⟩
  | n + 1, [], j, xs, h, hf => by simp [atRow] at h
  | n + 1, k :: ks, j, xs, h, hf => by
    unfold atRow at h
    split at h
    · rename_i r hr
      simp only [Option.some.injEq] at h; subst h
      obtain ⟨vs, v1, v2, v3⟩ := atRow_run φ f n ks (j + 1) hr (fun m k' hm => by
        have := hf (m + 1) k' (by simpa using hm)
        rw [show j + 1 + m = j + (m + 1) by omega]; exact this)
      refine ⟨k.val (rget l i j) :: vs, by simp [v1], fun m v hm => ?_, .cons (Kd.at_rel φ _ _) v3⟩
      cases m with
      | zero => simp at hm; subst hm; have := hf 0 k (by simp); simpa using this
      | succ m => have := v2 m v (by simpa using hm); rw [show j + (m + 1) = j + 1 + m by omega]; exact this
    · cases h

theorem kdEq_spec {k k' : Kd} (h : kdEq k k' = true) : k = k' := by
  cases k <;> cases k' <;> simp [kdEq] at h <;> simp_all

theorem oneKd_spec {ks : List Kd} {k : Kd} (h : oneKd ks = some k) {j : Nat} (hj : j < ks.length) : ks[j]? = some k := by
  cases ks with
  | nil => simp at hj
  | cons k0 r =>
    simp only [oneKd] at h
    split at h
    · rename_i hall
      simp only [Option.some.injEq] at h; subst h
      cases j with
      | zero => simp
      | succ j =>
        have hj' : j < r.length := by simpa using hj
        have := List.all_eq_true.1 hall r[j] (by simp)
        simp [hj', kdEq_spec this]
    · cases h

/-- A row's place in the real memory. -/
theorem prw_place (hM : MR w0 may φ μ ρ fr w) {s : Bool} {b v st e i j : Nat} {x : Value} {h : Hd} {R : Rw} (hx : At.rel φ (.prw s b v st e i j) x) (hr : rowsAt ρ b v st e = some (h, R)) :
    ∃ inf r o' arr ty fz, φ b = some inf ∧ inf.ro = h.ro ∧ inf.v = v ∧ inf.n = R.l.length ∧ inf.a = some (r, o') ∧ w.heap[r]? = some (.cells arr ty fz) ∧ RowsIn arr o' R ∧ i < R.l.length ∧ j < R.sh.length ∧ R.st + R.l.length * R.sh.length ≤ inf.z ∧ x = .pointer (some ⟨r, o' + (R.st + i * R.sh.length + j), none⟩) := by
  obtain ⟨h1, h2, h3, h4, h5⟩ := rowsAt_spec hr
  obtain ⟨_, inf, g1, g2, g3⟩ := hx
  obtain ⟨inf', k1, k2, k3, _, k4⟩ := hM.hdr b h h1
  rw [g1] at k1; simp only [Option.some.injEq] at k1; subst k1
  obtain ⟨k5, k6, k7⟩ := k4 R h3
  obtain ⟨p1, p2, r, o', p3, p4⟩ := g3 (by rw [k2, h2])
  rcases k7 with ⟨k7, _⟩ | ⟨r2, o2, arr, ty, fz, q1, q2, q3, q4⟩
  · rw [p3] at k7; cases k7
  · rw [p3] at q1; simp only [Option.some.injEq, Prod.mk.injEq] at q1
    obtain ⟨rfl, rfl⟩ := q1
    subst h4 h5
    exact ⟨inf, r, o', arr, ty, fz, g1, k3, by rw [k2, h2], k5.symm, p3, q2, q3, by omega, p2, q4, p4⟩

theorem loadR_run (hM : MR w0 may φ μ ρ fr w) {t : TypeId} {s : Bool} {b v st e i j : Nat} {lv : LV} {x : Value} (h : loadR P ρ t s b v st e i j = some lv) (hx : At.rel φ (.prw s b v st e i j) x) :
    ∃ r o' u, x = .pointer (some ⟨r, o', none⟩) ∧ (loadVar t ⟨r, o', none⟩).run P w = .ok u w ∧ lv.rel φ u := by
  unfold loadR at h
  have scalar : ∀ {R : Rw} {hd : Hd} {q : Bool} {n : Nat} {k : Kd}, rowsAt ρ b v st e = some (hd, R) → shape P t = some (false, n) → R.sh[j]? = some k → lv = .a (k.at (rget R.l i j)) →
      ∃ r o' u, x = .pointer (some ⟨r, o', none⟩) ∧ (loadVar t ⟨r, o', none⟩).run P w = .ok u w ∧ lv.rel φ u := by
    intro R hd q n k hr hs hk he
    obtain ⟨inf, r, o', arr, ty, fz, g1, _, _, _, g3, g4, g5, g6, g7, g8, g9⟩ := prw_place hM hx hr
    obtain ⟨s1, s2⟩ := shape_run hs w
    have hc := row_cell g5 g6 hk
    refine ⟨r, _, k.val (rget R.l i j), g9, by simp [loadVar, s1, World.cell?, g4, hc], ?_⟩
    rw [he]; exact Kd.at_rel φ _ _
  split at h
  · rename_i hd R n hr hs
    obtain ⟨inf, r, o', arr, ty, fz, g1, _, _, _, g3, g4, g5, g6, g7, g8, g9⟩ := prw_place hM hx hr
    obtain ⟨s1, s2⟩ := shape_run hs w
    split at h
    · rename_i l hl
      simp only [Option.some.injEq] at h; subst h
      obtain ⟨vs, v1, v2, v3⟩ := atRow_run φ (fun q => arr[o' + (R.st + i * R.sh.length + q)]?) n (ksAt R.sh j) j hl (fun m k hm => by
        rw [ksAt_get] at hm
        exact row_cell g5 g6 hm)
      have hc := run_loadCells_list (P := P) w ⟨r, o' + (R.st + i * R.sh.length + j), none⟩ vs (by
        intro m u hm
        rw [add_eq]
        have := v2 m u hm
        simp only [World.cell?, g4]
        rw [show o' + (R.st + i * R.sh.length + j) + m = o' + (R.st + i * R.sh.length + (j + m)) by omega]
        simpa using this)
      rw [v1] at hc
      exact ⟨r, _, .agg vs.toArray, g9, by simp [loadVar, s1, s2, hc], _, rfl, by simpa using v3⟩
    · cases h
  · rename_i hd R n hr hs
    split at h
    · rename_i k hk
      simp only [Option.some.injEq] at h
      exact scalar (q := false) hr hs hk h.symm
    · cases h
  · rename_i hd R n hr hs
    split at h
    · rename_i k hk
      simp only [Option.some.injEq] at h
      obtain ⟨inf, r, o', arr, ty, fz, g1, _, _, _, g3, g4, g5, g6, g7, g8, g9⟩ := prw_place hM hx hr
      exact scalar (q := false) hr hs (oneKd_spec hk g7) h.symm
    · cases h
  · cases h

end
end Go.Proofs.Ytcdejlgophpdjaa.V
