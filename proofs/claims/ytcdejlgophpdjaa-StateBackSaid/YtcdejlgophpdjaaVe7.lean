/-
  One operation: what the function says of it holds of the real one (first part: '==' and its like; calls).
-/
import Derived.Test.YtcdejlgophpdjaaVe6
import Derived.Laws.Pointers
namespace Go.Proofs.Ytcdejlgophpdjaa.V
open Go Go.RowKit

section
variable {P : Program} {w0 : World} {may : Nat → Prop} {φ : Phi} {σ : Sig} {μ : Mem} {ρ : Hds} {fr : Nat → Prop} {w : World} {a : Act} {o : Oper}

theorem there_spec (hM : MR w0 may φ μ ρ fr w) {p : At} {v : Value} (h : (LV.a p).rel φ v) (ht : there ρ p = true) : ∃ ad, v = .pointer (some ad) := by
  have h : p.rel φ v := h
  cases p with
  | ptr b off =>
    simp only [there] at ht
    split at ht
    · rename_i hd hc
      obtain ⟨c1, c2⟩ := cur_spec hc
      obtain ⟨_, i, hi, _, hR⟩ := h
      obtain ⟨i', g1, g2, _⟩ := hM.hdr b hd c1
      have g1 : φ b = some i' := g1
      have hi : φ b = some i := hi
      rw [hi] at g1; simp only [Option.some.injEq] at g1; subst g1
      obtain ⟨r, o', _, e⟩ := hR (by rw [g2, c2])
      exact ⟨_, e⟩
    · cases ht
  | prw s b v' st e' i j =>
    simp only [there] at ht
    split at ht
    · rename_i hd hc
      obtain ⟨c1, c2⟩ := cur_spec hc
      obtain ⟨_, inf, hi, _, hR⟩ := h
      obtain ⟨i', g1, g2, _⟩ := hM.hdr b hd c1
      rw [hi] at g1; simp only [Option.some.injEq] at g1; subst g1
      obtain ⟨_, _, r, o', _, e⟩ := hR (by rw [g2, c2])
      exact ⟨_, e⟩
    · cases ht
  | _ => simp [there] at ht

theorem fn_inv {f : Nat} {caps : List (Nat × Nat)} {v : Value} (h : (LV.a (.fn f caps)).rel φ v) : ∃ cs : Array Value, v = .func (.func f) #[] cs ∧ All2 (prel φ) caps cs.toList := h

theorem lbin_wp {p : BinOp} {t : TypeId} {x y : Operand} {t2 : TypeId} {obs : List Prop} {lv : LV} {cs : List (Nat × At)} {hs : List (Nat × Hd)} {G : Prop} (e : o.op = .binOp p t x y t2) (h : lbin P σ ρ p t x y o = some (obs, lv, cs, hs)) (ho : Alls obs) (hσ : TRel φ σ a.tmps)
    (hM : MR w0 may φ μ ρ fr w) (same : cs = [] → hs = [] → ∀ v, lv.rel φ v → (execOp a.eval o).run P w = .ok (.value v) w → G) (calmCase : calmOp P σ o = some (obs, lv, cs, hs) → G) : G := by
  unfold lbin at h
  split at h
  · rename_i xs ys hx hy
    have rx := lev_rel hσ hx
    have ry := lev_rel hσ hy
    split at h
    · split at h
      · rename_i b hb
        simp only [Option.some.injEq, Prod.mk.injEq] at h
        obtain ⟨rfl, rfl, rfl, rfl⟩ := h
        obtain ⟨g1, g2⟩ := leqOp_run hb rx ry w .eql x y
        obtain ⟨us, hu, _⟩ := rx
        obtain ⟨vs, hv, _⟩ := ry
        refine same rfl rfl (.bool b) rfl ?_
        simp only [execOp, e, Sem.run_bind, g1, Result.andThen_ok]
        rw [hu, hv] at g2
        rw [hu, hv]
        simp [run_eql_struct, g2]
      · cases h
    · split at h
      · rename_i b hb
        simp only [Option.some.injEq, Prod.mk.injEq] at h
        obtain ⟨rfl, rfl, rfl, rfl⟩ := h
        obtain ⟨g1, g2⟩ := leqOp_run hb rx ry w .neq x y
        obtain ⟨us, hu, _⟩ := rx
        obtain ⟨vs, hv, _⟩ := ry
        refine same rfl rfl (.bool (!b)) rfl ?_
        simp only [execOp, e, Sem.run_bind, g1, Result.andThen_ok]
        rw [hu, hv] at g2
        rw [hu, hv]
        simp [run_neq_struct, g2]
      · cases h
    · cases h
  · rename_i s k n s' k' m hx hy
    have rx : a.eval x = .int k n := lev_rel hσ hx
    have ry : a.eval y = .int k' m := lev_rel hσ hy
    split at h
    · split at h
      · rename_i obs' hk hd
        simp only [Option.some.injEq, Prod.mk.injEq] at h
        obtain ⟨rfl, rfl, rfl, rfl⟩ := h
        have hk' := of_decide_eq_true hk
        subst hk'
        have hm := divOK_spec hd ho
        refine same rfl rfl (.int k _) rfl ?_
        simp [execOp, e, rx, ry, eqGuard, binOp, Op.intDiv, hm]
      · cases h
    · split at h
      · rename_i obs' hk hd
        simp only [Option.some.injEq, Prod.mk.injEq] at h
        obtain ⟨rfl, rfl, rfl, rfl⟩ := h
        have hk' := of_decide_eq_true hk
        subst hk'
        have hm := divOK_spec hd ho
        refine same rfl rfl (.int k _) rfl ?_
        simp [execOp, e, rx, ry, eqGuard, binOp, Op.intDiv, hm]
      · cases h
    · split at h
      · rename_i obs' hd
        simp only [Option.some.injEq, Prod.mk.injEq] at h
        obtain ⟨rfl, rfl, rfl, rfl⟩ := h
        have hm := shOK_spec hd ho
        have hm' : ¬ m < 0 := by omega
        refine same rfl rfl (.int k _) rfl ?_
        simp [execOp, e, rx, ry, eqGuard, binOp, Op.shift, hm']
      · cases h
    · split at h
      · rename_i obs' hd
        simp only [Option.some.injEq, Prod.mk.injEq] at h
        obtain ⟨rfl, rfl, rfl, rfl⟩ := h
        have hm := shOK_spec hd ho
        have hm' : ¬ m < 0 := by omega
        refine same rfl rfl (.int k _) rfl ?_
        simp [execOp, e, rx, ry, eqGuard, binOp, Op.shift, hm']
      · cases h
    · exact calmCase h
  · rename_i p' hx hy
    split at h
    · rename_i e' ht hu
      simp only [Option.some.injEq, Prod.mk.injEq] at h
      obtain ⟨rfl, rfl, rfl, rfl⟩ := h
      obtain ⟨ad, had⟩ := there_spec hM (lev_rel hσ hx) ht
      have hyv : a.eval y = .pointer none := lev_rel hσ hy
      refine same rfl rfl (.bool false) rfl ?_
      have hpt : P.underlying t = some (.pointer (P.pointee t)) := by rw [hu]; simp [Program.pointee, hu]
      have := run_eql_pointer_nil (P := P) w t (some ad) hpt
      simp only [execOp, e, hyv, had, Sem.run_bind]
      simp [eqGuard, this]
    · rename_i e' ht hu
      simp only [Option.some.injEq, Prod.mk.injEq] at h
      obtain ⟨rfl, rfl, rfl, rfl⟩ := h
      obtain ⟨ad, had⟩ := there_spec hM (lev_rel hσ hx) ht
      have hyv : a.eval y = .pointer none := lev_rel hσ hy
      refine same rfl rfl (.bool true) rfl ?_
      have hpt : P.underlying t = some (.pointer (P.pointee t)) := by rw [hu]; simp [Program.pointee, hu]
      have := run_neq_pointer_nil (P := P) w t (some ad) hpt
      simp only [execOp, e, hyv, had, Sem.run_bind]
      simp [eqGuard, this]
    · exact calmCase h
  · exact calmCase h

theorem levs_ren {foot : List Nat} {ψ : Phi} (hm : ∀ b v i, renB ρ foot b v = some i → Moves φ ψ b v i 0) {l : List LV} {vs : List Value} (h : All2 (LV.rel φ) l vs) : All2 (LV.rel ψ) (l.map (renV ρ foot)) vs := by
  induction h with
  | nil => exact .nil
  | cons x _ ih => exact .cons (renV_rel hm x) ih

theorem lcallF_wp {T : Tab} (hT : TOK P T) {id : Nat} {foot : List Nat} {x : Operand} {as : Array Operand} {ts : Array TypeId} {obs : List Prop} {lv : LV} {cs : List (Nat × At)} {hs : List (Nat × Hd)} (e : o.op = .call ⟨.value x, as, ts⟩) (h : lcallF T id foot σ μ ρ x as.toList = some (obs, lv, cs, hs)) (ho : Alls obs)
    (hσ : TRel φ σ a.tmps) (hM : MR w0 may φ μ ρ fr w) (hid : ∀ j, j < 16 → fr (id + j)) {next : Act → World → Prop} {Q : Exit → Act → World → Prop}
    (hn : ∀ φ' v w', φ.le φ' → lv.rel φ' v → MR w0 may φ' (updL μ cs) (updL ρ hs) (fun b => fr b ∧ ∀ j, j < 16 → b ≠ id + j) w' → next (a.put o.dst v) w') : o.wp P a w next Q := by
  unfold lcallF at h
  split at h
  case h_2 => cases h
  rename_i f caps args hf ha
  split at h
  case h_2 => cases h
  rename_i bs hbs hnd
  split at h
  case h_2 => cases h
  rename_i obs' v out hfind
  split at h
  case h_2 => cases h
  rename_i v' hc hu
  simp only [Bool.and_eq_true] at hc
  obtain ⟨⟨⟨⟨hc1, hc2⟩, hc3⟩, hc4⟩, hc5⟩ := hc
  cases hbk : backBlks ρ foot id 0 out with
  | mk cs' hs' =>
  rw [hbk] at h
  simp only [Option.some.injEq, Prod.mk.injEq] at h
  obtain ⟨rfl, rfl, rfl, rfl⟩ := h
  obtain ⟨con, hcm, hcon⟩ := find_mem hfind
  obtain ⟨hent, hok⟩ := hT _ hcm
  obtain ⟨cv, hfv, hcs⟩ := fn_inv (lev_rel hσ hf)
  have hargs := levs_rel hσ ha
  have hall : All2 (LV.rel φ) (args ++ caps.map fun p => .a (.ptr p.1 p.2)) (as.map a.eval ++ cv).toList := by
    rw [Array.toList_append, Array.toList_map]
    exact hargs.append (caps_rel hcs)
  have hren := levs_ren (ren_moves (out := out) hM (foot := foot)) hall
  have hcall := hok _ _ _ _ _ hcon ho _ _ w _ hren (callee_mr hM hbs hnd)
  refine wp_enter (f := f) (args := as.map a.eval ++ cv) (w' := w) ?_ hcall ?_
  · have := calm_run _ (hent (as.map a.eval ++ cv)) w
    simp only [execOp, e, resolve, hfv, Deferred.ofValue, invoke, Sem.run_bind, Array.empty_append]
    simpa using this
  · rintro e' w'' ⟨v', ψ, rfl, hle, hv, hm⟩
    obtain ⟨k1, k2, k3⟩ := caller_mr hM hbs hnd hc1 hc2 hc3 (Nat.le_of_ble_eq_true hc4) hc5 hid hle hm hbk
    exact ⟨v', rfl, hn _ v' w'' k1 (backT_rel k2 hu hv) k3⟩

theorem lappend_wp {id : Nat} {x y : Operand} {tx ty : TypeId} {obs : List Prop} {lv : LV} {cs : List (Nat × At)} {hs : List (Nat × Hd)} (e : o.op = .call ⟨.builtin .append, #[x, y], #[tx, ty]⟩) (h : lappend P id σ μ ρ x y tx ty = some (obs, lv, cs, hs)) (ho : Alls obs)
    (hσ : TRel φ σ a.tmps) (hM : MR w0 may φ μ ρ fr w) (hid : fr id) {next : Act → World → Prop} {Q : Exit → Act → World → Prop}
    (hn : ∀ φ' v w', φ.le φ' → lv.rel φ' v → MR w0 may φ' (updL μ cs) (updL ρ hs) (fun b => fr b ∧ b ≠ id) w' → next (a.put o.dst v) w') : o.wp P a w next Q := by
  unfold lappend at h
  split at h
  case h_2 => cases h
  rename_i el el' vx vy hux huy hvx hvy
  split at h
  case h_2 => cases h
  rename_i zs ie hz hie
  split at h
  case h_2 => cases h
  rename_i sh hsh hb
  simp only [Bool.and_eq_true] at hb
  obtain ⟨⟨⟨⟨b1, b2⟩, b3⟩, b4⟩, b5⟩ := hb
  have b1 := Nat.eq_of_beq_eq_true b1
  have b2 := Nat.eq_of_beq_eq_true b2
  have b3 := Nat.le_of_ble_eq_true b3
  have b4 := Nat.eq_of_beq_eq_true b4
  have b5 := Nat.le_of_ble_eq_true b5
  subst b2
  split at h
  case h_2 => cases h
  rename_i new hnew
  have hlen : ∀ {l : List At} {ks : List Kd}, kdsOf l = some ks → ks.length = l.length := by
    intro l
    induction l with
    | nil => intro ks hk; simp only [kdsOf, Option.some.injEq] at hk; subst hk; rfl
    | cons q r ih =>
      intro ks hk
      unfold kdsOf at hk
      split at hk
      · rename_i k ks' h1 h2
        simp only [Option.some.injEq] at hk; subst hk
        simp [ih h2]
      · cases hk
  have hsl := hlen hsh
  obtain ⟨zv, _, hzr, ie', hie', hzz⟩ := zero_run hz φ w
  rw [hie] at hie'; simp only [Option.some.injEq] at hie'; subst hie'
  have hzl := hzr.length
  have hsz : sh.length = ie.size := by omega
  have hsrc : ∃ vs, RowVals sh new vs ∧ Srcs P tx tx o.type el ie zv w (a.eval y) new.length vs := by
    rcases src_run hM hnew (lev_rel hσ hvy) with ⟨rfl, a', c', e'⟩ | ⟨a', c', vs, e', q1, q2⟩
    · exact ⟨[], RowVals.nil sh, by rw [e']; exact Srcs.of_none hux hie a' c'⟩
    · exact ⟨vs, q1, by rw [e']; exact Srcs.of_slice hux hie hzz a' _ c' vs (by rw [q1.1, hsz]) q2⟩
  obtain ⟨vs, hvs, hsr⟩ := hsrc
  obtain ⟨u, w', φ', r1, r2, r3, r4⟩ := grow_run (P := P) hM hid h ho (t := tx) (ty := o.type) hux hie hzz (by omega) (by simp at hzl; omega) hsl.symm rfl (by omega) b5 (lev_rel hσ hvx) hvs hsr
  refine wp_value (v := u) (w' := w') ?_ (hn φ' u w' r2 r3 r4)
  simp [execOp, e, resolve, invoke, builtin, r1]

theorem zero_rows {sh : List Kd} {row : List Int} {zs : List At} {zv : Value} (hrow : encs sh zs = some row) (hz : All2 (At.rel φ) zs zv.cells.toList) (m : Nat) : RowVals sh (List.replicate m row) (Builtin.zeroCells zv.cells m).toList := by
  obtain ⟨e1, e2⟩ := encs_len hrow
  have hl := hz.length
  have hsz : zv.cells.size = sh.length := by simpa [e2] using hl.symm
  refine ⟨by rw [Array.length_toList, size_zeroCells, hsz, List.length_replicate], fun p r hp => ?_⟩
  have hr : r = row := by
    have := List.mem_of_getElem? hp
    exact (List.mem_replicate.1 this).2
  have hpm : p < m := by simpa using (List.getElem?_eq_some_iff.1 hp).1
  subst hr
  refine ⟨e1, fun j n k hj hk => ?_⟩
  have hjl : j < sh.length := (List.getElem?_eq_some_iff.1 hk).1
  have hlt : p * sh.length + j < m * sh.length := by
    have : p * sh.length + sh.length ≤ m * sh.length := by rw [← Nat.succ_mul]; exact Nat.mul_le_mul_right _ hpm
    omega
  have hc := encs_val hrow hz j n k hj hk
  have hmod : (p * sh.length + j) % sh.length = j := by
    rw [Nat.mul_comm, Nat.mul_add_mod, Nat.mod_eq_of_lt hjl]
  have hc' : zv.cells[j]? = some (k.val n) := by simpa using hc
  unfold Builtin.zeroCells
  rw [Array.getElem?_toList, Array.getElem?_map, hsz, Array.getElem?_range, if_pos hlt]
  show some (zv.cells[(p * sh.length + j) % sh.length]!) = _
  rw [hmod, getElem!_def, hc']

theorem lappendZ_wp {id : Nat} {x y : Operand} {tx ty : TypeId} {obs : List Prop} {lv : LV} {cs : List (Nat × At)} {hs : List (Nat × Hd)} (e : o.op = .call ⟨.builtin .append, #[x, y], #[tx, ty]⟩) (h : lappendZ P id σ ρ x y tx ty = some (obs, lv, cs, hs)) (ho : Alls obs)
    (hσ : TRel φ σ a.tmps) (hM : MR w0 may φ μ ρ fr w) (hid : fr id) {next : Act → World → Prop} {Q : Exit → Act → World → Prop}
    (hn : ∀ φ' v w', φ.le φ' → lv.rel φ' v → MR w0 may φ' (updL μ cs) (updL ρ hs) (fun b => fr b ∧ b ≠ id) w' → next (a.put o.dst v) w') : o.wp P a w next Q := by
  unfold lappendZ at h
  split at h
  case h_2 => cases h
  rename_i el kk vx q1 q2 m hux huy hvx hvy
  split at h
  case h_2 => cases h
  rename_i zs ie hz hie
  split at h
  case h_2 => cases h
  rename_i sh hsh hb
  simp only [Bool.and_eq_true] at hb
  have b1 := Nat.le_of_ble_eq_true hb.1.1
  have b2 := Nat.eq_of_beq_eq_true hb.1.2
  have b3 := Nat.le_of_ble_eq_true hb.2
  split at h
  case h_2 => cases h
  rename_i row hrow
  split at h
  case h_2 => cases h
  rename_i obs' r hg
  simp only [Option.some.injEq, Prod.mk.injEq] at h
  obtain ⟨rfl, rfl⟩ := h
  obtain ⟨h0, ho⟩ := ho
  obtain ⟨e1, e2⟩ := encs_len hrow
  obtain ⟨zv, _, hzr, ie', hie', hzz⟩ := zero_run hz φ w
  rw [hie] at hie'; simp only [Option.some.injEq] at hie'; subst hie'
  have hzl := hzr.length
  have hzs : zv.cells.size = ie.size := by simp at hzl; omega
  have hm : m ≤ 140737488355328 := by
    have key : ∀ (l : List (List Int)), (l ++ List.replicate m.toNat row).length * ie.bytes ≤ 70368744177664 → m ≤ 140737488355328 := fun l hl => by
      have h1 : m.toNat ≤ (l ++ List.replicate m.toNat row).length := by simp
      have h2 : m.toNat * 1 ≤ (l ++ List.replicate m.toNat row).length * ie.bytes := Nat.mul_le_mul h1 b3
      omega
    unfold grow at hg
    split at hg
    · simp only [Option.some.injEq, Prod.mk.injEq] at hg
      obtain ⟨rfl, _⟩ := hg
      exact key [] ho.1
    · split at hg
      case h_2 => cases hg
      split at hg
      case h_2 => cases hg
      simp only [Option.some.injEq, Prod.mk.injEq] at hg
      obtain ⟨rfl, _⟩ := hg
      exact key _ ho.1
    · cases hg
  have hyv : a.eval y = .int q2 m := lev_rel hσ hvy
  have hsr := Srcs.of_zeros (P := P) (w := w) (ty := o.type) (k := q2) hux huy hie hzz hzs (by omega) b3 m h0 hm
  have hvs := zero_rows (sh := sh) hrow hzr m.toNat
  obtain ⟨u, w', φ', r1, r2, r3, r4⟩ := grow_run (P := P) hM hid hg ho (t := tx) (tx := ty) (ty := o.type) hux hie hzz (by omega) (by omega) (by omega) rfl (by omega) b3 (lev_rel hσ hvx) hvs (by rw [List.length_replicate]; exact hsr)
  refine wp_value (v := u) (w' := w') ?_ (hn φ' u w' r2 r3 r4)
  simp [execOp, e, resolve, invoke, builtin, hyv, r1]

end
end Go.Proofs.Ytcdejlgophpdjaa.V
