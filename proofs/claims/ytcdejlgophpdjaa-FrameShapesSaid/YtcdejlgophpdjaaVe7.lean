/-
  One operation: what the function says of it holds of the real one (first part: '==' and its like; calls).
-/
import Derived.Laws.Cover3
import Derived.Test.YtcdejlgophpdjaaVe6
import Derived.Laws.Pointers
namespace Go.Proofs.Ytcdejlgophpdjaa.V
open Go Go.RowKit

section
variable {P : Program} {w0 : World} {may : Nat → Prop} {φ : Phi} {σ : Sig} {μ : Mem} {ρ : Hds} {fr : Nat → Prop} {w : World} {a : Act} {o : Oper}

theorem there_spec (hM : MR w0 may φ μ ρ fr w) {p : At} {v : Value} (h : (LV.a p).rel φ v) (ht : there ρ p = true) : ∃ ad, v = .pointer (some ad) := by
  have h : p.rel φ v := h
  cases p with
  | ptr b off =>
    simp only [there] at ht
    split at ht
    · rename_i hd hc
      obtain ⟨c1, c2⟩ := cur_spec hc
      obtain ⟨_, i, hi, _, hR⟩ := h
      obtain ⟨i', g1, g2, _⟩ := hM.hdr b hd c1
      have g1 : φ b = some i' := g1
      have hi : φ b = some i := hi
      rw [hi] at g1; simp only [Option.some.injEq] at g1; subst g1
      obtain ⟨r, o', _, e⟩ := hR (by rw [g2, c2])
      exact ⟨_, e⟩
    · cases ht
  | prw s b v' st e' i j =>
    simp only [there] at ht
    split at ht
    · rename_i hd hc
      obtain ⟨c1, c2⟩ := cur_spec hc
      obtain ⟨_, inf, hi, _, hR⟩ := h
      obtain ⟨i', g1, g2, _⟩ := hM.hdr b hd c1
      rw [hi] at g1; simp only [Option.some.injEq] at g1; subst g1
      obtain ⟨_, _, r, o', _, e⟩ := hR (by rw [g2, c2])
      exact ⟨_, e⟩
    · cases ht
  | _ => simp [there] at ht

theorem fn_inv {f : Nat} {caps : List (Nat × Nat)} {v : Value} (h : (LV.a (.fn f caps)).rel φ v) : ∃ cs : Array Value, v = .func (.func f) #[] cs ∧ All2 (prel φ) caps cs.toList := h

theorem lnils_spec (hM : MR w0 may φ μ ρ fr w) {p : BinOp} {t : TypeId} {q : At} {v : Value} {obs : List Prop} {lv : LV} {cs : List (Nat × At)} {hs : List (Nat × Hd)} (h : lnils P ρ p t q = some (obs, lv, cs, hs)) (ho : Alls obs) (hv : (LV.a q).rel φ v) :
    ∃ el r n c, P.underlying t = some (.slice el) ∧ v = .slice (some r) n c ∧ cs = [] ∧ hs = [] ∧ ((p = .eql ∧ lv = .a (.bool false false)) ∨ (p = .neq ∧ lv = .a (.bool false true))) := by
  have hvec : ∀ {b ver e : Nat} {hd : Hd} {R : Rw}, q = .vec b ver e → rowsAt ρ b ver 0 e = some (hd, R) → R.l.length ≠ 0 → ∃ r n c, v = .slice (some r) n c := by
    intro b ver e hd R hq hr hl
    subst hq
    obtain ⟨c1, c2, c3, _, _⟩ := rowsAt_spec hr
    obtain ⟨_, i, g1, _, g3⟩ := hv
    obtain ⟨i', k1, k2, _, _, k5⟩ := hM.hdr b hd c1
    rw [g1] at k1; simp only [Option.some.injEq] at k1; subst k1
    rcases g3 (by rw [k2, c2]) with ⟨_, e2, _⟩ | ⟨r, o', cap, _, e2, _⟩
    · exact absurd ((k5 R c3).1.trans e2) hl
    · exact ⟨_, _, _, e2⟩
  have hslc : ∀ {s : Bool} {b ver st e off n : Nat} {hd : Hd}, q = .slc s b ver st e off n → cur ρ b ver = some hd → n ≠ 0 → ∃ r n c, v = .slice (some r) n c := by
    intro s b ver st e off n hd hq hc hn
    subst hq
    obtain ⟨c1, c2⟩ := cur_spec hc
    obtain ⟨_, i, g1, _, g3⟩ := hv
    obtain ⟨i', k1, k2, _⟩ := hM.hdr b hd c1
    rw [g1] at k1; simp only [Option.some.injEq] at k1; subst k1
    obtain ⟨_, a', cap, e2, _, e3⟩ := g3 (by rw [k2, c2])
    rcases e3 with e3 | ⟨r, o', _, e3⟩
    · exact absurd e3 hn
    · exact ⟨_, _, _, by rw [e2, e3]⟩
  unfold lnils at h
  split at h
  · split at h
    · rename_i hr hu
      simp only [Option.some.injEq, Prod.mk.injEq] at h
      obtain ⟨rfl, rfl, rfl, rfl⟩ := h
      obtain ⟨r, n, c, hh⟩ := hvec rfl hr ho.1
      exact ⟨_, r, n, c, hu, hh, rfl, rfl, .inl ⟨rfl, rfl⟩⟩
    · rename_i hr hu
      simp only [Option.some.injEq, Prod.mk.injEq] at h
      obtain ⟨rfl, rfl, rfl, rfl⟩ := h
      obtain ⟨r, n, c, hh⟩ := hvec rfl hr ho.1
      exact ⟨_, r, n, c, hu, hh, rfl, rfl, .inr ⟨rfl, rfl⟩⟩
    · cases h
  · split at h
    · rename_i hc hu
      simp only [Option.some.injEq, Prod.mk.injEq] at h
      obtain ⟨rfl, rfl, rfl, rfl⟩ := h
      obtain ⟨r, n, c, hh⟩ := hslc rfl hc ho.1
      exact ⟨_, r, n, c, hu, hh, rfl, rfl, .inl ⟨rfl, rfl⟩⟩
    · rename_i hc hu
      simp only [Option.some.injEq, Prod.mk.injEq] at h
      obtain ⟨rfl, rfl, rfl, rfl⟩ := h
      obtain ⟨r, n, c, hh⟩ := hslc rfl hc ho.1
      exact ⟨_, r, n, c, hu, hh, rfl, rfl, .inr ⟨rfl, rfl⟩⟩
    · cases h
  · cases h

theorem lbin_wp {p : BinOp} {t : TypeId} {x y : Operand} {t2 : TypeId} {obs : List Prop} {lv : LV} {cs : List (Nat × At)} {hs : List (Nat × Hd)} {G : Prop} (e : o.op = .binOp p t x y t2) (h : lbin P σ ρ p t x y o = some (obs, lv, cs, hs)) (ho : Alls obs) (hσ : TRel φ σ a.tmps)
    (hM : MR w0 may φ μ ρ fr w) (same : cs = [] → hs = [] → ∀ v, lv.rel φ v → (execOp a.eval o).run P w = .ok (.value v) w → G) (calmCase : calmOp P σ o = some (obs, lv, cs, hs) → G) : G := by
  unfold lbin at h
  split at h
  · rename_i xs ys hx hy
    have rx := lev_rel hσ hx
    have ry := lev_rel hσ hy
    split at h
    · split at h
      · rename_i b hb
        simp only [Option.some.injEq, Prod.mk.injEq] at h
        obtain ⟨rfl, rfl, rfl, rfl⟩ := h
        obtain ⟨g1, g2⟩ := leqOp_run hb rx ry w .eql x y
        obtain ⟨us, hu, _⟩ := rx
        obtain ⟨vs, hv, _⟩ := ry
        refine same rfl rfl (.bool b) rfl ?_
        simp only [execOp, e, Sem.run_bind, g1, Result.andThen_ok]
        rw [hu, hv] at g2
        rw [hu, hv]
        simp [run_eql_struct, g2]
      · cases h
    · split at h
      · rename_i b hb
        simp only [Option.some.injEq, Prod.mk.injEq] at h
        obtain ⟨rfl, rfl, rfl, rfl⟩ := h
        obtain ⟨g1, g2⟩ := leqOp_run hb rx ry w .neq x y
        obtain ⟨us, hu, _⟩ := rx
        obtain ⟨vs, hv, _⟩ := ry
        refine same rfl rfl (.bool (!b)) rfl ?_
        simp only [execOp, e, Sem.run_bind, g1, Result.andThen_ok]
        rw [hu, hv] at g2
        rw [hu, hv]
        simp [run_neq_struct, g2]
      · cases h
    · cases h
  · rename_i s k n s' k' m hx hy
    have rx : a.eval x = .int k n := lev_rel hσ hx
    have ry : a.eval y = .int k' m := lev_rel hσ hy
    split at h
    · split at h
      · rename_i obs' hk hd
        simp only [Option.some.injEq, Prod.mk.injEq] at h
        obtain ⟨rfl, rfl, rfl, rfl⟩ := h
        have hk' := of_decide_eq_true hk
        subst hk'
        have hm := divOK_spec hd ho
        refine same rfl rfl (.int k _) rfl ?_
        simp [execOp, e, rx, ry, eqGuard, binOp, Op.intDiv, hm]
      · cases h
    · split at h
      · rename_i obs' hk hd
        simp only [Option.some.injEq, Prod.mk.injEq] at h
        obtain ⟨rfl, rfl, rfl, rfl⟩ := h
        have hk' := of_decide_eq_true hk
        subst hk'
        have hm := divOK_spec hd ho
        refine same rfl rfl (.int k _) rfl ?_
        simp [execOp, e, rx, ry, eqGuard, binOp, Op.intDiv, hm]
      · cases h
    · split at h
      · rename_i obs' hd
        simp only [Option.some.injEq, Prod.mk.injEq] at h
        obtain ⟨rfl, rfl, rfl, rfl⟩ := h
        have hm := shOK_spec hd ho
        have hm' : ¬ m < 0 := by omega
        refine same rfl rfl (.int k _) rfl ?_
        simp [execOp, e, rx, ry, eqGuard, binOp, Op.shift, hm']
      · cases h
    · split at h
      · rename_i obs' hd
        simp only [Option.some.injEq, Prod.mk.injEq] at h
        obtain ⟨rfl, rfl, rfl, rfl⟩ := h
        have hm := shOK_spec hd ho
        have hm' : ¬ m < 0 := by omega
        refine same rfl rfl (.int k _) rfl ?_
        simp [execOp, e, rx, ry, eqGuard, binOp, Op.shift, hm']
      · cases h
    · exact calmCase h
  · rename_i p' hx hy
    split at h
    · rename_i r hr
      rw [h] at hr
      obtain ⟨el, ad, n, c, hu, had, rfl, rfl, hp⟩ := lnils_spec hM hr ho (lev_rel hσ hx)
      have hyv : a.eval y = .slice none 0 0 := lev_rel hσ hy
      rcases hp with ⟨rfl, rfl⟩ | ⟨rfl, rfl⟩
      · refine same rfl rfl (.bool false) rfl ?_
        have := run_equal_slice_nil (P := P) w t el (some ad) n c hu
        simp only [execOp, e, hyv, had, Sem.run_bind]
        simp [eqGuard, binOp, this]
      · refine same rfl rfl (.bool true) rfl ?_
        have := run_neq_slice_nil (P := P) w t el (some ad) n c hu
        simp only [execOp, e, hyv, had, Sem.run_bind]
        simp [eqGuard, this]
    · exact calmCase h
  · rename_i p' hx hy
    split at h
    · rename_i e' ht hu
      simp only [Option.some.injEq, Prod.mk.injEq] at h
      obtain ⟨rfl, rfl, rfl, rfl⟩ := h
      obtain ⟨ad, had⟩ := there_spec hM (lev_rel hσ hx) ht
      have hyv : a.eval y = .pointer none := lev_rel hσ hy
      refine same rfl rfl (.bool false) rfl ?_
      have hpt : P.underlying t = some (.pointer (P.pointee t)) := by rw [hu]; simp [Program.pointee, hu]
      have := run_eql_pointer_nil (P := P) w t (some ad) hpt
      simp only [execOp, e, hyv, had, Sem.run_bind]
      simp [eqGuard, this]
    · rename_i e' ht hu
      simp only [Option.some.injEq, Prod.mk.injEq] at h
      obtain ⟨rfl, rfl, rfl, rfl⟩ := h
      obtain ⟨ad, had⟩ := there_spec hM (lev_rel hσ hx) ht
      have hyv : a.eval y = .pointer none := lev_rel hσ hy
      refine same rfl rfl (.bool true) rfl ?_
      have hpt : P.underlying t = some (.pointer (P.pointee t)) := by rw [hu]; simp [Program.pointee, hu]
      have := run_neq_pointer_nil (P := P) w t (some ad) hpt
      simp only [execOp, e, hyv, had, Sem.run_bind]
      simp [eqGuard, this]
    · exact calmCase h
  · exact calmCase h

theorem levs_ren {foot : List Nat} {ψ : Phi} (hm : ∀ b v i, renB ρ foot b v = some i → Moves φ ψ b v i 0) {l : List LV} {vs : List Value} (h : All2 (LV.rel φ) l vs) : All2 (LV.rel ψ) (l.map (renV ρ foot)) vs := by
  induction h with
  | nil => exact .nil
  | cons x _ ih => exact .cons (renV_rel hm x) ih

theorem lcallF_wp {T : Tab} (hT : TOK P T) {id : Nat} {foot : List Nat} {x : Operand} {as : Array Operand} {ts : Array TypeId} {obs : List Prop} {lv : LV} {cs : List (Nat × At)} {hs : List (Nat × Hd)} (e : o.op = .call ⟨.value x, as, ts⟩) (h : lcallF T id foot σ μ ρ x as.toList = some (obs, lv, cs, hs)) (ho : Alls obs)
    (hσ : TRel φ σ a.tmps) (hM : MR w0 may φ μ ρ fr w) (hid : ∀ j, j < 16 → fr (id + j)) {next : Act → World → Prop} {Q : Exit → Act → World → Prop}
    (hn : ∀ φ' v w', φ.le φ' → lv.rel φ' v → MR w0 may φ' (updL μ cs) (updL ρ hs) (fun b => fr b ∧ ∀ j, j < 16 → b ≠ id + j) w' → next (a.put o.dst v) w') : o.wp P a w next Q := by
  unfold lcallF at h
  split at h
  case h_2 => cases h
  rename_i f caps args hf ha
  split at h
  case h_2 => cases h
  rename_i bs hbs hnd
  split at h
  case h_2 => cases h
  rename_i obs' v out hfind
  split at h
  case h_2 => cases h
  rename_i v' hc hu
  simp only [Bool.and_eq_true] at hc
  obtain ⟨⟨⟨⟨hc1, hc2⟩, hc3⟩, hc4⟩, hc5⟩ := hc
  cases hbk : backBlks ρ foot id 0 out with
  | mk cs' hs' =>
  rw [hbk] at h
  simp only [Option.some.injEq, Prod.mk.injEq] at h
  obtain ⟨rfl, rfl, rfl, rfl⟩ := h
  obtain ⟨con, hcm, hcon⟩ := find_mem hfind
  obtain ⟨hent, hok⟩ := hT _ hcm
  obtain ⟨cv, hfv, hcs⟩ := fn_inv (lev_rel hσ hf)
  have hargs := levs_rel hσ ha
  have hall : All2 (LV.rel φ) (args ++ caps.map fun p => .a (.ptr p.1 p.2)) (as.map a.eval ++ cv).toList := by
    rw [Array.toList_append, Array.toList_map]
    exact hargs.append (caps_rel hcs)
  have hren := levs_ren (ren_moves (out := out) hM (foot := foot)) hall
  have hcall := hok _ _ _ _ _ hcon ho _ _ w _ hren (callee_mr hM hbs hnd)
  refine wp_enter (f := f) (args := as.map a.eval ++ cv) (w' := w) ?_ hcall ?_
  · have := calm_run _ (hent (as.map a.eval ++ cv)) w
    simp only [execOp, e, resolve, hfv, Deferred.ofValue, invoke, Sem.run_bind, Array.empty_append]
    simpa using this
  · rintro e' w'' ⟨v', ψ, rfl, hle, hv, hm⟩
    obtain ⟨k1, k2, k3⟩ := caller_mr hM hbs hnd hc1 hc2 hc3 (Nat.le_of_ble_eq_true hc4) hc5 hid hle hm hbk
    exact ⟨v', rfl, hn _ v' w'' k1 (backT_rel k2 hu hv) k3⟩

theorem lappend_wp {id : Nat} {x y : Operand} {tx ty : TypeId} {obs : List Prop} {lv : LV} {cs : List (Nat × At)} {hs : List (Nat × Hd)} (e : o.op = .call ⟨.builtin .append, #[x, y], #[tx, ty]⟩) (h : lappend P id σ μ ρ x y tx ty = some (obs, lv, cs, hs)) (ho : Alls obs)
    (hσ : TRel φ σ a.tmps) (hM : MR w0 may φ μ ρ fr w) (hid : fr id) {next : Act → World → Prop} {Q : Exit → Act → World → Prop}
    (hn : ∀ φ' v w', φ.le φ' → lv.rel φ' v → MR w0 may φ' (updL μ cs) (updL ρ hs) (fun b => fr b ∧ b ≠ id) w' → next (a.put o.dst v) w') : o.wp P a w next Q := by
  unfold lappend at h
  split at h
  case h_2 => cases h
  rename_i el el' vx vy hux huy hvx hvy
  split at h
  case h_2 => cases h
  rename_i zs ie hz hie
  split at h
  case h_2 => cases h
  rename_i sh hsh hb
  simp only [Bool.and_eq_true] at hb
  obtain ⟨⟨⟨⟨b1, b2⟩, b3⟩, b4⟩, b5⟩ := hb
  have b1 := Nat.eq_of_beq_eq_true b1
  have b2 := Nat.eq_of_beq_eq_true b2
  have b3 := Nat.le_of_ble_eq_true b3
  have b4 := Nat.eq_of_beq_eq_true b4
  have b5 := Nat.le_of_ble_eq_true b5
  subst b2
  split at h
  case h_2 => cases h
  rename_i new hnew
  have hlen : ∀ {l : List At} {ks : List Kd}, kdsOf l = some ks → ks.length = l.length := by
    intro l
    induction l with
    | nil => intro ks hk; simp only [kdsOf, Option.some.injEq] at hk; subst hk; rfl
    | cons q r ih =>
      intro ks hk
      unfold kdsOf at hk
      split at hk
      · rename_i k ks' h1 h2
        simp only [Option.some.injEq] at hk; subst hk
        simp [ih h2]
      · cases hk
  have hsl := hlen hsh
  obtain ⟨zv, _, hzr, ie', hie', hzz⟩ := zero_run hz φ w
  rw [hie] at hie'; simp only [Option.some.injEq] at hie'; subst hie'
  have hzl := hzr.length
  have hsz : sh.length = ie.size := by omega
  have hsrc : ∃ vs, RowVals sh new vs ∧ Srcs P tx tx o.type el ie zv w (a.eval y) new.length vs := by
    rcases src_run hM hnew (lev_rel hσ hvy) with ⟨rfl, a', c', e'⟩ | ⟨a', c', vs, e', q1, q2⟩
    · exact ⟨[], RowVals.nil sh, by rw [e']; exact Srcs.of_none hux hie a' c'⟩
    · exact ⟨vs, q1, by rw [e']; exact Srcs.of_slice hux hie hzz a' _ c' vs (by rw [q1.1, hsz]) q2⟩
  obtain ⟨vs, hvs, hsr⟩ := hsrc
  obtain ⟨u, w', φ', r1, r2, r3, r4⟩ := grow_run (P := P) hM hid h ho (t := tx) (ty := o.type) hux hie hzz (by omega) (by simp at hzl; omega) hsl.symm rfl (by omega) b5 (lev_rel hσ hvx) hvs hsr
  refine wp_value (v := u) (w' := w') ?_ (hn φ' u w' r2 r3 r4)
  simp [execOp, e, resolve, invoke, builtin, r1]

theorem zero_rows {sh : List Kd} {row : List Int} {zs : List At} {zv : Value} (hrow : encs sh zs = some row) (hz : All2 (At.rel φ) zs zv.cells.toList) (m : Nat) : RowVals sh (List.replicate m row) (Builtin.zeroCells zv.cells m).toList := by
  obtain ⟨e1, e2⟩ := encs_len hrow
  have hl := hz.length
  have hsz : zv.cells.size = sh.length := by simpa [e2] using hl.symm
  refine ⟨by rw [Array.length_toList, size_zeroCells, hsz, List.length_replicate], fun p r hp => ?_⟩
  have hr : r = row := by
    have := List.mem_of_getElem? hp
    exact (List.mem_replicate.1 this).2
  have hpm : p < m := by simpa using (List.getElem?_eq_some_iff.1 hp).1
  subst hr
  refine ⟨e1, fun j n k hj hk => ?_⟩
  have hjl : j < sh.length := (List.getElem?_eq_some_iff.1 hk).1
  have hlt : p * sh.length + j < m * sh.length := by
    have : p * sh.length + sh.length ≤ m * sh.length := by rw [← Nat.succ_mul]; exact Nat.mul_le_mul_right _ hpm
    omega
  have hc := encs_val hrow hz j n k hj hk
  have hmod : (p * sh.length + j) % sh.length = j := by
    rw [Nat.mul_comm, Nat.mul_add_mod, Nat.mod_eq_of_lt hjl]
  have hc' : zv.cells[j]? = some (k.val n) := by simpa using hc
  unfold Builtin.zeroCells
  rw [Array.getElem?_toList, Array.getElem?_map, hsz, Array.getElem?_range, if_pos hlt]
  show some (zv.cells[(p * sh.length + j) % sh.length]!) = _
  rw [hmod, getElem!_def, hc']

theorem lappendZ_wp {id : Nat} {x y : Operand} {tx ty : TypeId} {obs : List Prop} {lv : LV} {cs : List (Nat × At)} {hs : List (Nat × Hd)} (e : o.op = .call ⟨.builtin .append, #[x, y], #[tx, ty]⟩) (h : lappendZ P id σ ρ x y tx ty = some (obs, lv, cs, hs)) (ho : Alls obs)
    (hσ : TRel φ σ a.tmps) (hM : MR w0 may φ μ ρ fr w) (hid : fr id) {next : Act → World → Prop} {Q : Exit → Act → World → Prop}
    (hn : ∀ φ' v w', φ.le φ' → lv.rel φ' v → MR w0 may φ' (updL μ cs) (updL ρ hs) (fun b => fr b ∧ b ≠ id) w' → next (a.put o.dst v) w') : o.wp P a w next Q := by
  unfold lappendZ at h
  split at h
  case h_2 => cases h
  rename_i el kk vx q1 q2 m hux huy hvx hvy
  split at h
  case h_2 => cases h
  rename_i zs ie hz hie
  split at h
  case h_2 => cases h
  rename_i sh hsh hb
  simp only [Bool.and_eq_true] at hb
  have b1 := Nat.le_of_ble_eq_true hb.1.1
  have b2 := Nat.eq_of_beq_eq_true hb.1.2
  have b3 := Nat.le_of_ble_eq_true hb.2
  split at h
  case h_2 => cases h
  rename_i row hrow
  split at h
  case h_2 => cases h
  rename_i obs' r hg
  simp only [Option.some.injEq, Prod.mk.injEq] at h
  obtain ⟨rfl, rfl⟩ := h
  obtain ⟨h0, ho⟩ := ho
  obtain ⟨e1, e2⟩ := encs_len hrow
  obtain ⟨zv, _, hzr, ie', hie', hzz⟩ := zero_run hz φ w
  rw [hie] at hie'; simp only [Option.some.injEq] at hie'; subst hie'
  have hzl := hzr.length
  have hzs : zv.cells.size = ie.size := by simp at hzl; omega
  have hm : m ≤ 140737488355328 := by
    have key : ∀ (l : List (List Int)), (l ++ List.replicate m.toNat row).length * ie.bytes ≤ 70368744177664 → m ≤ 140737488355328 := fun l hl => by
      have h1 : m.toNat ≤ (l ++ List.replicate m.toNat row).length := by simp
      have h2 : m.toNat * 1 ≤ (l ++ List.replicate m.toNat row).length * ie.bytes := Nat.mul_le_mul h1 b3
      omega
    unfold grow at hg
    split at hg
    · simp only [Option.some.injEq, Prod.mk.injEq] at hg
      obtain ⟨rfl, _⟩ := hg
      exact key [] ho.1
    · split at hg
      case h_2 => cases hg
      split at hg
      case h_2 => cases hg
      simp only [Option.some.injEq, Prod.mk.injEq] at hg
      obtain ⟨rfl, _⟩ := hg
      exact key _ ho.1
    · cases hg
  have hyv : a.eval y = .int q2 m := lev_rel hσ hvy
  have hsr := Srcs.of_zeros (P := P) (w := w) (ty := o.type) (k := q2) hux huy hie hzz hzs (by omega) b3 m h0 hm
  have hvs := zero_rows (sh := sh) hrow hzr m.toNat
  obtain ⟨u, w', φ', r1, r2, r3, r4⟩ := grow_run (P := P) hM hid hg ho (t := tx) (tx := ty) (ty := o.type) hux hie hzz (by omega) (by omega) (by omega) rfl (by omega) b3 (lev_rel hσ hvx) hvs (by rw [List.length_replicate]; exact hsr)
  refine wp_value (v := u) (w' := w') ?_ (hn φ' u w' r2 r3 r4)
  simp [execOp, e, resolve, invoke, builtin, hyv, r1]

theorem run_copy_any {dT sT ty el : TypeId} {ie : TypeInfo} (hu : P.underlying dT = some (.slice el)) (hi : P.info? el = some ie) (g o dLen dCap sLen sCap : Nat) (a : Addr) (cur : Array Value) (t : TypeId) (cs : List Value)
    (hg : w.heap[g]? = some (.cells cur t (0, 0))) (hn : cs.length = Nat.min sLen dLen * ie.size) (hsrc : ∀ j v, cs[j]? = some v → w.cell? (a.add j) = some v) (hfit : o + cs.length ≤ cur.size) (h1 : ∀ v ∈ cs, v.oneCell' = true) :
    (Builtin.copy_ #[dT, sT] ty #[.slice (some ⟨g, o, none⟩) dLen dCap, .slice (some a) sLen sCap]).run P w =
      .ok (.int .i64 (Int.ofNat (Nat.min sLen dLen))) (w.setRow g (cur.toList.take o ++ cs ++ cur.toList.drop (o + cs.length)).toArray) := by
  have hl := run_firstCells_some (P := P) w ie.size (Nat.min sLen dLen) a sLen sCap cs hn hsrc
  have hst := run_storeCells_at P g o t cs 0 cur w hg (by simpa using hfit) h1
  simp only [Nat.add_zero] at hst
  simp [Builtin.copy_, run_underlying hu, Builtin.lenOf, sizeOf, typeInfo, hi, hl, hst, goInt]

theorem run_copy_zero {dT sT ty el : TypeId} {ie : TypeInfo} (hu : P.underlying dT = some (.slice el)) (hi : P.info? el = some ie) (d a : Option Addr) (dLen dCap sLen sCap : Nat) (h0 : Nat.min sLen dLen = 0) :
    (Builtin.copy_ #[dT, sT] ty #[.slice d dLen dCap, .slice a sLen sCap]).run P w = .ok (.int .i64 (Int.ofNat 0)) w := by
  have hf : (Builtin.firstCells ie.size 0 (.slice a sLen sCap)).run P w = .ok #[] w := by
    cases a <;> simp [Builtin.firstCells, loadCells, loadCellsFrom]
  cases d <;> simp [Builtin.copy_, run_underlying hu, Builtin.lenOf, sizeOf, typeInfo, hi, h0, hf, storeCells, goInt]

theorem lcopy_wp {x y : Operand} {tx ty : TypeId} {obs : List Prop} {lv : LV} {cs : List (Nat × At)} {hs : List (Nat × Hd)} (e : o.op = .call ⟨.builtin .copy, #[x, y], #[tx, ty]⟩) (h : lcopy P σ μ ρ x y tx = some (obs, lv, cs, hs))
    (hσ : TRel φ σ a.tmps) (hM : MR w0 may φ μ ρ fr w) {next : Act → World → Prop} {Q : Exit → Act → World → Prop}
    (hn : ∀ v w', lv.rel φ v → MR w0 may φ (updL μ cs) (updL ρ hs) fr w' → next (a.put o.dst v) w') : o.wp P a w next Q := by
  unfold lcopy at h
  split at h
  case h_2 => cases h
  rename_i el d vy hux hvx hvy
  split at h
  case h_2 => cases h
  rename_i ie b v e' off n hie hd
  split at h
  case h_2 => cases h
  rename_i hh R hr
  split at h
  case h_2 => cases h
  rename_i new hb hfx hnew
  simp only [Option.some.injEq, Prod.mk.injEq] at h
  obtain ⟨rfl, rfl, rfl, rfl⟩ := h
  simp only [Bool.and_eq_true, Bool.not_eq_true'] at hb
  have b1 := Nat.eq_of_beq_eq_true hb.1.1
  have b2 := Nat.le_of_ble_eq_true hb.1.2
  obtain ⟨c1, c2, c3, c4, c5⟩ := rowsAt_spec hr
  obtain ⟨i, k1, k2, k3, k4, k5⟩ := hM.hdr b hh c1
  obtain ⟨k6, k7, k8⟩ := k5 R c3
  have hro : i.ro = false := by rw [k3, hb.2]
  -- the destination
  have hdst : ∃ ad cap, a.eval x = .slice ad n cap ∧ off + n ≤ R.l.length ∧ (n = 0 ∨ ∃ r o', i.a = some (r, o') ∧ ad = some ⟨r, o' + off * e', none⟩) := by
    have hxd := lev_rel hσ hvx
    unfold dstOf at hd
    split at hd
    · split at hd
      · rename_i hd2 R2 hr2
        simp only [Option.some.injEq, Prod.mk.injEq] at hd
        obtain ⟨rfl, rfl, rfl, rfl, rfl⟩ := hd
        rw [hr] at hr2; simp only [Option.some.injEq, Prod.mk.injEq] at hr2
        obtain ⟨rfl, rfl⟩ := hr2
        obtain ⟨_, i', g1, _, g3⟩ := hxd
        rw [k1] at g1; simp only [Option.some.injEq] at g1; subst g1
        rcases g3 (by rw [k2, c2]) with ⟨e1, e2, e3⟩ | ⟨r, o', cap, e1, e2, e3⟩
        · exact ⟨none, 0, by rw [e3, k6, e2], by omega, .inl (by omega)⟩
        · exact ⟨_, cap, by rw [e2, k6], by omega, .inr ⟨r, o', e1, by simp⟩⟩
      · cases hd
    · simp only [Option.some.injEq, Prod.mk.injEq] at hd
      obtain ⟨rfl, rfl, rfl, rfl, rfl⟩ := hd
      obtain ⟨_, i', g1, _, g3⟩ := hxd
      rw [k1] at g1; simp only [Option.some.injEq] at g1; subst g1
      obtain ⟨h1, ad, cap, h2, h3, h4⟩ := g3 (by rw [k2, c2])
      refine ⟨ad, cap, h2, by omega, ?_⟩
      rcases h4 with h4 | ⟨r, o', h4, h5⟩
      · exact .inl h4
      · exact .inr ⟨r, o', h4, by rw [h5]; simp⟩
    · cases hd
  obtain ⟨ad, cap, hxv, hon, had⟩ := hdst
  have same : Nat.min new.length n = 0 → MR w0 may φ (updL μ []) (updL ρ [(b, withRows hh R (R.l.take off ++ new.take n ++ R.l.drop (off + Nat.min new.length n)))]) fr w := fun h0 => by
    have e1 : new.take n = [] := List.eq_nil_of_length_eq_zero (by rw [List.length_take, Nat.min_comm]; exact h0)
    have e2 : withRows hh R (R.l.take off ++ new.take n ++ R.l.drop (off + Nat.min new.length n)) = hh := by
      rw [h0, e1, List.append_nil, Nat.add_zero, List.take_append_drop]
      obtain ⟨hv, hz, hro', hR⟩ := hh
      simp only at c3
      subst c3
      rfl
    rw [e2]
    have e3 : updL ρ [(b, hh)] = ρ := by
      funext c
      simp only [updL, upd]
      split
      · rename_i hc; rw [hc, c1]
      · rfl
    rw [e3]; exact hM
  rcases src_run hM hnew (lev_rel hσ hvy) with ⟨rfl, a', c', ey⟩ | ⟨a', c', vs, ey, q1, q2⟩
  · have hr0 := run_copy_zero (P := P) (w := w) (ty := o.type) (sT := ty) hux hie ad a' n cap 0 c' (by simp)
    refine wp_value (v := .int .i64 (Int.ofNat 0)) (w' := w) (by simp [execOp, e, resolve, invoke, builtin, hxv, ey, hr0]) (hn _ w ?_ ?_)
    · show _ = _; simp
    · exact same (by simp)
  · by_cases h0 : Nat.min new.length n = 0
    · have hr0 := run_copy_zero (P := P) (w := w) (ty := o.type) (sT := ty) hux hie ad (some a') n cap new.length c' h0
      refine wp_value (v := .int .i64 (Int.ofNat 0)) (w' := w) (by simp [execOp, e, resolve, invoke, builtin, hxv, ey, hr0]) (hn _ w ?_ (same h0))
      show _ = _; rw [h0]
    · rcases had with had | ⟨r, o', g1, rfl⟩
      · subst had; simp at h0
      · rcases k8 with ⟨e1, _⟩ | ⟨r2, o2, arr, ty', fz, p1, p2, p3, p4⟩
        · rw [g1] at e1; cases e1
        rw [g1] at p1; simp only [Option.some.injEq, Prod.mk.injEq] at p1
        obtain ⟨rfl, rfl⟩ := p1
        obtain ⟨_, ho0, arr2, h6, h7⟩ := hM.own b i r o' k1 g1 hro
        subst ho0
        have p2 : w.heap[r]? = _ := p2
        rw [h6] at p2; simp only [Option.some.injEq, Obj.cells.injEq] at p2
        obtain ⟨rfl, rfl, rfl⟩ := p2
        have hsh : ie.size = R.sh.length := by rw [b1, c5]
        have hN : Nat.min new.length n ≤ n := Nat.min_le_right _ _
        have hN2 : Nat.min new.length n ≤ new.length := Nat.min_le_left _ _
        generalize hNN : Nat.min new.length n = N at *
        have hcl : (vs.take (N * R.sh.length)).length = N * R.sh.length := by
          rw [List.length_take, q1.1]; exact Nat.min_eq_left (Nat.mul_le_mul_right _ hN2)
        have hold : RowVals R.sh R.l (arr2.toList.take (R.l.length * R.sh.length)) := by
          have := p3.vals
          rw [c4] at this; simpa using this
        have htot : (off + N) * R.sh.length ≤ R.l.length * R.sh.length := Nat.mul_le_mul_right _ (by omega)
        have hcap : R.l.length * R.sh.length ≤ arr2.size := by have := p3.2; rw [c4] at this; omega
        have hfit : off * e' + (vs.take (N * R.sh.length)).length ≤ arr2.size := by
          rw [hcl, ← c5, ← Nat.add_mul]; omega
        have hrr := run_copy_any (P := P) (w := w) (ty := o.type) (sT := ty) hux hie r (off * e') n cap new.length c' a' arr2 i.ty (vs.take (N * R.sh.length)) h6 (by rw [hcl, hNN, hsh])
          (fun j u hj => q2 j u (by rw [List.getElem?_take] at hj; split at hj <;> first | exact hj | cases hj)) hfit (fun u hu => q1.one u (List.mem_of_mem_take hu))
        rw [hNN] at hrr
        have hsz : (arr2.toList.take (off * e') ++ vs.take (N * R.sh.length) ++ arr2.toList.drop (off * e' + (vs.take (N * R.sh.length)).length)).toArray.size = arr2.size := by
          rw [List.size_toArray, splice_size _ _ _ (by simpa using hfit)]; simp
        have hll : (R.l.take off ++ new.take n ++ R.l.drop (off + N)).length = R.l.length := by
          simp only [List.length_append, List.length_take, List.length_drop]
          have e1 : min n new.length = N := by rw [Nat.min_comm]; exact hNN
          omega
        -- the rows, in the cells
        have v1 := hold.sub 0 off (by omega)
        have v2 := q1.sub 0 N (by omega)
        have v3 := hold.sub (off + N) (R.l.length - (off + N)) (by omega)
        simp only [List.drop_zero, Nat.zero_mul] at v1 v2
        have e4 : new.take n = new.take N := by
          rw [← hNN]; exact (List.take_eq_take_iff).2 (by show min n new.length = min (Nat.min new.length n) new.length; have e : Nat.min new.length n = min new.length n := rfl; rw [e]; omega)
        have v123 := (v1.app v2).app v3
        have e5 : (R.l.drop (off + N)).take (R.l.length - (off + N)) = R.l.drop (off + N) := List.take_of_length_le (by simp)
        rw [e5, ← e4] at v123
        have hvl : ((arr2.toList.take (R.l.length * R.sh.length)).take (off * R.sh.length)).length = off * R.sh.length := v1.1.trans (by simp only [List.length_take]; rw [Nat.min_eq_left (by omega)])
        have hrow : RowsIn (arr2.toList.take (off * e') ++ vs.take (N * R.sh.length) ++ arr2.toList.drop (off * e' + (vs.take (N * R.sh.length)).length)).toArray 0 ⟨0, R.sh, R.l.take off ++ new.take n ++ R.l.drop (off + N), none⟩ := by
          refine rows_of_vals v123 (fun k hk => ?_) ?_
          · have hk' : k < R.l.length * R.sh.length := by rw [v123.1, hll] at hk; exact hk
            rw [List.getElem?_toArray, splice_get _ _ _ (by simpa using hfit), hcl]
            have hoe : off * e' = off * R.sh.length := by rw [c5]
            rw [hoe]
            by_cases k1' : k < off * R.sh.length
            · rw [if_neg (by omega), List.append_assoc, List.getElem?_append_left (by omega), List.getElem?_take, if_pos k1', List.getElem?_take, if_pos hk']
            · by_cases k2' : k < off * R.sh.length + N * R.sh.length
              · rw [if_pos (by omega), List.append_assoc, List.getElem?_append_right (by omega), hvl, List.getElem?_append_left (by omega)]
              · rw [if_neg (by omega), List.getElem?_append_right (by rw [List.length_append, hvl, hcl]; omega), List.length_append, hvl, hcl, List.getElem?_take, List.getElem?_drop, List.getElem?_take]
                have hm : (off + N) * R.sh.length = off * R.sh.length + N * R.sh.length := Nat.add_mul ..
                have hm2 : (R.l.length - (off + N)) * R.sh.length = R.l.length * R.sh.length - (off * R.sh.length + N * R.sh.length) := by rw [Nat.sub_mul, hm]
                rw [if_pos (by omega), if_pos (by omega), hm]
                congr 1; omega
          · rw [v123.1, hll, hsz]; exact hcap
        obtain ⟨W', hW, hrr'⟩ : ∃ W', W' = w.setRow r (arr2.toList.take (off * e') ++ vs.take (N * R.sh.length) ++ arr2.toList.drop (off * e' + (vs.take (N * R.sh.length)).length)).toArray ∧ (Builtin.copy_ #[tx, ty] o.type #[.slice (some ⟨r, off * e', none⟩) n cap, .slice (some a') new.length c']).run P w = .ok (.int .i64 (Int.ofNat N)) W' := ⟨_, rfl, hrr⟩
        rw [Nat.zero_add] at hxv
        refine wp_value (v := .int .i64 (Int.ofNat N)) (w' := W') (by simp [execOp, e, resolve, invoke, builtin, hxv, ey, hrr']) (hn _ _ rfl ?_)
        subst hW
        refine hM.write k1 g1 hro h6 hsz c1 ?_ ?_ ?_ ?_ ?_ ?_
        · intro key y hy; cases hy
        · intro c g hg
          simp only [List.mem_singleton, Prod.mk.injEq] at hg
          obtain ⟨rfl, rfl⟩ := hg
          refine ⟨rfl, k2, k3, fun hgr => by simp [Hd.grows, withRows, hfx] at hgr, fun R' hR' => ?_⟩
          simp only [withRows, Option.some.injEq] at hR'; subst hR'
          refine ⟨by simp only [hll]; exact k6, (fun N' hN => by simp only [hfx] at hN; cases hN), .inr ⟨r, 0, _, i.ty, (0, 0), g1, setRow_heap w r arr2 _ _ _ h6, ?_, by simp only [hll]; exact p4⟩⟩
          rw [c4, hfx]; exact hrow
        · intro k
          by_cases hk : off * e' ≤ k ∧ k < off * e' + (vs.take (N * R.sh.length)).length
          · right; right
            refine ⟨hh, R, c1, c3, by omega, ?_⟩
            rw [hcl, ← c5, ← Nat.add_mul] at hk
            omega
          · left
            rw [List.getElem?_toArray, splice_get _ _ _ (by simpa using hfit), if_neg hk]
            simp
        · intro e; cases e
        · intro key y g hy; cases hy
        · intro c g hg k hk
          simp only [List.mem_singleton, Prod.mk.injEq] at hg
          obtain ⟨rfl, rfl⟩ := hg
          refine ⟨by have := hk.1; simpa [Hd.grows, withRows, c3] using this, fun R' hR' => ?_⟩
          simp only [withRows, Option.some.injEq] at hR'; subst hR'
          have := hk.2 R c3
          simp only [hll]; exact this

end
end Go.Proofs.Ytcdejlgophpdjaa.V
