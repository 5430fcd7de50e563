/-
  One operation: what the function says of it holds of the real one (second part).
-/
import Derived.Test.YtcdejlgophpdjaaVe7
namespace Go.Proofs.Ytcdejlgophpdjaa.V
open Go Go.RowKit

theorem kdsOf_len : ∀ {l : List At} {ks : List Kd}, kdsOf l = some ks → ks.length = l.length
  | [], ks, h => by simp only [kdsOf, Option.some.injEq] at h; subst h; rfl
  | x :: r, ks, h => by
    unfold kdsOf at h
    split at h
    · rename_i k ks' h1 h2
      simp only [Option.some.injEq] at h; subst h
      simp [kdsOf_len h2]
    · cases h

section
variable {P : Program} {w0 : World} {may : Nat → Prop} {φ : Phi} {σ : Sig} {μ : Mem} {ρ : Hds} {fr : Nat → Prop} {w : World} {a : Act} {o : Oper}

theorem bnd_val (hσ : TRel φ σ a.tmps) {x : Option Operand} {n : Nat} {s : Bool} {i : Int} (h : bnd σ x n = some (s, i)) : (x = none ∧ i = n) ∨ ∃ y k, x = some y ∧ a.eval y = .int k i := by
  unfold bnd at h
  split at h
  · simp only [Option.some.injEq, Prod.mk.injEq] at h; exact .inl ⟨rfl, h.2.symm⟩
  · rename_i y
    split at h
    · rename_i s' k i' hy
      simp only [Option.some.injEq, Prod.mk.injEq] at h
      obtain ⟨rfl, rfl⟩ := h
      exact .inr ⟨y, k, rfl, lev_rel hσ hy⟩
    · cases h

theorem bounds_run (hσ : TRel φ σ a.tmps) {lo hi : Option Operand} {m len cap : Nat} {s s' : Bool} {l h : Int} (hl : bnd σ lo 0 = some (s, l)) (hh : bnd σ hi m = some (s', h)) (hm : m = len) (h1 : 0 ≤ l) (h2 : l ≤ h) (h3 : h ≤ (len : Int)) (hc : len ≤ cap) (q : Bool) (w : World) :
    (Instr.sliceBounds q len cap (lo.map a.eval) (hi.map a.eval) none).run P w = .ok (l.toNat, h.toNat, cap) w := by
  subst hm
  rcases bnd_val hσ hl with ⟨rfl, e1⟩ | ⟨y, k, rfl, e1⟩ <;> rcases bnd_val hσ hh with ⟨rfl, e2⟩ | ⟨y', k', rfl, e2⟩
  · subst e1 e2; simp [Instr.sliceBounds]
  · subst e1
    have hb := run_sliceBound (P := P) (w := w) k' h cap (if q then .sliceAcap else .sliceAlen) (by omega) (by omega)
    simp [Instr.sliceBounds, e2, hb]
  · subst e2
    have hb := run_sliceBound (P := P) (w := w) k l m .sliceB (by omega) (by omega)
    simp [Instr.sliceBounds, e1, hb]
  · have hb := run_sliceBound (P := P) (w := w) k' h cap (if q then .sliceAcap else .sliceAlen) (by omega) (by omega)
    have hb' := run_sliceBound (P := P) (w := w) k l h.toNat .sliceB (by omega) (by omega)
    simp [Instr.sliceBounds, e1, e2, hb, hb']

theorem selI_get {k : IntKind} : ∀ {l : List At} {ns : List Int} {vs : List Value}, selI k l = some ns → All2 (At.rel φ) l vs → ∀ (j : Nat), j < l.length → vs[j]? = some (.int k (ns.getD j 0))
  | [], ns, vs, h, hv, j, hj => by simp at hj
  | x :: r, ns, vs, h, hv, j, hj => by
    cases x with
    | int s k' n =>
      simp only [selI] at h
      split at h
      · rename_i l' hk hl
        have := of_decide_eq_true hk
        subst this
        simp only [Option.some.injEq] at h; subst h
        cases hv with
        | cons p q =>
          have p : _ = Value.int k n := p
          cases j with
          | zero => simp [p]
          | succ j => simpa using selI_get hl q j (by simpa using hj)
      · cases h
    | _ => simp [selI] at h

theorem lfill_len {place : Nat → Option (Nat × Nat)} : ∀ {ps : List (Nat × LV)} {cells res : List At}, lfill place cells ps = some res → res.length = cells.length
  | [], cells, res, h => by simp only [lfill, Option.some.injEq] at h; subst h; rfl
  | (i, v) :: rest, cells, res, h => by
    unfold lfill at h
    split at h
    · rename_i off size vs h1 h2
      split at h
      · rename_i hb
        simp only [Bool.and_eq_true] at hb
        have b1 := Nat.eq_of_beq_eq_true hb.1
        have b2 := Nat.le_of_ble_eq_true hb.2
        rw [lfill_len h]
        simp; omega
      · cases h
    · cases h

theorem lop_wp {T : Tab} (hT : TOK P T) {id : Nat} {foot : List Nat} {obs : List Prop} {lv : LV} {cs : List (Nat × At)} {hs : List (Nat × Hd)} (h : lop P T id foot σ μ ρ o = some (obs, lv, cs, hs)) (ho : Alls obs) (hσ : TRel φ σ a.tmps)
    (hM : MR w0 may φ μ ρ fr w) (hid : ∀ j, j < 16 → fr (id + j)) {next : Act → World → Prop} {Q : Exit → Act → World → Prop}
    (hn : ∀ φ' v w', φ.le φ' → lv.rel φ' v → MR w0 may φ' (updL μ cs) (updL ρ hs) (fun b => fr b ∧ ∀ j, j < 16 → b ≠ id + j) w' → next (a.put o.dst v) w') : o.wp P a w next Q := by
  have hid0 : fr id := hid 0 (by omega)
  have keep : MR w0 may φ μ ρ (fun b => fr b ∧ ∀ j, j < 16 → b ≠ id + j) w := hM.drop fun _ hb => hb.1
  have one : ∀ {φ' : Phi} {μ' : Mem} {ρ' : Hds} {w' : World}, MR w0 may φ' μ' ρ' (fun b => fr b ∧ b ≠ id) w' → MR w0 may φ' μ' ρ' (fun b => fr b ∧ ∀ j, j < 16 → b ≠ id + j) w' := fun hm => hm.drop fun b hb => ⟨hb.1, by simpa using hb.2 0 (by omega)⟩
  have same : cs = [] → hs = [] → ∀ v, lv.rel φ v → (execOp a.eval o).run P w = .ok (.value v) w → o.wp P a w next Q := fun he he' v hv hr => by
    subst he; subst he'; exact wp_value hr (hn φ v w φ.le_refl hv keep)
  have calmCase : calmOp P σ o = some (obs, lv, cs, hs) → ((∃ p t x y t2, o.op = .binOp p t x y t2) ∨ (∃ p t x, o.op = .unOp p t x) ∨ (∃ s d x, o.op = .convert s d x) ∨ (∃ b as ts, o.op = .call ⟨.builtin b, as, ts⟩)) → o.wp P a w next Q := fun hc hk => by
    obtain ⟨v, hr, hv, he, he'⟩ := calmOp_run (w := w) hc hσ hk
    exact same he he' v hv hr
  cases e : o.op
  case move x =>
    simp only [lop, e] at h
    split at h
    · rename_i v hv
      simp only [Option.some.injEq, Prod.mk.injEq] at h
      obtain ⟨rfl, rfl, rfl, rfl⟩ := h
      exact same rfl rfl _ (lev_rel hσ hv) (by simp [execOp, e])
    · cases h
  case assign x =>
    simp only [lop, e] at h
    split at h
    · rename_i v hv
      simp only [Option.some.injEq, Prod.mk.injEq] at h
      obtain ⟨rfl, rfl, rfl, rfl⟩ := h
      exact same rfl rfl _ (lev_rel hσ hv) (by simp [execOp, e])
    · cases h
  case pick c x y =>
    simp only [lop, e] at h
    split at h
    · rename_i q hq
      obtain ⟨lc, hlc, hq2⟩ := Option.bind_eq_some_iff.1 hq
      have hcv : a.eval c = .bool q := by
        have := lev_rel hσ hlc
        unfold lbool at hq2
        split at hq2
        · simp only [Option.some.injEq, Prod.mk.injEq] at hq2; obtain ⟨rfl, rfl⟩ := hq2; exact this
        · cases hq2
      split at h
      · rename_i v hv
        simp only [Option.some.injEq, Prod.mk.injEq] at h
        obtain ⟨rfl, rfl, rfl, rfl⟩ := h
        cases q
        · exact same rfl rfl _ (lev_rel hσ hv) (by simp [execOp, e, hcv, asBool])
        · exact same rfl rfl _ (lev_rel hσ hv) (by simp [execOp, e, hcv, asBool])
      · cases h
    · cases h
  case alloc t =>
    simp only [lop, e] at h
    split at h
    · rename_i l hl
      split at h
      · rename_i hb
        simp only [Bool.and_eq_true] at hb
        simp only [Option.some.injEq, Prod.mk.injEq] at h
        obtain ⟨rfl, rfl, rfl, rfl⟩ := h
        obtain ⟨v, hv, hrel, _⟩ := zero_run hl φ w
        obtain ⟨m1, m2⟩ := hM.newCells hid0 t hrel (Nat.le_of_ble_eq_true hb.2)
        refine wp_value (v := .pointer (some ⟨w.heap.size, 0, none⟩)) (w' := w.alloc (.cells v.cells t)) ?_ (hn _ _ _ m1 ⟨⟨rfl, rfl⟩, _, setP_same _ _ _, Nat.le_refl _, fun _ => ⟨_, _, rfl, rfl⟩⟩ (one m2))
        simp [execOp, e, Instr.alloc, hv, newVar, newRow]
      · cases h
    · cases h
  case box t x =>
    simp only [lop, e] at h
    split at h
    · rename_i l hl
      split at h
      · rename_i hb
        simp only [Bool.and_eq_true] at hb
        simp only [Option.some.injEq, Prod.mk.injEq] at h
        obtain ⟨rfl, rfl, rfl, rfl⟩ := h
        obtain ⟨lx, hlx, hc⟩ := Option.bind_eq_some_iff.1 hl
        have hrel := vcells_rel (lev_rel hσ hlx) hc
        obtain ⟨m1, m2⟩ := hM.newCells hid0 t hrel (Nat.le_of_ble_eq_true hb.2)
        refine wp_value (v := .pointer (some ⟨w.heap.size, 0, none⟩)) (w' := w.alloc (.cells (a.eval x).cells t)) ?_ (hn _ _ _ m1 ⟨⟨rfl, rfl⟩, _, setP_same _ _ _, Nat.le_refl _, fun _ => ⟨_, _, rfl, rfl⟩⟩ (one m2))
        simp [execOp, e, Instr.box, newVar, newRow]
      · cases h
    · cases h
  case build t parts =>
    simp only [lop, e] at h
    split at h
    · rename_i ps hps
      split at h
      · rename_i l hl
        simp only [Option.some.injEq, Prod.mk.injEq] at h
        obtain ⟨rfl, rfl, rfl, rfl⟩ := h
        obtain ⟨out, h1, h2⟩ := built_run hl (lparts_rel hσ hps) w
        have hb := run_build (P := P) w t (parts.map fun p => (p.1, a.eval p.2)) out (by simpa using h1)
        exact same rfl rfl (.agg out) ⟨_, rfl, h2⟩ (by simp [execOp, e, hb])
      · cases h
    · cases h
  case load t x =>
    simp only [lop, e] at h
    split at h
    · rename_i b off hx
      split at h
      · rename_i v hv
        simp only [Option.some.injEq, Prod.mk.injEq] at h
        obtain ⟨rfl, rfl, rfl, rfl⟩ := h
        obtain ⟨r, o', v', h1, h2, h3⟩ := loadP_run (P := P) hM hv (lev_rel hσ hx)
        exact same rfl rfl v' h3 (by simp [execOp, e, Instr.loadAt, Instr.sureAddr, h1, h2])
      · cases h
    · rename_i s b ver st el i j hx
      split at h
      · rename_i v hv
        simp only [Option.some.injEq, Prod.mk.injEq] at h
        obtain ⟨rfl, rfl, rfl, rfl⟩ := h
        obtain ⟨r, o', v', h1, h2, h3⟩ := loadR_run (P := P) hM hv (lev_rel hσ hx)
        exact same rfl rfl v' h3 (by simp [execOp, e, Instr.loadAt, Instr.sureAddr, h1, h2])
      · split at h
        · rename_i obs' v hv
          simp only [Option.some.injEq, Prod.mk.injEq] at h
          obtain ⟨rfl, rfl, rfl, rfl⟩ := h
          obtain ⟨r, o', v', h1, h2, h3⟩ := loadC_run (P := P) hM hv ho (lev_rel hσ hx)
          exact same rfl rfl v' h3 (by simp [execOp, e, Instr.loadAt, Instr.sureAddr, h1, h2])
        · cases h
    · cases h
  case store t x y =>
    simp only [lop, e] at h
    split at h
    · rename_i b off vs hx hy
      obtain ⟨ly, hly, hc⟩ := Option.bind_eq_some_iff.1 hy
      obtain ⟨r, o', w', h1, h2, h3, h4⟩ := storeP_run (P := P) hM h (lev_rel hσ hx) (vcells_rel (lev_rel hσ hly) hc)
      subst h3
      exact wp_skip' (w' := w') (by simp [execOp, e, Instr.storeAt, Instr.sureAddr, h1, h2]) (hn φ _ w' φ.le_refl ⟨#[], rfl, .nil⟩ (h4.drop fun _ hh => hh.1))
    · rename_i s b ver st el i j vs hx hy
      obtain ⟨ly, hly, hc⟩ := Option.bind_eq_some_iff.1 hy
      split at h
      · rename_i r' hr'
        rw [h] at hr'
        obtain ⟨r, o', w', h1, h2, h3, h4⟩ := storeR_run (P := P) hM hr' (lev_rel hσ hx) (vcells_rel (lev_rel hσ hly) hc)
        subst h3
        exact wp_skip' (w' := w') (by simp [execOp, e, Instr.storeAt, Instr.sureAddr, h1, h2]) (hn φ _ w' φ.le_refl ⟨#[], rfl, .nil⟩ (h4.drop fun _ hh => hh.1))
      · obtain ⟨r, o', w', h1, h2, h3, h4⟩ := storeC_run (P := P) hM h ho (lev_rel hσ hx) (vcells_rel (lev_rel hσ hly) hc)
        subst h3
        exact wp_skip' (w' := w') (by simp [execOp, e, Instr.storeAt, Instr.sureAddr, h1, h2]) (hn φ _ w' φ.le_refl ⟨#[], rfl, .nil⟩ (h4.drop fun _ hh => hh.1))
    · cases h
  case nilCheck x =>
    simp only [lop, e] at h
    split at h
    · rename_i f caps hx
      simp only [Option.some.injEq, Prod.mk.injEq] at h
      obtain ⟨rfl, rfl, rfl, rfl⟩ := h
      have hr := lev_rel hσ hx
      obtain ⟨cv, hxv, _⟩ := fn_inv hr
      exact same rfl rfl _ hr (by simp [execOp, e, hxv])
    · rename_i p hne hx
      split at h
      · rename_i ht
        simp only [Option.some.injEq, Prod.mk.injEq] at h
        obtain ⟨rfl, rfl, rfl, rfl⟩ := h
        have hr := lev_rel hσ hx
        obtain ⟨ad, hxv⟩ := there_spec hM hr ht
        exact same rfl rfl _ hr (by simp [execOp, e, hxv])
      · cases h
    · cases h
  case fieldAddr s x f =>
    simp only [lop, e] at h
    split at h
    · rename_i p fields hx hu
      split at h
      · rename_i fl hfl
        split at h
        · rename_i i hi
          split at h
          · rename_i b off hb
            simp only [Option.some.injEq, Prod.mk.injEq] at h
            obtain ⟨rfl, rfl, rfl, rfl⟩ := h
            simp only [Bool.and_eq_true] at hb
            obtain ⟨ad, hxv⟩ := there_spec hM (lev_rel hσ hx) hb.2
            have hz : i.size ≠ 0 := by have := Nat.le_of_ble_eq_true hb.1; omega
            have hr : prel φ (b, off) (a.eval x) := lev_rel hσ hx
            refine same rfl rfl (.pointer (some (ad.add fl.offset))) ?_ ?_
            · refine ⟨⟨rfl, rfl⟩, ?_⟩
              obtain ⟨_, inf, g1, g2, g3⟩ := hr
              refine ⟨inf, g1, g2, fun hv => ?_⟩
              obtain ⟨r, o', g4, g5⟩ := g3 hv
              rw [hxv] at g5
              simp only [Value.pointer.injEq, Option.some.injEq] at g5
              subst g5
              exact ⟨r, o', g4, by rw [add_eq, Nat.add_assoc]⟩
            · simp [execOp, e, Instr.fieldAt, run_underlying hu, hfl, Instr.sureAddr, hxv, fieldPlace, sizeOf, typeInfo, hi, hz]
          · rename_i b ver st el ii j hb
            split at h
            · rename_i hj
              have hj : j + fl.offset < el := Nat.le_of_ble_eq_true hj
              simp only [Option.some.injEq, Prod.mk.injEq] at h
              obtain ⟨rfl, rfl, rfl, rfl⟩ := h
              simp only [Bool.and_eq_true] at hb
              obtain ⟨ad, hxv⟩ := there_spec hM (lev_rel hσ hx) hb.2
              have hz : i.size ≠ 0 := by have := Nat.le_of_ble_eq_true hb.1; omega
              have hr : At.rel φ (.prw false b ver st el ii j) (a.eval x) := lev_rel hσ hx
              refine same rfl rfl (.pointer (some (ad.add fl.offset))) ?_ ?_
              · refine ⟨⟨rfl, rfl⟩, ?_⟩
                obtain ⟨_, inf, g1, g2, g3⟩ := hr
                refine ⟨inf, g1, g2, fun hv => ?_⟩
                obtain ⟨g6, g7, r, o', g4, g5⟩ := g3 hv
                rw [hxv] at g5
                simp only [Value.pointer.injEq, Option.some.injEq] at g5
                subst g5
                exact ⟨g6, hj, r, o', g4, by rw [add_eq, show o' + (st + ii * el + j) + fl.offset = o' + (st + ii * el + (j + fl.offset)) by omega]⟩
              · simp [execOp, e, Instr.fieldAt, run_underlying hu, hfl, Instr.sureAddr, hxv, fieldPlace, sizeOf, typeInfo, hi, hz]
            · cases h
          · cases h
        · cases h
      · cases h
    · cases h
  case field s x f =>
    simp only [lop, e] at h
    split at h
    · rename_i l fields hx hu
      split at h
      · rename_i fl hfl
        split at h
        · rename_i v hv
          simp only [Option.some.injEq, Prod.mk.injEq] at h
          obtain ⟨rfl, rfl, rfl, rfl⟩ := h
          obtain ⟨cv, hxv, hcs⟩ := lev_rel hσ hx
          obtain ⟨v', h1, h2⟩ := part_run (P := P) (w := w) hv hcs
          exact same rfl rfl v' h2 (by simp [execOp, e, Instr.field, run_underlying hu, hfl, asAgg, hxv, h1])
        · cases h
      · cases h
    · cases h
  case indexAddr t x ix =>
    simp only [lop, e] at h
    split at h
    · rename_i b off s k i n e' hx hix hu
      split at h
      case h_2 => cases h
      rename_i ie obs' hd hie hob hcur
      have hiv : a.eval ix = .int k i := lev_rel hσ hix
      obtain ⟨c1, c2⟩ := cur_spec hcur
      have hr : prel φ (b, off) (a.eval x) := lev_rel hσ hx
      obtain ⟨_, inf, g1, g2, g3⟩ := hr
      have g1 : φ b = some inf := g1
      obtain ⟨inf', q1, q2, q3, q4, q5⟩ := hM.hdr b hd c1
      rw [g1] at q1; simp only [Option.some.injEq] at q1; subst q1
      obtain ⟨r, o', g4, g5⟩ := g3 (by rw [q2, c2])
      cases s with
      | false =>
        simp only at h
        split at h
        · simp only [Option.some.injEq, Prod.mk.injEq] at h
          obtain ⟨rfl, rfl, rfl, rfl⟩ := h
          have hin := idxOK_spec hob ho
          refine same rfl rfl (.pointer (some ⟨r, o' + off + i.toNat * ie.size, none⟩)) ⟨⟨rfl, rfl⟩, inf, g1, g2, fun _ => ⟨r, o', g4, by rw [Nat.add_assoc]⟩⟩ ?_
          simp [execOp, e, Instr.indexAt, asIntOf, hiv, run_underlying hu, Instr.sureAddr, g5, hin, sizeOf, typeInfo, hie, add_eq]
        · cases h
      | true =>
        simp only at h
        split at h
        case h_2 =>
          rename_i hR
          split at h
          · rename_i hb
            simp only [Bool.and_eq_true] at hb
            have b1 := Nat.le_of_ble_eq_true hb.1
            have b2 := Nat.le_of_ble_eq_true hb.2
            simp only [Option.some.injEq, Prod.mk.injEq] at h
            obtain ⟨rfl, rfl, rfl, rfl⟩ := h
            have hin := idxOK_spec hob ho
            obtain ⟨_, z2, z3⟩ := q4 (by simp [Hd.grows, hR])
            have z3 := z3 hR
            refine same rfl rfl (.pointer (some ⟨r, o' + off + i.toNat * ie.size, none⟩)) ⟨⟨rfl, rfl⟩, inf, g1, g2, fun _ => ⟨by omega, by omega, r, o', g4, by rw [Nat.add_zero, Nat.add_assoc]⟩⟩ ?_
            simp [execOp, e, Instr.indexAt, asIntOf, hiv, run_underlying hu, Instr.sureAddr, g5, hin, sizeOf, typeInfo, hie, add_eq]
          · cases h
        rename_i R hR
        split at h
        case h_2 => cases h
        rename_i N hb hN
        split at h
        case h_2 => cases h
        rename_i hNn
        have hNn := Nat.eq_of_beq_eq_true hNn
        simp only [Bool.and_eq_true] at hb
        have b1 := Nat.eq_of_beq_eq_true hb.1.1
        have b2 := Nat.eq_of_beq_eq_true hb.1.2
        have b3 := Nat.le_of_ble_eq_true hb.2
        simp only [Option.some.injEq, Prod.mk.injEq] at h
        obtain ⟨rfl, rfl, rfl, rfl⟩ := h
        have hin := idxOK_spec hob ho
        refine same rfl rfl (.pointer (some ⟨r, o' + off + i.toNat * ie.size, none⟩)) ⟨⟨rfl, rfl⟩, inf, g1, g2, fun _ => ⟨?_, by omega, r, o', g4, by rw [Nat.add_zero, Nat.add_assoc]⟩⟩ ?_
        · obtain ⟨_, q7, _⟩ := q5 R hR
          rw [q7 N hN]; omega
        · simp [execOp, e, Instr.indexAt, asIntOf, hiv, run_underlying hu, Instr.sureAddr, g5, hin, sizeOf, typeInfo, hie, add_eq]
    · rename_i b v st el p j s k i n e' hx hix hu
      split at h
      case h_2 => cases h
      rename_i ie obs' hie hob hth
      have hiv : a.eval ix = .int k i := lev_rel hσ hix
      obtain ⟨ad, hxv⟩ := there_spec hM (lev_rel hσ hx) hth
      have hr : At.rel φ (.prw false b v st el p j) (a.eval x) := lev_rel hσ hx
      obtain ⟨_, inf, g1, g2, g3⟩ := hr
      have mk : ∀ {s' : Bool} {j' : Nat}, j' < el → ie.size * i.toNat + j = j' → (At.rel φ (.prw s' b v st el p j') (.pointer (some (ad.add (i.toNat * ie.size))))) := by
        intro s' j' hj he
        refine ⟨⟨rfl, rfl⟩, inf, g1, g2, fun hv => ?_⟩
        obtain ⟨g6, g7, r, o', g4, g5⟩ := g3 hv
        rw [hxv] at g5
        simp only [Value.pointer.injEq, Option.some.injEq] at g5
        subst g5
        refine ⟨g6, hj, r, o', g4, ?_⟩
        rw [add_eq, Nat.mul_comm i.toNat]
        congr 3
        omega
      have hrun : 0 ≤ i ∧ i < (n : Int) → (execOp a.eval o).run P w = .ok (.value (.pointer (some (ad.add (i.toNat * ie.size))))) w := fun hin => by
        simp [execOp, e, Instr.indexAt, asIntOf, hiv, run_underlying hu, Instr.sureAddr, hxv, hin, sizeOf, typeInfo, hie]
      cases s with
      | false =>
        simp only at h
        split at h
        · rename_i hj
          have hj : j + i.toNat * ie.size < el := Nat.le_of_ble_eq_true hj
          simp only [Option.some.injEq, Prod.mk.injEq] at h
          obtain ⟨rfl, rfl, rfl, rfl⟩ := h
          have hin := idxOK_spec hob ho
          exact same rfl rfl _ (mk (s' := false) hj (by rw [Nat.mul_comm]; omega)) (hrun hin)
        · cases h
      | true =>
        simp only at h
        split at h
        · rename_i hb
          simp only [Bool.and_eq_true] at hb
          have b1 := Nat.eq_of_beq_eq_true hb.1
          have b2 := Nat.le_of_ble_eq_true hb.2
          simp only [Option.some.injEq, Prod.mk.injEq] at h
          obtain ⟨rfl, rfl, rfl, rfl⟩ := h
          have hin := idxOK_spec hob ho
          exact same rfl rfl _ (mk (s' := true) (j' := j + i.toNat) (by omega) (by rw [b1]; omega)) (hrun hin)
        · cases h
    · rename_i s b v st el off n s' k i e' hx hix hu
      split at h
      case h_2 => cases h
      rename_i ie obs' hie hob
      split at h
      case h_2 => cases h
      rename_i hd hb hcur
      simp only [Bool.and_eq_true] at hb
      have b1 := Nat.eq_of_beq_eq_true hb.1
      have b2 := Nat.le_of_ble_eq_true hb.2
      have hiv : a.eval ix = .int k i := lev_rel hσ hix
      obtain ⟨c1, c2⟩ := cur_spec hcur
      have hr : At.rel φ (.slc s b v st el off n) (a.eval x) := lev_rel hσ hx
      obtain ⟨_, inf, g1, g2, g3⟩ := hr
      obtain ⟨inf', q1, q2, q3, q4, q5⟩ := hM.hdr b hd c1
      rw [g1] at q1; simp only [Option.some.injEq] at q1; subst q1
      obtain ⟨g6, ao, cap, g7, g8, g9⟩ := g3 (by rw [q2, c2])
      have fin : ∀ {lv' : LV}, Alls obs' → (∀ r o', inf.a = some (r, o') → lv'.rel φ (.pointer (some ⟨r, o' + (st + (off + i.toNat) * el), none⟩))) → lv = lv' → cs = [] → hs = [] → o.wp P a w next Q := by
        intro lv' hob' hrel hl hc1 hc2
        have hin := idxOK_spec hob hob'
        rcases g9 with g9 | ⟨r, o', g9, g10⟩
        · omega
        · subst hl
          refine same hc1 hc2 _ (hrel r o' g9) ?_
          rw [g10] at g7
          have ea : ((⟨r, o' + (st + off * el), none⟩ : Addr).add (i.toNat * ie.size)) = ⟨r, o' + (st + (off + i.toNat) * el), none⟩ := by
            rw [add_eq, b1, Nat.add_mul]; congr 1; omega
          simp [execOp, e, Instr.indexAt, asIntOf, hiv, run_underlying hu, g7, hin, sizeOf, typeInfo, hie, ea]
      split at h
      · rename_i R hR
        simp only [Option.some.injEq, Prod.mk.injEq] at h
        obtain ⟨rfl, rfl, rfl, rfl⟩ := h
        refine fin (lv' := .a (.prw false b v st el (off + i.toNat) 0)) ho ?_ rfl rfl rfl
        intro r o' ha
        have hin := idxOK_spec hob ho
        exact ⟨⟨rfl, rfl⟩, inf, g1, g2, fun _ => ⟨by omega, by omega, r, o', ha, by rw [Nat.add_zero]⟩⟩
      · rename_i hR
        split at h
        · rename_i hss
          simp only [Option.some.injEq, Prod.mk.injEq] at h
          obtain ⟨rfl, rfl, rfl, rfl⟩ := h
          refine fin (lv' := .a (.ptr b (st + (off + i.toNat) * el))) ho ?_ rfl rfl rfl
          intro r o' ha
          have hv0 := (q4 (by simp [Hd.grows, hR])).1
          exact ⟨⟨rfl, rfl⟩, inf, g1, by omega, fun _ => ⟨r, o', ha, rfl⟩⟩
        · cases h
    · rename_i b v el s' k i e' hx hix hu
      split at h
      case h_2 => cases h
      rename_i ie hd R hie hr
      split at h
      case h_2 => cases h
      rename_i obs' hb hob
      simp only [Bool.and_eq_true] at hb
      have b1 := Nat.eq_of_beq_eq_true hb.1
      have b2 := Nat.le_of_ble_eq_true hb.2
      simp only [Option.some.injEq, Prod.mk.injEq] at h
      obtain ⟨rfl, rfl, rfl, rfl⟩ := h
      have hin := idxOK_spec hob ho
      have hiv : a.eval ix = .int k i := lev_rel hσ hix
      obtain ⟨c1, c2, c3, c4, c5⟩ := rowsAt_spec hr
      have hrl : At.rel φ (.vec b v el) (a.eval x) := lev_rel hσ hx
      obtain ⟨_, inf, g1, g2, g3⟩ := hrl
      obtain ⟨inf', q1, q2, q3, q4, q5⟩ := hM.hdr b hd c1
      rw [g1] at q1; simp only [Option.some.injEq] at q1; subst q1
      obtain ⟨q6, _⟩ := q5 R c3
      rcases g3 (by rw [q2, c2]) with ⟨e1, e2, e3⟩ | ⟨r, o', cap, e1, e2, _⟩
      · omega
      · refine same rfl rfl (.pointer (some ⟨r, o' + (0 + i.toNat * el + 0), none⟩)) ⟨⟨rfl, rfl⟩, inf, g1, g2, fun _ => ⟨by omega, by omega, r, o', e1, rfl⟩⟩ ?_
        have hin' : 0 ≤ i ∧ i < (inf.n : Int) := by omega
        simp [execOp, e, Instr.indexAt, asIntOf, hiv, run_underlying hu, e2, hin', sizeOf, typeInfo, hie, add_eq, b1]
    · cases h
  case index t x ix =>
    simp only [lop, e] at h
    split at h
    · rename_i l k i n e' hx hix hu
      split at h
      · rename_i ie obs' hie hob
        split at h
        · rename_i v hv
          simp only [Option.some.injEq, Prod.mk.injEq] at h
          obtain ⟨rfl, rfl, rfl, rfl⟩ := h
          obtain ⟨cv, hxv, hcs⟩ := lev_rel hσ hx
          have hiv : a.eval ix = .int k i := lev_rel hσ hix
          have hin := idxOK_spec hob ho
          obtain ⟨v', h1, h2⟩ := part_run (P := P) (w := w) hv hcs
          exact same rfl rfl v' h2 (by simp [execOp, e, Instr.index, asIntOf, hiv, run_underlying hu, hxv, hin, sizeOf, typeInfo, hie, h1])
        · cases h
      · cases h
    · rename_i l k0 i n e' hx hix hu
      split at h
      case h_2 => cases h
      rename_i n' ie k hsh hie hk
      split at h
      case h_2 => cases h
      rename_i ns hns hb
      simp only [Bool.and_eq_true] at hb
      have b1 := Nat.eq_of_beq_eq_true hb.1
      have b2 := Nat.eq_of_beq_eq_true hb.2
      simp only [Option.some.injEq, Prod.mk.injEq] at h
      obtain ⟨rfl, rfl, rfl, rfl⟩ := h
      obtain ⟨cv, hxv, hcs⟩ := lev_rel hσ hx
      have hiv : a.eval ix = .int k0 i := lev_rel hσ hix
      have hin := ho.1
      have hg := selI_get hns hcs i.toNat (by omega)
      obtain ⟨s1, s2⟩ := shape_run hsh w
      have hg' : cv[i.toNat]? = some (.int k (ns.getD i.toNat 0)) := by simpa using hg
      have hpart : (part e' cv (i.toNat * ie.size)).run P w = .ok (.int k (ns.getD i.toNat 0)) w := by
        rw [b2, Nat.mul_one]
        simp [part, s1, hg']
      exact same rfl rfl _ rfl (by simp [execOp, e, Instr.index, asIntOf, hiv, run_underlying hu, hxv, hin, sizeOf, typeInfo, hie, hpart])
    · rename_i q x' s k0 i hx hix hu
      split at h
      case h_2 => cases h
      rename_i obs' hob
      simp only [Option.some.injEq, Prod.mk.injEq] at h
      obtain ⟨rfl, rfl, rfl, rfl⟩ := h
      have hxv : a.eval x = .string x' := lev_rel hσ hx
      have hiv : a.eval ix = .int k0 i := lev_rel hσ hix
      have hin := idxOK_spec hob ho
      have hlt : i.toNat < x'.size := by omega
      have hb : x'[i.toNat]? = some x'[i.toNat] := getElem?_pos x' i.toNat hlt
      have hv : byteAt x' i.toNat = (x'[i.toNat]).toNat := by unfold byteAt; rw [hb]
      refine same rfl rfl (.int .u8 (byteAt x' i.toNat)) rfl ?_
      rw [hv]
      simp [execOp, e, Instr.index, asIntOf, hiv, run_underlying hu, hxv, hin]
    · cases h
  case makeFunc g first caps =>
    cases g
    case func f =>
      simp only [lop, e] at h
      split at h
      · rename_i l hf hl
        split at h
        · rename_i ps hps
          simp only [Option.some.injEq, Prod.mk.injEq] at h
          obtain ⟨rfl, rfl, rfl, rfl⟩ := h
          have hc := lcaps_rel hps (levs_rel hσ hl)
          have hfe : first = #[] := by rw [← Array.toList_eq_nil_iff]; exact hf
          exact same rfl rfl (.func (.func f) #[] (caps.map a.eval)) ⟨_, rfl, by simpa using hc⟩ (by simp [execOp, e, Instr.makeFunc, hfe])
        · cases h
      · cases h
    all_goals (simp [lop, e] at h)
  case extract x i =>
    simp only [lop, e] at h
    split at h
    · rename_i l hx
      obtain ⟨vs, hxv, hvs⟩ := lev_rel hσ hx
      split at h
      · rename_i y hy
        simp only [Option.some.injEq, Prod.mk.injEq] at h
        obtain ⟨rfl, rfl, rfl, rfl⟩ := h
        obtain ⟨v, hv, hr⟩ := hvs.get hy
        have hv' : vs[i]? = some v := by simpa using hv
        exact same rfl rfl v hr (by simp [execOp, e, Instr.extract, hxv, hv'])
      · rename_i y hy
        simp only [Option.some.injEq, Prod.mk.injEq] at h
        obtain ⟨rfl, rfl, rfl, rfl⟩ := h
        obtain ⟨v, hv, hr⟩ := hvs.get hy
        have hv' : vs[i]? = some v := by simpa using hv
        exact same rfl rfl v hr (by simp [execOp, e, Instr.extract, hxv, hv'])
      · cases h
    · cases h
  case binOp p t x y t2 =>
    simp only [lop, e] at h
    exact lbin_wp e h ho hσ hM (fun he he' v hv hr => same he he' v hv hr) (fun hc => calmCase hc (.inl ⟨p, t, x, y, t2, e⟩))
  case unOp p t x => exact calmCase (by simpa [lop, e] using h) (.inr (.inl ⟨p, t, x, e⟩))
  case convert s d x =>
    simp only [lop, e] at h
    split at h
    · rename_i r hr
      rw [h] at hr
      unfold lconv at hr
      split at hr
      case h_2 => cases hr
      rename_i el v hs hd hx
      split at hr
      case h_2 => cases hr
      rename_i he
      split at hr
      case h_2 => cases hr
      rename_i l hl
      simp only [Option.some.injEq, Prod.mk.injEq] at hr
      obtain ⟨rfl, rfl, rfl, rfl⟩ := hr
      have key : ∃ u, (convert s d (a.eval x)).run P w = .ok u w ∧ u = .string (bytesOf l) := by
        rcases src_run hM hl (lev_rel hσ hx) with ⟨rfl, a', c', e'⟩ | ⟨a', c', vs, e', q1, q2⟩
        · rw [e', run_convert_bytes_string w s d el a' 0 c' hs he hd]
          cases a' with
          | none => exact ⟨_, rfl, rfl⟩
          | some a' => exact ⟨_, run_bytesToString w a' 0 c' [] (by simp [loadCells, loadCellsFrom]), rfl⟩
        · rw [e', run_convert_bytes_string w s d el (some a') _ c' hs he hd]
          have hvs : vs = (l.map fun r => r.getD 0 0).map (Value.int .u8) := by
            obtain ⟨h1, h2⟩ := q1
            simp only [List.length_singleton, Nat.mul_one] at h1
            refine List.ext_getElem? fun i => ?_
            simp only [List.map_map, List.getElem?_map]
            cases hi : l[i]? with
            | none => simp only [Option.map_none]; exact List.getElem?_eq_none (by have := List.getElem?_eq_none_iff.1 hi; omega)
            | some row =>
              obtain ⟨g1, g2⟩ := h2 i row hi
              have g3 := g2 0 (row.getD 0 0) (.int .u8) (by
                simp only [List.length_singleton] at g1
                rw [List.getD_eq_getElem?_getD, List.getElem?_eq_getElem (by omega)]; rfl) rfl
              simpa [Kd.val] using g3
          refine ⟨_, run_bytesToString w a' _ c' (l.map fun r => r.getD 0 0) ?_, rfl⟩
          have hl' := run_loadCells_list (P := P) w a' vs q2
          rw [q1.1] at hl'
          simp only [List.length_singleton, Nat.mul_one] at hl'
          rw [hl', hvs]
      obtain ⟨u, k1, rfl⟩ := key
      exact same rfl rfl _ rfl (by simp [execOp, e, k1])
    · exact calmCase h (.inr (.inr (.inl ⟨s, d, x, e⟩)))
  case call c =>
    simp only [lop, e] at h
    obtain ⟨callee, as, ts⟩ := c
    cases callee with
    | value x => exact lcallF_wp hT e (by simpa only [lcall] using h) ho hσ hM hid hn
    | invoke r n => simp [lcall] at h
    | builtin b =>
      have calm' : calmOp P σ o = some (obs, lv, cs, hs) → o.wp P a w next Q := fun hc => calmCase hc (.inr (.inr (.inr ⟨b, as, ts, e⟩)))
      by_cases hbc : b = .copy
      · subst hbc
        simp only [lcall] at h
        split at h
        · rename_i x y tx ty hx ht
          have ex : as = #[x, y] := by rw [← hx]
          have et : ts = #[tx, ty] := by rw [← ht]
          subst ex et
          exact lcopy_wp e h hσ hM fun v w' k2 k3 => hn φ v w' φ.le_refl k2 (k3.drop fun _ hb => hb.1)
        · cases h
      by_cases hba : b = .append
      · subst hba
        simp only [lcall] at h
        split at h
        · rename_i x y tx ty hx ht
          have ex : as = #[x, y] := by rw [← hx]
          have et : ts = #[tx, ty] := by rw [← ht]
          subst ex et
          split at h
          · rename_i r hr
            rw [h] at hr
            exact lappend_wp e hr ho hσ hM hid0 fun φ' v w' k1 k2 k3 => hn φ' v w' k1 k2 (one k3)
          · exact lappendZ_wp e h ho hσ hM hid0 fun φ' v w' k1 k2 k3 => hn φ' v w' k1 k2 (one k3)
        · cases h
      · by_cases hb : b = .len
        · subst hb
          simp only [lcall] at h
          split at h
          · rename_i x t hx ht
            have ex : as = #[x] := by rw [← hx]
            have et : ts = #[t] := by rw [← ht]
            subst ex et
            split at h
            · rename_i s b v st el off n e' hl hu
              split at h
              case h_2 => cases h
              rename_i hd hcur
              simp only [Option.some.injEq, Prod.mk.injEq] at h
              obtain ⟨rfl, rfl, rfl, rfl⟩ := h
              obtain ⟨_, inf, g1, g2, g3⟩ := (lev_rel hσ hl : At.rel φ (.slc s b v st el off n) (a.eval x))
              obtain ⟨c1, c2⟩ := cur_spec hcur
              obtain ⟨inf', q1, q2, _⟩ := hM.hdr b hd c1
              rw [g1] at q1; simp only [Option.some.injEq] at q1; subst q1
              obtain ⟨_, ao, cap, g7, _⟩ := g3 (by rw [q2, c2])
              refine same rfl rfl (.int .i64 n) rfl ?_
              simp [execOp, e, resolve, invoke, builtin, Builtin.len_, g7, run_underlying hu, goInt]
            · rename_i b v el e' hl hu
              split at h
              case h_2 => cases h
              rename_i hd R hr
              simp only [Option.some.injEq, Prod.mk.injEq] at h
              obtain ⟨rfl, rfl, rfl, rfl⟩ := h
              obtain ⟨_, inf, g1, g2, g3⟩ := (lev_rel hσ hl : At.rel φ (.vec b v el) (a.eval x))
              obtain ⟨c1, c2, c3, c4, c5⟩ := rowsAt_spec hr
              obtain ⟨inf', q1, q2, q3, q4, q5⟩ := hM.hdr b hd c1
              rw [g1] at q1; simp only [Option.some.injEq] at q1; subst q1
              obtain ⟨q6, _⟩ := q5 R c3
              have : ∃ ao cap, a.eval x = .slice ao R.l.length cap := by
                rcases g3 (by rw [q2, c2]) with ⟨e1, e2, e3⟩ | ⟨r, o', cap, e1, e2, _⟩
                · exact ⟨none, 0, by rw [e3, q6, e2]⟩
                · exact ⟨_, cap, by rw [e2, q6]⟩
              obtain ⟨ao, cap, hxv⟩ := this
              refine same rfl rfl (.int .i64 R.l.length) rfl ?_
              simp [execOp, e, resolve, invoke, builtin, Builtin.len_, hxv, run_underlying hu, goInt]
            · rename_i e' hl hu
              simp only [Option.some.injEq, Prod.mk.injEq] at h
              obtain ⟨rfl, rfl, rfl, rfl⟩ := h
              have hv : a.eval x = .slice none 0 0 := lev_rel hσ hl
              refine same rfl rfl (.int .i64 0) rfl ?_
              simp [execOp, e, resolve, invoke, builtin, Builtin.len_, hv, run_underlying hu, goInt]
            · rename_i n e' hl hu hx1 hu1
              simp only [Option.some.injEq, Prod.mk.injEq] at h
              obtain ⟨rfl, rfl, rfl, rfl⟩ := h
              refine same rfl rfl (.int .i64 _) rfl ?_
              simp [execOp, e, resolve, invoke, builtin, Builtin.len_, run_underlying hu1, goInt]
            · exact calm' h
          · cases h
        · refine calm' ?_
          have : lcall P T id foot σ μ ρ ⟨.builtin b, as, ts⟩ o = calmOp P σ o := by cases b <;> first | rfl | exact absurd rfl hb | exact absurd rfl hba | exact absurd rfl hbc
          rw [← this]; exact h
  case slice t x lo hi mx =>
    cases mx with
    | some m => simp [lop, e] at h
    | none =>
    simp only [lop, e] at h
    split at h
    · rename_i b off n e' s l hx hu hl
      split at h
      case h_2 => cases h
      rename_i s' hh ie hd hbh hie hcur
      split at h
      case h_2 => cases h
      rename_i obs' hss hob
      split at h
      case h_2 => cases h
      rename_i hb hR
      simp only [Bool.and_eq_true] at hb
      obtain ⟨⟨b1, b2⟩, b3⟩ := hb
      have b1 := Nat.le_of_ble_eq_true b1
      have b2 := Nat.le_of_ble_eq_true b2
      simp only [Option.some.injEq, Prod.mk.injEq] at h
      obtain ⟨rfl, rfl, rfl, rfl⟩ := h
      obtain ⟨k1, k2, k3⟩ := bndOK_spec hob ho
      obtain ⟨c1, c2⟩ := cur_spec hcur
      have hr : prel φ (b, off) (a.eval x) := lev_rel hσ hx
      obtain ⟨_, inf, g1, g2, g3⟩ := hr
      have g1 : φ b = some inf := g1
      obtain ⟨inf', q1, q2, q3, q4, q5⟩ := hM.hdr b hd c1
      rw [g1] at q1; simp only [Option.some.injEq] at q1; subst q1
      obtain ⟨r, o', g4, g5⟩ := g3 (by rw [q2, c2])
      obtain ⟨_, hz, hnz⟩ := q4 (by simp [Hd.grows, hR])
      have hnz := hnz hR
      have hro : inf.ro = false ∨ inf.ro = true := by cases inf.ro <;> simp
      have hbnds := bounds_run (P := P) hσ hl hbh rfl k1 k2 k3 (Nat.le_refl n) false w
      refine same rfl rfl (.slice (some (if n = l.toNat then ⟨r, o' + off, none⟩ else (⟨r, o' + off, none⟩ : Addr).add (l.toNat * ie.size))) (hh.toNat - l.toNat) (n - l.toNat)) ⟨⟨rfl, rfl⟩, inf, g1, g2, fun _ => ⟨?_, ?_⟩⟩ ?_
      · have : n ≤ n * ie.size := Nat.le_mul_of_pos_right n (by omega)
        omega
      · refine ⟨_, _, rfl, by omega, ?_⟩
        by_cases hnl : n = l.toNat
        · left; omega
        · right; exact ⟨r, o', g4, by rw [if_neg hnl, add_eq, Nat.add_assoc]⟩
      · simp [execOp, e, Instr.sliceAt, run_underlying hu, Instr.sureAddr, g5, hbnds, sizeOf, typeInfo, hie]
    · rename_i q b v st el off n e' s l hx hu hl
      split at h
      case h_2 => cases h
      rename_i s' hh ie hd hbh hie hcur
      split at h
      case h_2 => cases h
      rename_i obs' hb hob
      simp only [Bool.and_eq_true] at hb
      have b1 := Nat.eq_of_beq_eq_true hb.1
      have b2 := Nat.le_of_ble_eq_true hb.2
      simp only [Option.some.injEq, Prod.mk.injEq] at h
      obtain ⟨rfl, rfl, rfl, rfl⟩ := h
      obtain ⟨k1, k2, k3⟩ := bndOK_spec hob ho
      obtain ⟨c1, c2⟩ := cur_spec hcur
      obtain ⟨_, inf, g1, g2, g3⟩ := (lev_rel hσ hx : At.rel φ (.slc q b v st el off n) (a.eval x))
      obtain ⟨inf', q1, q2, q3, q4, q5⟩ := hM.hdr b hd c1
      rw [g1] at q1; simp only [Option.some.injEq] at q1; subst q1
      obtain ⟨g6, ao, cap, g7, g8, g9⟩ := g3 (by rw [q2, c2])
      have hbnds := bounds_run (P := P) hσ hl hbh rfl k1 k2 k3 g8 true w
      refine same rfl rfl (.slice (if cap = l.toNat then ao else ao.map (·.add (l.toNat * ie.size))) (hh.toNat - l.toNat) (cap - l.toNat)) ⟨⟨rfl, rfl⟩, inf, g1, g2, fun _ => ⟨by omega, _, _, rfl, by omega, ?_⟩⟩ ?_
      · rcases g9 with g9 | ⟨r, o', g9, g10⟩
        · left; omega
        · by_cases hcl : cap = l.toNat
          · left; omega
          · right
            refine ⟨r, o', g9, ?_⟩
            rw [if_neg hcl, g10, Option.map_some, add_eq, b1, Nat.add_mul]
            congr 2; omega
      · simp [execOp, e, Instr.sliceAt, Instr.slice, run_underlying hu, g7, hbnds, sizeOf, typeInfo, hie]
    · rename_i b v el e' s l hx hu hl
      split at h
      case h_2 => cases h
      rename_i ie hd R hie hr
      split at h
      case h_2 => cases h
      rename_i s' hh hbh hb
      split at h
      case h_2 => cases h
      rename_i obs' hob
      simp only [Bool.and_eq_true] at hb
      have b1 := Nat.eq_of_beq_eq_true hb.1
      have b2 := Nat.le_of_ble_eq_true hb.2
      simp only [Option.some.injEq, Prod.mk.injEq] at h
      obtain ⟨rfl, rfl, rfl, rfl⟩ := h
      obtain ⟨k1, k2, k3⟩ := bndOK_spec hob ho
      obtain ⟨c1, c2, c3, c4, c5⟩ := rowsAt_spec hr
      obtain ⟨_, inf, g1, g2, g3⟩ := (lev_rel hσ hx : At.rel φ (.vec b v el) (a.eval x))
      obtain ⟨inf', q1, q2, q3, q4, q5⟩ := hM.hdr b hd c1
      rw [g1] at q1; simp only [Option.some.injEq] at q1; subst q1
      obtain ⟨q6, _⟩ := q5 R c3
      have hcase : ∃ ao cap, a.eval x = .slice ao R.l.length cap ∧ R.l.length ≤ cap ∧ (ao = none ∧ R.l.length = 0 ∨ ∃ r o', inf.a = some (r, o') ∧ ao = some ⟨r, o', none⟩) := by
        rcases g3 (by rw [q2, c2]) with ⟨e1, e2, e3⟩ | ⟨r, o', cap, e1, e2, e3, _⟩
        · exact ⟨none, 0, by rw [e3, q6, e2], by omega, .inl ⟨rfl, by omega⟩⟩
        · exact ⟨_, cap, by rw [e2, q6], by omega, .inr ⟨r, o', e1, rfl⟩⟩
      obtain ⟨ao, cap, g7, g8, g9⟩ := hcase
      have hbnds := bounds_run (P := P) hσ hl hbh rfl k1 k2 k3 g8 true w
      refine same rfl rfl (.slice (if cap = l.toNat then ao else ao.map (·.add (l.toNat * ie.size))) (hh.toNat - l.toNat) (cap - l.toNat)) ⟨⟨rfl, rfl⟩, inf, g1, g2, fun _ => ⟨by omega, _, _, rfl, by omega, ?_⟩⟩ ?_
      · rcases g9 with ⟨_, g9⟩ | ⟨r, o', g9, g10⟩
        · left; omega
        · by_cases hcl : cap = l.toNat
          · left; omega
          · right
            refine ⟨r, o', g9, ?_⟩
            rw [if_neg hcl, g10, Option.map_some, add_eq, b1]
            congr 2; omega
      · simp [execOp, e, Instr.sliceAt, Instr.slice, run_underlying hu, g7, hbnds, sizeOf, typeInfo, hie]
    · rename_i q y s l hx hu hl
      split at h
      case h_2 => cases h
      rename_i s' hh hbh
      split at h
      case h_2 => cases h
      rename_i obs' hob
      simp only [Option.some.injEq, Prod.mk.injEq] at h
      obtain ⟨rfl, rfl, rfl, rfl⟩ := h
      obtain ⟨k1, k2, k3⟩ := bndOK_spec hob ho
      have hxv : a.eval x = .string y := lev_rel hσ hx
      have hbnds := bounds_run (P := P) hσ hl hbh rfl k1 k2 k3 (Nat.le_refl _) false w
      refine same rfl rfl _ rfl ?_
      simp [execOp, e, Instr.sliceAt, Instr.slice, run_underlying hu, hxv, hbnds]
    · cases h
  case makeSlice t x y =>
    simp only [lop, e] at h
    unfold lmake at h
    split at h
    case h_2 => cases h
    rename_i el s n s' m hu hx hy
    split at h
    case h_2 => cases h
    rename_i zs ie hz hie
    split at h
    case h_2 => cases h
    rename_i sh hsh hb
    simp only [Bool.and_eq_true] at hb
    have b1 := Nat.le_of_ble_eq_true hb.1.1
    have b2 := Nat.eq_of_beq_eq_true hb.1.2
    have b3 := Nat.le_of_ble_eq_true hb.2
    split at h
    case h_2 => cases h
    rename_i row hrow
    simp only [Option.some.injEq, Prod.mk.injEq] at h
    obtain ⟨rfl, rfl, rfl, rfl⟩ := h
    obtain ⟨h0, rfl, hbnd⟩ := ho.1
    have hxv : a.eval x = .int .i64 n := lev_rel hσ hx
    have hyv : a.eval y = .int .i64 n := lev_rel hσ hy
    obtain ⟨zv, hzv, hzr, ie', hie', hzz⟩ := zero_run hz φ w
    rw [hie] at hie'; simp only [Option.some.injEq] at hie'; subst hie'
    have hzl := hzr.length
    have hzs : zv.cells.size = ie.size := by simp at hzl; omega
    have hnb : n ≤ n * (ie.bytes : Int) := by
      have h1 : (1 : Int) ≤ (ie.bytes : Int) := by omega
      have := Int.mul_le_mul_of_nonneg_left h1 h0
      simpa using this
    have hr := run_make (P := P) w t el ie zv hu hie hzz .i64 .i64 n n h0 (Int.le_refl _) (by rw [Int.mul_comm]; omega) (by omega)
    obtain ⟨e1, e2⟩ := encs_len hrow
    have hcells : ∀ k, k < n.toNat * ie.size → (madeCells zv.cells (n.toNat * ie.size))[k]? = some zv.cells[k % ie.size]! := by
      intro k hk
      simp [madeCells, hk, hzs]
    have hvals : RowsIn (madeCells zv.cells (n.toNat * ie.size)) 0 ⟨0, sh, List.replicate n.toNat row, none⟩ := by
      refine ⟨fun p row' hp => ?_, by simp only [size_madeCells, List.length_replicate]; rw [show sh.length = ie.size by omega]; omega⟩
      have hpn : p < n.toNat := by have := (List.getElem?_eq_some_iff.1 hp).1; simpa using this
      have hre : row' = row := by rw [List.getElem?_replicate, if_pos hpn] at hp; simp only [Option.some.injEq] at hp; exact hp.symm
      subst hre
      refine ⟨e1, fun j q k hj hk => ?_⟩
      have hjl : j < sh.length := (List.getElem?_eq_some_iff.1 hk).1
      have hval := encs_val hrow hzr j q k hj hk
      simp only [Nat.zero_add]
      have hsz : sh.length = ie.size := by omega
      rw [hsz] at hjl ⊢
      have hlt : p * ie.size + j < n.toNat * ie.size := by
        have := Nat.mul_le_mul_right ie.size (show p + 1 ≤ n.toNat by omega)
        rw [Nat.succ_mul] at this; omega
      rw [hcells _ hlt]
      have hmod : (p * ie.size + j) % ie.size = j := by
        rw [Nat.add_comm, Nat.add_mul_mod_self_right, Nat.mod_eq_of_lt hjl]
      rw [hmod]
      have hjz : j < zv.cells.size := by omega
      simp only [Array.getElem?_toList] at hval
      rw [← hval]
      simp [hjz]
    have hm := hM.newRows (b := id) (v := 0) (n := n.toNat) (.inl (hM.dom id hid0)) (R := ⟨0, sh, List.replicate n.toNat row, none⟩) (arr := madeCells zv.cells (n.toNat * ie.size)) (ty := el) (r := w.heap.size) (w' := w.alloc (.cells (madeCells zv.cells (n.toNat * ie.size)) el)) (.inr (Nat.le_refl _))
      (by show (w.heap.push _)[w.heap.size]? = _; simp) (fun k hk _ => Below.heap_alloc _ _ _ hk) rfl rfl rfl (by show _ ≤ (w.heap.push _).size; simp) (frozen_alloc w _ el) hvals rfl (by simp)
      (fun k x hx hk => cell_none hM hx (by rw [hk]; exact hM.dom id hid0))
    refine wp_value (v := .slice (some ⟨w.heap.size, 0, none⟩) n.toNat n.toNat) (w' := w.alloc (.cells (madeCells zv.cells (n.toNat * ie.size)) el)) ?_ (hn _ _ _ hm.1 ⟨⟨rfl, rfl⟩, _, setP_same _ _ _, Nat.le_refl _, fun _ => .inr ⟨w.heap.size, 0, n.toNat, rfl, rfl, Nat.le_refl _, by rw [b2, size_madeCells], by simp only [maxLen]; omega⟩⟩ (one hm.2))
    simp [execOp, e, hxv, hyv, hr]
  case buildSlice t len parts =>
    simp only [lop, e] at h
    split at h
    · rename_i ps e' hps hu
      split at h
      · rename_i z ie hz hie
        split at h
        · rename_i hb
          simp only [Bool.and_eq_true] at hb
          have hb1 := Nat.eq_of_beq_eq_true hb.1
          have hb2 := Nat.le_of_ble_eq_true hb.2
          have hs : (sizeOf e').run P w = .ok ie.size w := by simp [sizeOf, typeInfo, hie]
          split at h
          · split at h
            · rename_i sh hsh
              simp only [Option.some.injEq, Prod.mk.injEq] at h
              obtain ⟨rfl, rfl, rfl, rfl⟩ := h
              have hm := hM.newRows (b := id) (v := 0) (n := 0) (.inl (hM.dom id hid0)) (R := ⟨0, sh, [], none⟩) (arr := #[]) (ty := e') (r := w.heap.size) (w' := w.alloc (.cells #[] e')) (.inr (Nat.le_refl _))
                (by show (w.heap.push _)[w.heap.size]? = _; simp) (fun k hk _ => Below.heap_alloc _ _ _ hk) rfl rfl rfl (by show _ ≤ (w.heap.push _).size; simp) (frozen_alloc w #[] e') ⟨fun p row hp => by simp at hp, by simp⟩ rfl rfl
                (fun k x hx hk => cell_none hM hx (by rw [hk]; exact hM.dom id hid0))
              refine wp_value (v := .slice (some ⟨w.heap.size, 0, none⟩) 0 0) (w' := w.alloc (.cells #[] e')) ?_ (hn _ _ _ hm.1 ⟨⟨rfl, rfl⟩, _, setP_same _ _ _, Nat.le_refl _, fun _ => .inr ⟨w.heap.size, 0, 0, rfl, rfl, Nat.le_refl _, by simp, Nat.zero_le _⟩⟩ (one hm.2))
              have hpl : parts.toList = [] := by
                rename_i hps'
                cases hp : parts.toList with
                | nil => rfl
                | cons q r =>
                  rw [hp] at hps
                  simp only [lparts] at hps
                  split at hps <;> simp at hps
              have hpe : parts = #[] := by rw [← Array.toList_eq_nil_iff]; exact hpl
              subst hpe
              simp [execOp, e, Instr.buildSlice, run_underlying hu, hs, Instr.fill, newRow, show (Array.range 0) = (#[] : Array Nat) from rfl]
            · cases h
          · rename_i len0
            split at h
            · rename_i hb4
              have hb3 := Nat.le_of_ble_eq_true hb4
              split at h
              · rename_i l hl
                obtain ⟨v, hv, hrel, _⟩ := zero_run hz φ w
                have hvl := hrel.length
                have hzs : v.cells.size = ie.size := by simp at hvl; omega
                have hpos : 0 < ie.size := by omega
                have hrow : ((Array.range ((len0 + 1) * ie.size)).map fun x => v.cells[x % v.cells.size]!).toList = (List.replicate (len0 + 1) v.cells.toList).flatten := by
                  rw [hzs]
                  apply List.ext_getElem?
                  intro j
                  have hfl : ∀ (m : Nat) (j : Nat), ((List.replicate m v.cells.toList).flatten)[j]? = if j < m * ie.size then some v.cells[j % ie.size]! else none := by
                    intro m
                    induction m with
                    | zero => intro j; simp
                    | succ m ih =>
                      intro j
                      rw [List.replicate_succ, List.flatten_cons, List.getElem?_append]
                      have hll : v.cells.toList.length = ie.size := by simpa using hzs
                      rw [hll]
                      by_cases hj : j < ie.size
                      · have h1 : j < (m + 1) * ie.size := by rw [Nat.succ_mul]; omega
                        have h2 : j < v.cells.size := by omega
                        simp [hj, h1, Nat.mod_eq_of_lt hj, h2]
                      · rw [if_neg hj, ih]
                        have e1 : (j - ie.size) % ie.size = j % ie.size := by
                          conv => rhs; rw [← Nat.sub_add_cancel (Nat.le_of_not_lt hj)]
                          simp
                        rw [e1, Nat.succ_mul]
                        by_cases h2 : j < m * ie.size + ie.size
                        · rw [if_pos h2, if_pos (by omega)]
                        · rw [if_neg h2, if_neg (by omega)]
                  rw [hfl]
                  simp
                  split <;> simp_all
                have hflat : ∀ m : Nat, All2 (At.rel φ) (List.replicate m z).flatten (List.replicate m v.cells.toList).flatten := by
                  intro m
                  induction m with
                  | zero => simp; exact .nil
                  | succ m ih => simp only [List.replicate_succ, List.flatten_cons]; exact hrel.append ih
                obtain ⟨out, ho1, ho2⟩ := fill_run (φ := φ) _ hl (lparts_rel hσ hps) (arr := (Array.range ((len0 + 1) * ie.size)).map fun x => v.cells[x % v.cells.size]!) (by rw [hrow]; exact hflat (len0 + 1))
                have hol : out.size = (len0 + 1) * ie.size := by
                  have h1 := lfill_len hl
                  have h2 := ho2.length
                  have h3 : ((List.replicate (len0 + 1) z).flatten).length = (len0 + 1) * z.length := by simp
                  rw [h3, hb1] at h1
                  have h4 : l.length = out.size := by simpa using h2
                  omega
                have hle1 : len0 + 1 ≤ (len0 + 1) * ie.size := Nat.le_mul_of_pos_right _ hpos
                have hle : ¬ ((len0 + 1) * ie.size > 2 ^ 24) := by omega
                have hne : ¬ ((len0 + 1) * ie.size = 0) := by omega
                have hex : (execOp a.eval o).run P w = .ok (.value (.slice (some ⟨w.heap.size, 0, none⟩) (len0 + 1) (len0 + 1))) (w.alloc (.cells out e')) := by
                  simp only [execOp, e, Instr.buildSlice, Sem.run_bind, run_underlying hu, Result.andThen_ok]
                  simp only [hs, Result.andThen_ok, hle, if_false, hne, Sem.run_bind, hv]
                  simp [ho1, newRow]
                split at h
                · simp only [Option.some.injEq, Prod.mk.injEq] at h
                  obtain ⟨rfl, rfl, rfl, rfl⟩ := h
                  obtain ⟨m1, m2⟩ := hM.newCells hid0 e' ho2 (by have := ho2.length; simp at this; omega)
                  exact wp_value (v := .slice (some ⟨w.heap.size, 0, none⟩) (len0 + 1) (len0 + 1)) (w' := w.alloc (.cells out e')) hex (hn _ _ _ m1 ⟨⟨rfl, rfl⟩, _, setP_same _ _ _, Nat.le_refl _, fun _ => ⟨by show 0 + (len0 + 1) ≤ out.size; omega, _, _, rfl, Nat.le_refl _, .inr ⟨_, _, rfl, by simp⟩⟩⟩ (one m2))
                · split at h
                  case h_2 => cases h
                  rename_i sh hsh
                  split at h
                  case h_2 => cases h
                  rename_i rows hrows
                  simp only [Option.some.injEq, Prod.mk.injEq] at h
                  obtain ⟨rfl, rfl, rfl, rfl⟩ := h
                  have hshl : sh.length = z.length := kdsOf_len hsh
                  obtain ⟨e1, e2, e3⟩ := encRows_spec hrows ho2
                  have hm := hM.newRows (b := id) (v := 0) (n := len0 + 1) (.inl (hM.dom id hid0)) (R := ⟨0, sh, rows, none⟩) (arr := out) (ty := e') (r := w.heap.size) (w' := w.alloc (.cells out e')) (.inr (Nat.le_refl _))
                    (by show (w.heap.push _)[w.heap.size]? = _; simp) (fun k hk _ => Below.heap_alloc _ _ _ hk) rfl rfl rfl (by show _ ≤ (w.heap.push _).size; simp) (frozen_alloc w out e')
                    ⟨fun p row hp => by
                      obtain ⟨q1, q2⟩ := e3 p row hp
                      refine ⟨q1, fun j n k hj hk => ?_⟩
                      have := q2 j n k hj hk
                      simpa using this, by simp only [e1, Nat.zero_add, Nat.add_zero]; rw [hshl, hb1, hol]; exact Nat.le_refl _⟩ rfl e1
                    (fun k x hx hk => cell_none hM hx (by rw [hk]; exact hM.dom id hid0))
                  exact wp_value (v := .slice (some ⟨w.heap.size, 0, none⟩) (len0 + 1) (len0 + 1)) (w' := w.alloc (.cells out e')) hex (hn _ _ _ hm.1 ⟨⟨rfl, rfl⟩, _, setP_same _ _ _, Nat.le_refl _, fun _ => .inr ⟨w.heap.size, 0, len0 + 1, rfl, rfl, Nat.le_refl _, by rw [hb1, hol], by simp only [maxLen]; omega⟩⟩ (one hm.2))
              · cases h
            · cases h
        · cases h
      · cases h
    · cases h
  all_goals (simp [lop, e] at h)

end
end Go.Proofs.Ytcdejlgophpdjaa.V
