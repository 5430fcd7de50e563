/-
  One operation: what the function says of it holds of the real one.
-/
import Derived.Test.YthgjacfikicgnaaKd
namespace Go.Proofs.Ythgjacfikicgnaa.K
open Go Go.RowKit

def eff (μ : Loc) : Option (Nat × List At) → Loc
  | none => μ
  | some (b, l) => upd μ b l

section
variable {P : Program} {w0 : World} {may : Nat → Prop} {φ : Phi} {σ : Sig} {μ : Loc} {fr : Nat → Prop} {w : World} {a : Act} {o : Oper}

theorem fn_inv {f : Nat} {caps : List (Nat × Nat)} {v : Value} (h : (LV.a (.fn f caps)).rel φ v) : ∃ cs : Array Value, v = .func (.func f) #[] cs ∧ All2 (prel φ) caps cs.toList := h

theorem lcall_wp {T : Tab} (hT : TOK P T) {c : Call} {obs : List Prop} {lv : LV} {ef : Option (Nat × List At)} (e : o.op = .call c) (h : lcall P T σ c o = some (obs, lv, ef)) (ho : Alls obs) (hσ : TRel φ σ a.tmps)
    (hM : MR w0 may φ μ fr w) {next : Act → World → Prop} {Q : Exit → Act → World → Prop} (hn : ∀ v w', lv.rel φ v → MR w0 may φ μ fr w' → next (a.put o.dst v) w') : ef = none ∧ o.wp P a w next Q := by
  obtain ⟨callee, as, ts⟩ := c
  cases callee with
  | value x =>
    simp only [lcall] at h
    split at h
    · rename_i f caps args hf ha
      split at h
      · rename_i obs' v hfind
        · simp only [Option.some.injEq, Prod.mk.injEq] at h
          obtain ⟨rfl, rfl, rfl⟩ := h
          refine ⟨rfl, ?_⟩
          obtain ⟨con, hc, hcon⟩ := find_mem hfind
          obtain ⟨hent, hpure⟩ := hT _ hc
          obtain ⟨cs, hfv, hcs⟩ := fn_inv (lev_rel hσ hf)
          have hargs := levs_rel hσ ha
          have hall : All2 (LV.rel φ) (args ++ caps.map fun p => .a (.ptr p.1 p.2)) (as.map a.eval ++ cs).toList := by
            rw [Array.toList_append, Array.toList_map]
            exact hargs.append (caps_rel hcs)
          have hcall := hpure _ _ _ hcon ho φ _ w hall
          refine wp_enter (f := f) (args := as.map a.eval ++ cs) (w' := w) ?_ hcall ?_
          · have := calm_run _ (hent (as.map a.eval ++ cs)) w
            simp only [execOp, e, resolve, hfv, Deferred.ofValue, invoke, Sem.run_bind, Array.empty_append]
            simpa using this
          · rintro e' w'' ⟨v', rfl, hv, hb⟩
            exact ⟨v', rfl, hn v' w'' (LV.rel_mono (fun _ _ hh => by cases hh) hv) (hM.below hb)⟩
      · cases h
    · cases h
  | invoke r n => simp [lcall] at h
  | builtin b =>
    have calmCase : calmOp P σ o = some (obs, lv, ef) → ef = none ∧ o.wp P a w next Q := fun hc => by
      obtain ⟨v, hr, hv, rfl⟩ := calmOp_run (w := w) hc hσ (.inr (.inr (.inr ⟨b, as, ts, e⟩)))
      exact ⟨rfl, wp_value hr (hn v w hv hM)⟩
    by_cases hb : b = .len
    · subst hb
      simp only [lcall] at h
      split at h
      · rename_i x t hx ht
        have ex : as = #[x] := by rw [← hx]
        have et : ts = #[t] := by rw [← ht]
        subst ex et
        split at h
        · rename_i n n' c e' hl hu
          simp only [Option.some.injEq, Prod.mk.injEq] at h
          obtain ⟨rfl, rfl, rfl⟩ := h
          obtain ⟨r, _, hv⟩ := lev_rel hσ hl
          refine ⟨rfl, wp_value (v := .int .i64 n') (w' := w) ?_ (hn _ w rfl hM)⟩
          simp [execOp, e, resolve, invoke, builtin, Builtin.len_, hv, run_underlying hu, goInt]
        · rename_i e' hl hu
          simp only [Option.some.injEq, Prod.mk.injEq] at h
          obtain ⟨rfl, rfl, rfl⟩ := h
          have hv : a.eval x = .slice none 0 0 := lev_rel hσ hl
          refine ⟨rfl, wp_value (v := .int .i64 0) (w' := w) ?_ (hn _ w rfl hM)⟩
          simp [execOp, e, resolve, invoke, builtin, Builtin.len_, hv, run_underlying hu, goInt]
        · rename_i n e' hl hu hx1 hu1
          simp only [Option.some.injEq, Prod.mk.injEq] at h
          obtain ⟨rfl, rfl, rfl⟩ := h
          refine ⟨rfl, wp_value (v := .int .i64 _) (w' := w) ?_ (hn _ w rfl hM)⟩
          simp [execOp, e, resolve, invoke, builtin, Builtin.len_, run_underlying hu1, goInt]
        · exact calmCase h
      · cases h
    · refine calmCase ?_
      have : lcall P T σ ⟨.builtin b, as, ts⟩ o = calmOp P σ o := by cases b <;> first | rfl | exact absurd rfl hb
      rw [← this]; exact h

theorem lpart_one {t : TypeId} {l : List At} {cs : Array Value} {off : Nat} {lv : LV} (h : lpart P t l off = some lv) (hl : All2 (At.rel φ) l cs.toList) (w : World) :
    ∃ v, (part t cs off).run P w = .ok v w ∧ lv.rel φ v := part_run h hl

theorem leqFields_run {d : Nat} {rec : TypeId → LV → LV → Option Bool} (hrec : ∀ t x y b u v w, rec t x y = some b → x.rel φ u → y.rel φ v → (Op.equalIn d t u v).run P w = .ok b w) {xs ys : List At} {us vs : Array Value}
    (hx : All2 (At.rel φ) xs us.toList) (hy : All2 (At.rel φ) ys vs.toList) : ∀ {fs : List Field} {b : Bool} (w : World), leqFields P rec xs ys fs = some b → (Op.eqFields d us vs fs).run P w = .ok b w
  | [], b, w, h => by simp only [leqFields, Option.some.injEq] at h; subst h; simp [Op.eqFields]
  | f :: fs, b, w, h => by
    unfold leqFields at h
    split at h
    · rename_i x y hn h1 h2
      have hn' : f.name ≠ "_" := of_decide_eq_false hn
      obtain ⟨u, u1, u2⟩ := lpart_one (P := P) h1 hx w
      obtain ⟨v, v1, v2⟩ := lpart_one (P := P) h2 hy w
      split at h
      · rename_i a ha
        simp only [Option.some.injEq] at h; subst h
        have h3 := hrec _ _ _ _ u v w ha u2 v2
        simp only [Op.eqFields, hn', ne_eq, not_false_eq_true, if_true, Sem.run_bind, u1, v1, h3, Result.andThen_ok]
        cases a <;> simp
      · rename_i a g gs ha
        have h3 := hrec _ _ _ _ u v w ha u2 v2
        split at h
        · rename_i b' hb'
          simp only [Option.some.injEq] at h; subst h
          have ih := leqFields_run hrec hx hy w hb'
          unfold Op.eqFields
          simp only [hn', ne_eq, not_false_eq_true, if_true, Sem.run_bind, u1, v1, h3, Result.andThen_ok]
          cases a
          · simp
          · simpa using ih
        · cases h
      · cases h
    · cases h

theorem leqItems_run {d : Nat} {rec : TypeId → LV → LV → Option Bool} (hrec : ∀ t x y b u v w, rec t x y = some b → x.rel φ u → y.rel φ v → (Op.equalIn d t u v).run P w = .ok b w) {xs ys : List At} {us vs : Array Value} {e : TypeId} {n : Nat}
    (hx : All2 (At.rel φ) xs us.toList) (hy : All2 (At.rel φ) ys vs.toList) : ∀ {is : List Nat} {b : Bool} (w : World), leqItems P rec e n xs ys is = some b → (Op.eqItems d e n us vs is).run P w = .ok b w
  | [], b, w, h => by simp only [leqItems, Option.some.injEq] at h; subst h; simp [Op.eqItems]
  | i :: is, b, w, h => by
    unfold leqItems at h
    split at h
    · rename_i x y h1 h2
      obtain ⟨u, u1, u2⟩ := lpart_one (P := P) h1 hx w
      obtain ⟨v, v1, v2⟩ := lpart_one (P := P) h2 hy w
      split at h
      · rename_i a ha
        simp only [Option.some.injEq] at h; subst h
        have h3 := hrec _ _ _ _ u v w ha u2 v2
        simp only [Op.eqItems, Sem.run_bind, u1, v1, h3, Result.andThen_ok]
        cases a <;> simp
      · rename_i a g gs ha
        have h3 := hrec _ _ _ _ u v w ha u2 v2
        split at h
        · rename_i b' hb'
          simp only [Option.some.injEq] at h; subst h
          have ih := leqItems_run hrec hx hy w hb'
          unfold Op.eqItems
          simp only [Sem.run_bind, u1, v1, h3, Result.andThen_ok]
          cases a
          · simp
          · simpa using ih
        · cases h
      · cases h
    · cases h

theorem leq_run (D : Nat) : ∀ (d : Nat) (t : TypeId) (x y : LV) (b : Bool) (u v : Value) (w : World), leq P d t x y = some b → x.rel φ u → y.rel φ v → (Op.equalIn (D + d) t u v).run P w = .ok b w
  | 0, t, x, y, b, u, v, w, h, _, _ => by simp [leq] at h
  | d + 1, t, x, y, b, u, v, w, h, hx, hy => by
    have ih := leq_run D d
    rw [show D + (d + 1) = (D + d) + 1 by omega]
    unfold leq at h
    split at h
    · rename_i k1 k a k' b' hu
      split at h
      · rename_i hk
        have hk' := of_decide_eq_true hk
        subst hk'
        simp only [Option.some.injEq] at h; subst h
        have e1 : u = .int k a := hx
        have e2 : v = .int k b' := hy
        subst e1 e2
        exact run_equalIn_int w _ t _ _ _ _ hu
      · cases h
    · rename_i a b' hu
      simp only [Option.some.injEq] at h; subst h
      have e1 : u = .bool a := hx
      have e2 : v = .bool b' := hy
      subst e1 e2
      exact run_equalIn_bool' w _ t _ _ hu
    · rename_i a b' hu
      simp only [Option.some.injEq] at h; subst h
      have e1 : u = .string a := hx
      have e2 : v = .string b' := hy
      subst e1 e2
      exact run_equalIn_string w _ t _ _ hu
    · rename_i fs xs ys hu
      split at h
      · rename_i hs
        obtain ⟨us, rfl, hus⟩ := hx
        obtain ⟨vs, rfl, hvs⟩ := hy
        have hf : P.fieldsOf t = fs := by simp [Program.fieldsOf, hu]
        rw [run_equalIn_struct w _ t _ _ (by rw [hf]; exact hu) hs, hf]
        exact leqFields_run (fun t x y b u v w => ih t x y b u v w) hus hvs w h
      · cases h
    · rename_i n e xs ys hu
      split at h
      · rename_i i hi
        obtain ⟨us, rfl, hus⟩ := hx
        obtain ⟨vs, rfl, hvs⟩ := hy
        have hcs : P.cellsOf e = i.size := by simp [Program.cellsOf, hi]
        rw [run_equalIn_array w _ us vs hu hi, hcs]
        exact leqItems_run (fun t x y b u v w => ih t x y b u v w) hus hvs w h
      · cases h
    · cases h

theorem leqOp_run {t : TypeId} {xs ys : List At} {b : Bool} (h : leqOp P t (.g xs) (.g ys) = some b) {u v : Value} (hx : (LV.g xs).rel φ u) (hy : (LV.g ys).rel φ v) (w : World) (op : BinOp) (x y : Operand) :
    (eqGuard op t x y u v).run P w = .ok () w ∧ (Op.equalIn 10000 t u v).run P w = .ok b w := by
  unfold leqOp at h
  split at h
  · rename_i hg
    refine ⟨?_, leq_run 9980 20 t _ _ b u v w h hx hy⟩
    obtain ⟨us, rfl, _⟩ := hx
    obtain ⟨vs, rfl, _⟩ := hy
    unfold eqGuard
    by_cases ho : (op matches .eql | .neq) = true
    · simp [hg]
    · simp [hg]
  · cases h

theorem lbin_wp {p : BinOp} {t : TypeId} {x y : Operand} {t2 : TypeId} {d : D} {obs : List Prop} {lv : LV} {ef : Option (Nat × List At)} {G : Prop} (e : o.op = .binOp p t x y t2) (h : lbin P σ d p t x y o = some (obs, lv, ef)) (ho : Alls obs) (hσ : TRel φ σ a.tmps)
    (same : ef = none → ∀ v, lv.rel φ v → (execOp a.eval o).run P w = .ok (.value v) w → G) (calmCase : calmOp P σ o = some (obs, lv, ef) → G) : G := by
  unfold lbin at h
  split at h
  · rename_i xs ys hx hy
    have rx := lev_rel hσ hx
    have ry := lev_rel hσ hy
    split at h
    · split at h
      · rename_i b hb
        simp only [Option.some.injEq, Prod.mk.injEq] at h
        obtain ⟨rfl, rfl, rfl⟩ := h
        obtain ⟨g1, g2⟩ := leqOp_run hb rx ry w .eql x y
        obtain ⟨us, hu, _⟩ := rx
        obtain ⟨vs, hv, _⟩ := ry
        refine same rfl (.bool b) rfl ?_
        simp only [execOp, e, Sem.run_bind, g1, Result.andThen_ok]
        rw [hu, hv] at g2
        rw [hu, hv]
        simp [run_eql_struct, g2]
      · cases h
    · split at h
      · rename_i b hb
        simp only [Option.some.injEq, Prod.mk.injEq] at h
        obtain ⟨rfl, rfl, rfl⟩ := h
        obtain ⟨g1, g2⟩ := leqOp_run hb rx ry w .neq x y
        obtain ⟨us, hu, _⟩ := rx
        obtain ⟨vs, hv, _⟩ := ry
        refine same rfl (.bool (!b)) rfl ?_
        simp only [execOp, e, Sem.run_bind, g1, Result.andThen_ok]
        rw [hu, hv] at g2
        rw [hu, hv]
        simp [run_neq_struct, g2]
      · cases h
    · cases h
  · rename_i k n k' m hx hy
    have rx : a.eval x = .int k n := lev_rel hσ hx
    have ry : a.eval y = .int k' m := lev_rel hσ hy
    split at h
    · split at h
      · rename_i obs' hk hd
        simp only [Option.some.injEq, Prod.mk.injEq] at h
        obtain ⟨rfl, rfl, rfl⟩ := h
        have hk' := of_decide_eq_true hk
        subst hk'
        have hm := divOK_spec hd ho
        refine same rfl (.int k _) rfl ?_
        simp [execOp, e, rx, ry, eqGuard, binOp, Op.intDiv, hm]
      · cases h
    · split at h
      · rename_i obs' hk hd
        simp only [Option.some.injEq, Prod.mk.injEq] at h
        obtain ⟨rfl, rfl, rfl⟩ := h
        have hk' := of_decide_eq_true hk
        subst hk'
        have hm := divOK_spec hd ho
        refine same rfl (.int k _) rfl ?_
        simp [execOp, e, rx, ry, eqGuard, binOp, Op.intDiv, hm]
      · cases h
    · split at h
      · rename_i obs' hd
        simp only [Option.some.injEq, Prod.mk.injEq] at h
        obtain ⟨rfl, rfl, rfl⟩ := h
        have hm := shOK_spec hd ho
        have hm' : ¬ m < 0 := by omega
        refine same rfl (.int k _) rfl ?_
        simp [execOp, e, rx, ry, eqGuard, binOp, Op.shift, hm']
      · cases h
    · split at h
      · rename_i obs' hd
        simp only [Option.some.injEq, Prod.mk.injEq] at h
        obtain ⟨rfl, rfl, rfl⟩ := h
        have hm := shOK_spec hd ho
        have hm' : ¬ m < 0 := by omega
        refine same rfl (.int k _) rfl ?_
        simp [execOp, e, rx, ry, eqGuard, binOp, Op.shift, hm']
      · cases h
    · exact calmCase h
  · exact calmCase h

theorem lop_wp {T : Tab} (hT : TOK P T) {id : Nat} {d : D} {obs : List Prop} {lv : LV} {ef : Option (Nat × List At)} (h : lop P T id σ μ d o = some (obs, lv, ef)) (ho : Alls obs) (hσ : TRel φ σ a.tmps)
    (hM : MR w0 may φ μ fr w) (hid : fr id) {next : Act → World → Prop} {Q : Exit → Act → World → Prop}
    (hn : ∀ φ' v w', φ.le φ' → lv.rel φ' v → MR w0 may φ' (eff μ ef) (fun b => fr b ∧ b ≠ id) w' → next (a.put o.dst v) w') : o.wp P a w next Q := by
  have keep : MR w0 may φ μ (fun b => fr b ∧ b ≠ id) w := hM.drop fun _ hb => hb.1
  have same : ef = none → ∀ v, lv.rel φ v → (execOp a.eval o).run P w = .ok (.value v) w → o.wp P a w next Q := fun he v hv hr => by
    subst he; exact wp_value hr (hn φ v w φ.le_refl hv keep)
  have calmCase : calmOp P σ o = some (obs, lv, ef) → ((∃ p t x y t2, o.op = .binOp p t x y t2) ∨ (∃ p t x, o.op = .unOp p t x) ∨ (∃ s d x, o.op = .convert s d x) ∨ (∃ b as ts, o.op = .call ⟨.builtin b, as, ts⟩)) → o.wp P a w next Q := fun hc hk => by
    obtain ⟨v, hr, hv, he⟩ := calmOp_run (w := w) hc hσ hk
    exact same he v hv hr
  cases e : o.op
  case move x =>
    simp only [lop, e] at h
    split at h
    · rename_i v hv
      simp only [Option.some.injEq, Prod.mk.injEq] at h
      obtain ⟨rfl, rfl, rfl⟩ := h
      exact same rfl _ (lev_rel hσ hv) (by simp [execOp, e])
    · cases h
  case assign x =>
    simp only [lop, e] at h
    split at h
    · rename_i v hv
      simp only [Option.some.injEq, Prod.mk.injEq] at h
      obtain ⟨rfl, rfl, rfl⟩ := h
      exact same rfl _ (lev_rel hσ hv) (by simp [execOp, e])
    · cases h
  case pick c x y =>
    simp only [lop, e] at h
    split at h
    · rename_i q hq
      obtain ⟨lc, hlc, hq2⟩ := Option.bind_eq_some_iff.1 hq
      have hcv : a.eval c = .bool q := by
        have := lev_rel hσ hlc
        unfold lbool at hq2
        split at hq2
        · simp only [Option.some.injEq] at hq2; subst hq2; exact this
        · cases hq2
      split at h
      · rename_i v hv
        simp only [Option.some.injEq, Prod.mk.injEq] at h
        obtain ⟨rfl, rfl, rfl⟩ := h
        cases q
        · exact same rfl _ (lev_rel hσ hv) (by simp [execOp, e, hcv, asBool])
        · exact same rfl _ (lev_rel hσ hv) (by simp [execOp, e, hcv, asBool])
      · cases h
    · cases h
  case alloc t =>
    simp only [lop, e] at h
    split at h
    · rename_i l hl
      simp only [Option.some.injEq, Prod.mk.injEq] at h
      obtain ⟨rfl, rfl, rfl⟩ := h
      obtain ⟨v, hv, hrel, _⟩ := zero_run hl φ w
      have hm := hM.new hid t hrel
      refine wp_value (v := .pointer (some ⟨w.heap.size, 0, none⟩)) (w' := w.alloc (.cells v.cells t)) ?_ (hn _ _ _ (phi_upd_le (hM.dom id hid)) ⟨_, upd_same _ _ _, rfl⟩ hm)
      simp [execOp, e, Instr.alloc, hv, newVar, newRow]
    · cases h
  case box t x =>
    simp only [lop, e] at h
    split at h
    · rename_i l hl
      simp only [Option.some.injEq, Prod.mk.injEq] at h
      obtain ⟨rfl, rfl, rfl⟩ := h
      obtain ⟨lx, hlx, hc⟩ := Option.bind_eq_some_iff.1 hl
      have hrel := vcells_rel (lev_rel hσ hlx) hc
      have hm := hM.new hid t hrel
      refine wp_value (v := .pointer (some ⟨w.heap.size, 0, none⟩)) (w' := w.alloc (.cells (a.eval x).cells t)) ?_ (hn _ _ _ (phi_upd_le (hM.dom id hid)) ⟨_, upd_same _ _ _, rfl⟩ hm)
      simp [execOp, e, Instr.box, newVar, newRow]
    · cases h
  case build t parts =>
    simp only [lop, e] at h
    split at h
    · rename_i ps hps
      split at h
      · rename_i l hl
        simp only [Option.some.injEq, Prod.mk.injEq] at h
        obtain ⟨rfl, rfl, rfl⟩ := h
        obtain ⟨out, h1, h2⟩ := built_run hl (lparts_rel hσ hps) w
        have hb := run_build (P := P) w t (parts.map fun p => (p.1, a.eval p.2)) out (by simpa using h1)
        exact same rfl (.agg out) ⟨_, rfl, h2⟩ (by simp [execOp, e, hb])
      · cases h
    · cases h
  case load t x =>
    simp only [lop, e] at h
    split at h
    · rename_i b off hx
      split at h
      · rename_i v hv
        simp only [Option.some.injEq, Prod.mk.injEq] at h
        obtain ⟨rfl, rfl, rfl⟩ := h
        obtain ⟨r, hr, hxv⟩ := lev_rel hσ hx
        obtain ⟨v', h1, h2⟩ := load_run (P := P) hM hv hr
        exact same rfl v' h2 (by simp [execOp, e, Instr.loadAt, Instr.sureAddr, hxv, h1])
      · cases h
    · cases h
  case store t x y =>
    simp only [lop, e] at h
    split at h
    · rename_i b off vs q n hx hy hs
      split at h
      · rename_i l hl
        split at h
        · rename_i hb
          simp only [Option.some.injEq, Prod.mk.injEq] at h
          obtain ⟨rfl, rfl, rfl⟩ := h
          simp only [Bool.and_eq_true] at hb
          have hb1 := Nat.eq_of_beq_eq_true hb.1
          have hb2 := Nat.le_of_ble_eq_true hb.2
          obtain ⟨r, hr, hxv⟩ := lev_rel hσ hx
          obtain ⟨ly, hly, hc⟩ := Option.bind_eq_some_iff.1 hy
          have hrel := vcells_rel (lev_rel hσ hly) hc
          obtain ⟨w', h1, h2⟩ := store_run (P := P) hM hr hl hs hrel hb1 hb2
          refine wp_skip' (w' := w') (by simp [execOp, e, Instr.storeAt, Instr.sureAddr, hxv, h1]) (hn φ _ w' φ.le_refl ⟨_, rfl, .nil⟩ (h2.drop fun _ hh => hh.1))
        · cases h
      · cases h
    · cases h
  case nilCheck x =>
    simp only [lop, e] at h
    split at h
    · rename_i b off hx
      simp only [Option.some.injEq, Prod.mk.injEq] at h
      obtain ⟨rfl, rfl, rfl⟩ := h
      have hr := lev_rel hσ hx
      obtain ⟨r, hr1, hxv⟩ := hr
      have hr := lev_rel hσ hx
      exact same rfl _ hr (by simp [execOp, e, hxv])
    · rename_i f caps hx
      simp only [Option.some.injEq, Prod.mk.injEq] at h
      obtain ⟨rfl, rfl, rfl⟩ := h
      have hr := lev_rel hσ hx
      obtain ⟨cs, hxv, _⟩ := fn_inv hr
      exact same rfl _ hr (by simp [execOp, e, hxv])
    · cases h
  case fieldAddr s x f =>
    simp only [lop, e] at h
    split at h
    · rename_i b off fields hx hu
      split at h
      · rename_i fl hfl
        split at h
        · rename_i i hi
          split at h
          · rename_i hb
            simp only [Option.some.injEq, Prod.mk.injEq] at h
            obtain ⟨rfl, rfl, rfl⟩ := h
            obtain ⟨r, hr, hxv⟩ := lev_rel hσ hx
            have hz : i.size ≠ 0 := by have := Nat.le_of_ble_eq_true hb; omega
            refine same rfl (.pointer (some ⟨r, off + fl.offset, none⟩)) ⟨r, hr, rfl⟩ ?_
            simp [execOp, e, Instr.fieldAt, run_underlying hu, hfl, Instr.sureAddr, hxv, fieldPlace, sizeOf, typeInfo, hi, hz, add_eq]
          · cases h
        · cases h
      · cases h
    · cases h
  case field s x f =>
    simp only [lop, e] at h
    split at h
    · rename_i l fields hx hu
      split at h
      · rename_i fl hfl
        split at h
        · rename_i v hv
          simp only [Option.some.injEq, Prod.mk.injEq] at h
          obtain ⟨rfl, rfl, rfl⟩ := h
          obtain ⟨cs, hxv, hcs⟩ := lev_rel hσ hx
          obtain ⟨v', h1, h2⟩ := part_run (P := P) (w := w) hv hcs
          exact same rfl v' h2 (by simp [execOp, e, Instr.field, run_underlying hu, hfl, asAgg, hxv, h1])
        · cases h
      · cases h
    · cases h
  case indexAddr t x ix =>
    simp only [lop, e] at h
    split at h
    · rename_i b off k i n e' hx hix hu
      split at h
      · rename_i ie obs' hie hob
        simp only [Option.some.injEq, Prod.mk.injEq] at h
        obtain ⟨rfl, rfl, rfl⟩ := h
        obtain ⟨r, hr, hxv⟩ := lev_rel hσ hx
        have hiv : a.eval ix = .int k i := lev_rel hσ hix
        have hin := idxOK_spec hob ho
        refine same rfl (.pointer (some ⟨r, off + i.toNat * ie.size, none⟩)) ⟨r, hr, rfl⟩ ?_
        simp [execOp, e, Instr.indexAt, asIntOf, hiv, run_underlying hu, Instr.sureAddr, hxv, hin, sizeOf, typeInfo, hie, add_eq]
      · cases h
    · rename_i b off n c k i e' hx hix hu
      split at h
      · rename_i ie obs' hie hob
        simp only [Option.some.injEq, Prod.mk.injEq] at h
        obtain ⟨rfl, rfl, rfl⟩ := h
        obtain ⟨r, hr, hxv⟩ := lev_rel hσ hx
        have hiv : a.eval ix = .int k i := lev_rel hσ hix
        have hin := idxOK_spec hob ho
        refine same rfl (.pointer (some ⟨r, off + i.toNat * ie.size, none⟩)) ⟨r, hr, rfl⟩ ?_
        simp [execOp, e, Instr.indexAt, asIntOf, hiv, run_underlying hu, hxv, hin, sizeOf, typeInfo, hie, add_eq]
      · cases h
    · cases h
  case index t x ix =>
    simp only [lop, e] at h
    split at h
    · rename_i l k i n e' hx hix hu
      split at h
      · rename_i ie obs' hie hob
        split at h
        · rename_i v hv
          simp only [Option.some.injEq, Prod.mk.injEq] at h
          obtain ⟨rfl, rfl, rfl⟩ := h
          obtain ⟨cs, hxv, hcs⟩ := lev_rel hσ hx
          have hiv : a.eval ix = .int k i := lev_rel hσ hix
          have hin := idxOK_spec hob ho
          obtain ⟨v', h1, h2⟩ := part_run (P := P) (w := w) hv hcs
          exact same rfl v' h2 (by simp [execOp, e, Instr.index, asIntOf, hiv, run_underlying hu, hxv, hin, sizeOf, typeInfo, hie, h1])
        · cases h
      · cases h
    · cases h
  case makeFunc g first caps =>
    cases g
    case func f =>
      simp only [lop, e] at h
      split at h
      · rename_i l hf hl
        split at h
        · rename_i ps hps
          simp only [Option.some.injEq, Prod.mk.injEq] at h
          obtain ⟨rfl, rfl, rfl⟩ := h
          have hc := lcaps_rel hps (levs_rel hσ hl)
          have hfe : first = #[] := by rw [← Array.toList_eq_nil_iff]; exact hf
          exact same rfl (.func (.func f) #[] (caps.map a.eval)) ⟨_, rfl, by simpa using hc⟩ (by simp [execOp, e, Instr.makeFunc, hfe])
        · cases h
      · cases h
    all_goals (simp [lop, e] at h)
  case extract x i =>
    simp only [lop, e] at h
    split at h
    · rename_i l hx
      obtain ⟨vs, hxv, hvs⟩ := lev_rel hσ hx
      split at h
      · rename_i y hy
        simp only [Option.some.injEq, Prod.mk.injEq] at h
        obtain ⟨rfl, rfl, rfl⟩ := h
        obtain ⟨v, hv, hr⟩ := hvs.get hy
        have hv' : vs[i]? = some v := by simpa using hv
        exact same rfl v hr (by simp [execOp, e, Instr.extract, hxv, hv'])
      · rename_i y hy
        simp only [Option.some.injEq, Prod.mk.injEq] at h
        obtain ⟨rfl, rfl, rfl⟩ := h
        obtain ⟨v, hv, hr⟩ := hvs.get hy
        have hv' : vs[i]? = some v := by simpa using hv
        exact same rfl v hr (by simp [execOp, e, Instr.extract, hxv, hv'])
      · cases h
    · cases h
  case binOp p t x y t2 =>
    simp only [lop, e] at h
    exact lbin_wp e h ho hσ (fun he v hv hr => same he v hv hr) (fun hc => calmCase hc (.inl ⟨p, t, x, y, t2, e⟩))
  case unOp p t x => exact calmCase (by simpa [lop, e] using h) (.inr (.inl ⟨p, t, x, e⟩))
  case convert s d x => exact calmCase (by simpa [lop, e] using h) (.inr (.inr (.inl ⟨s, d, x, e⟩)))
  case call c =>
    simp only [lop, e] at h
    have hw := fun hn' => lcall_wp (next := next) (Q := Q) hT e h ho hσ hM hn'
    have he : ef = none := (lcall_wp (next := fun _ _ => True) (Q := Q) hT e h ho hσ hM (fun _ _ _ _ => trivial)).1
    subst he
    exact (hw fun v w' hv hm => hn φ v w' φ.le_refl hv (hm.drop fun _ hb => hb.1)).2
  case slice t x lo hi mx =>
    simp only [lop, e] at h
    split at h
    · rename_i b off n e' hx hu
      obtain ⟨r, hr, hxv⟩ := lev_rel hσ hx
      split at h
      · rename_i ie k l hie hlo hhi
        split at h
        · rename_i obs' hob
          simp only [Option.some.injEq, Prod.mk.injEq] at h
          obtain ⟨rfl, rfl, rfl⟩ := h
          have hin := idxOK_spec hob ho
          obtain ⟨xl, rfl, hxl⟩ := Option.map_eq_some_iff.1 hlo
          have hhn : hi = none := by simpa using hhi
          subst hhn
          have hlv : a.eval xl = .int k l := lev_rel hσ hxl
          refine same rfl (.slice (some ⟨r, if n = l.toNat then off else off + l.toNat * ie.size, none⟩) (n - l.toNat) (n - l.toNat)) ⟨r, hr, rfl⟩ ?_
          have hb := run_sliceBound (P := P) (w := w) k l n .sliceB (by omega) (by omega)
          simp [execOp, e, Instr.sliceAt, run_underlying hu, Instr.sureAddr, hxv, Instr.sliceBounds, hlv, hb, sizeOf, typeInfo, hie, add_eq]
          split <;> simp
        · cases h
      · rename_i hie hlo hhi
        simp only [Option.some.injEq, Prod.mk.injEq] at h
        obtain ⟨rfl, rfl, rfl⟩ := h
        have h1 : lo = none := by simpa using hlo
        have h2 : hi = none := by simpa using hhi
        subst h1 h2
        refine same rfl (.slice (some ⟨r, off, none⟩) n n) ⟨r, hr, rfl⟩ ?_
        simp [execOp, e, Instr.sliceAt, run_underlying hu, Instr.sureAddr, hxv, Instr.sliceBounds, sizeOf, typeInfo, hie, Addr.add]
      · cases h
    · cases h
  case buildSlice t len parts =>
    simp only [lop, e] at h
    split at h
    · rename_i ps e' hps hu
      split at h
      · rename_i z ie hz hie
        split at h
        · rename_i hb
          split at h
          · rename_i l hl
            simp only [Option.some.injEq, Prod.mk.injEq] at h
            obtain ⟨rfl, rfl, rfl⟩ := h
            simp only [Bool.and_eq_true] at hb
            have hb1 := Nat.eq_of_beq_eq_true hb.1.1
            have hb2 := Nat.le_of_ble_eq_true hb.1.2
            have hb3 := Nat.le_of_ble_eq_true hb.2
            obtain ⟨v, hv, hrel, _⟩ := zero_run hz φ w
            have hvl := hrel.length
            have hzs : v.cells.size = ie.size := by simp at hvl; omega
            have hrow : ((Array.range (len * ie.size)).map fun x => v.cells[x % v.cells.size]!).toList = (List.replicate len v.cells.toList).flatten := by
              rw [hzs]
              apply List.ext_getElem?
              intro j
              have hpos : 0 < ie.size := Nat.pos_of_ne_zero fun h0 => by rw [h0] at hb2; omega
              have hfl : ∀ (m : Nat) (j : Nat), ((List.replicate m v.cells.toList).flatten)[j]? = if j < m * ie.size then some v.cells[j % ie.size]! else none := by
                intro m
                induction m with
                | zero => intro j; simp
                | succ m ih =>
                  intro j
                  rw [List.replicate_succ, List.flatten_cons, List.getElem?_append]
                  have hll : v.cells.toList.length = ie.size := by simpa using hzs
                  rw [hll]
                  by_cases hj : j < ie.size
                  · have h1 : j < (m + 1) * ie.size := by rw [Nat.succ_mul]; omega
                    have h2 : j < v.cells.size := by omega
                    simp [hj, h1, Nat.mod_eq_of_lt hj, h2]
                  · rw [if_neg hj, ih]
                    have e1 : (j - ie.size) % ie.size = j % ie.size := by
                      conv => rhs; rw [← Nat.sub_add_cancel (Nat.le_of_not_lt hj)]
                      simp
                    rw [e1, Nat.succ_mul]
                    by_cases h2 : j < m * ie.size + ie.size
                    · rw [if_pos h2, if_pos (by omega)]
                    · rw [if_neg h2, if_neg (by omega)]
              rw [hfl]
              simp
              split <;> simp_all
            have hflat : ∀ m : Nat, All2 (At.rel φ) (List.replicate m z).flatten (List.replicate m v.cells.toList).flatten := by
              intro m
              induction m with
              | zero => simp; exact .nil
              | succ m ih => simp only [List.replicate_succ, List.flatten_cons]; exact hrel.append ih
            obtain ⟨out, ho1, ho2⟩ := fill_run (φ := φ) _ hl (lparts_rel hσ hps) (arr := (Array.range (len * ie.size)).map fun x => v.cells[x % v.cells.size]!) (by rw [hrow]; exact hflat len)
            have hm := hM.new hid e' ho2
            refine wp_value (v := .slice (some ⟨w.heap.size, 0, none⟩) len len) (w' := w.alloc (.cells out e')) ?_ (hn _ _ _ (phi_upd_le (hM.dom id hid)) ⟨_, upd_same _ _ _, rfl⟩ hm)
            have hle : ¬ (len * ie.size > 2 ^ 24) := by omega
            have hne : ¬ (len * ie.size = 0) := by omega
            simp only [execOp, e, Instr.buildSlice, Sem.run_bind, run_underlying hu, Result.andThen_ok]
            have hs : (sizeOf e').run P w = .ok ie.size w := by simp [sizeOf, typeInfo, hie]
            simp only [hs, Result.andThen_ok, hle, if_false, hne, Sem.run_bind, hv]
            simp [ho1, newRow]
          · cases h
        · cases h
      · cases h
    · cases h
  all_goals (simp [lop, e] at h)

end
end Go.Proofs.Ythgjacfikicgnaa.K
