/-
  That each operation does on the real memory what the function says (first part).
-/
import Derived.Test.YthgjacfikicgnaaKc
namespace Go.Proofs.Ythgjacfikicgnaa.K
open Go Go.RowKit

section
variable {P : Program} {w0 : World} {may : Nat → Prop} {φ : Phi} {σ : Sig} {μ : Loc} {fr : Nat → Prop} {w : World} {a : Act} {o : Oper}

theorem wp_value {v : Value} {w' : World} (h : (execOp a.eval o).run P w = .ok (.value v) w') {next : Act → World → Prop} {Q : Exit → Act → World → Prop} (hn : next (a.put o.dst v) w') : o.wp P a w next Q := by
  unfold Oper.wp; rw [h]; exact hn

theorem wp_skip' {w' : World} (h : (execOp a.eval o).run P w = .ok .skip w') {next : Act → World → Prop} {Q : Exit → Act → World → Prop} (hn : next (a.put o.dst undef) w') : o.wp P a w next Q := by
  unfold Oper.wp; rw [h]; exact hn

theorem wp_enter {f : Nat} {args : Array Value} {w' : World} (h : (execOp a.eval o).run P w = .ok (.enter f args) w') {next : Act → World → Prop} {Q : Exit → Act → World → Prop} {R : Ending → World → Prop}
    (hc : Calls P f args w' R) (hn : ∀ e w'', R e w'' → ∃ v, e = .returned v ∧ next (a.put o.dst v) w'') : o.wp P a w next Q := by
  unfold Oper.wp; rw [h]
  refine hc.mono fun e w'' hR => ?_
  obtain ⟨v, rfl, hv⟩ := hn e w'' hR
  exact hv

theorem run_pure' {α : Type} (x : α) : (pure x : Sem α).run P w = .ok x w := rfl

/-- The steps that turn no memory. -/
theorem calm_exec (h : TRel φ σ a.tmps) (hf : opsFree σ o.op.operands.toList = true) (hk : (∃ p t x y t2, o.op = .binOp p t x y t2) ∨ (∃ p t x, o.op = .unOp p t x) ∨ (∃ s d x, o.op = .convert s d x) ∨ (∃ b as ts, o.op = .call ⟨.builtin b, as, ts⟩)) :
    execOp (rho σ) o = execOp a.eval o := by
  have hr := fun (x : Operand) (hx : x ∈ o.op.operands.toList) => rho_eq h hf hx
  rcases hk with ⟨p, t, x, y, t2, e⟩ | ⟨p, t, x, e⟩ | ⟨s, d, x, e⟩ | ⟨b, as, ts, e⟩
  · have hx := hr x (by simp [e, Op.operands])
    have hy := hr y (by simp [e, Op.operands])
    simp only [execOp, e, hx, hy]
  · have hx := hr x (by simp [e, Op.operands])
    simp only [execOp, e, hx]
  · have hx := hr x (by simp [e, Op.operands])
    simp only [execOp, e, hx]
  · have hm : as.map (rho σ) = as.map a.eval := by
      apply Array.map_congr_left
      intro x hx
      exact hr x (by simp [e, Op.operands, Call.operands, hx])
    simp only [execOp, e, resolve, hm]

theorem calmOp_run {obs : List Prop} {lv : LV} {eff : Option (Nat × List At)} (hc : calmOp P σ o = some (obs, lv, eff)) (h : TRel φ σ a.tmps)
    (hk : (∃ p t x y t2, o.op = .binOp p t x y t2) ∨ (∃ p t x, o.op = .unOp p t x) ∨ (∃ s d x, o.op = .convert s d x) ∨ (∃ b as ts, o.op = .call ⟨.builtin b, as, ts⟩)) :
    ∃ v, (execOp a.eval o).run P w = .ok (.value v) w ∧ lv.rel φ v ∧ eff = none := by
  unfold calmOp at hc
  split at hc
  · rename_i hf
    rw [calm_exec h hf hk] at hc
    split at hc
    · rename_i v hv
      split at hc
      · rename_i lv' he
        simp only [Option.some.injEq, Prod.mk.injEq] at hc
        obtain ⟨_, rfl, rfl⟩ := hc
        exact ⟨v, calm_run _ hv w, LV.ofVal_rel he φ, rfl⟩
      · cases hc
    · cases hc
  · cases hc

theorem part_run {t : TypeId} {l : List At} {cs : Array Value} {off : Nat} {lv : LV} (h : lpart P t l off = some lv) (hl : All2 (At.rel φ) l cs.toList) :
    ∃ v, (part t cs off).run P w = .ok v w ∧ lv.rel φ v := by
  unfold lpart at h
  split at h
  · rename_i n hs
    simp only [Option.some.injEq] at h; subst h
    obtain ⟨h1, h2⟩ := shape_run hs w
    refine ⟨.agg (cs.extract off (off + n)), by simp [part, h1, h2], _, rfl, ?_⟩
    have := (hl.drop off).take n
    simpa [Array.toList_extract, List.extract_eq_take_drop] using this
  · rename_i n hs
    obtain ⟨h1, h2⟩ := shape_run hs w
    split at h
    · rename_i x hx
      simp only [Option.some.injEq] at h; subst h
      obtain ⟨v, hv, hr⟩ := hl.get hx
      refine ⟨v, ?_, hr⟩
      have : cs[off]? = some v := by simpa using hv
      simp [part, h1, this]
    · cases h
  · cases h

theorem load_run (hM : MR w0 may φ μ fr w) {t : TypeId} {b off r : Nat} {lv : LV} (h : lload P μ t b off = some lv) (hr : φ b = some r) :
    ∃ v, (loadVar t ⟨r, off, none⟩).run P w = .ok v w ∧ lv.rel φ v := by
  unfold lload at h
  split at h
  · rename_i l hl
    obtain ⟨r', arr, ty, h1, h2, h3⟩ := hM.mem b l hl
    have : r' = r := by rw [hr] at h1; exact (Option.some.inj h1).symm
    subst this
    split at h
    · rename_i n hs
      obtain ⟨s1, s2⟩ := shape_run hs w
      split at h
      · rename_i hle
        simp only [Option.some.injEq] at h; subst h
        have hlen := h3.length
        have hle' : off + n ≤ l.length := Nat.le_of_ble_eq_true hle
        have hc := run_loadCells_list (P := P) w ⟨r', off, none⟩ ((arr.toList.drop off).take n) (by
          intro j v hj
          have hj' : arr[off + j]? = some v := by
            rw [List.getElem?_take] at hj
            split at hj
            · simpa using hj
            · cases hj
          have ha : (⟨r', off, none⟩ : Addr).add j = ⟨r', off + j, none⟩ := by unfold Addr.add; split <;> simp_all
          rw [ha]
          simp [World.cell?, h2, hj'])
        have hn : ((arr.toList.drop off).take n).length = n := by simp at hlen ⊢; omega
        rw [hn] at hc
        exact ⟨.agg ((arr.toList.drop off).take n).toArray, by simp [loadVar, s1, s2, hc], _, rfl, by simpa using (h3.drop off).take n⟩
      · cases h
    · rename_i n hs
      obtain ⟨s1, s2⟩ := shape_run hs w
      split at h
      · rename_i x hx
        simp only [Option.some.injEq] at h; subst h
        obtain ⟨v, hv, hrel⟩ := h3.get hx
        have hv' : arr[off]? = some v := by simpa using hv
        exact ⟨v, by simp [loadVar, s1, World.cell?, h2, hv'], hrel⟩
      · cases h
    · cases h
  · cases h

theorem add_eq (r off n : Nat) : (⟨r, off, none⟩ : Addr).add n = ⟨r, off + n, none⟩ := by unfold Addr.add; split <;> simp_all

theorem store_run (hM : MR w0 may φ μ fr w) {t : TypeId} {b off r n : Nat} {q : Bool} {l vs : List At} {v : Value} (hr : φ b = some r) (hl : μ b = some l) (hs : shape P t = some (q, n))
    (hv : All2 (At.rel φ) vs v.cells.toList) (hn : vs.length = n) (hle : off + n ≤ l.length) :
    ∃ w', (storeVar t ⟨r, off, none⟩ v).run P w = .ok () w' ∧ MR w0 may φ (upd μ b (l.take off ++ vs ++ l.drop (off + vs.length))) fr w' := by
  obtain ⟨r', arr, ty, h1, h2, h3⟩ := hM.mem b l hl
  have : r' = r := by rw [hr] at h1; exact (Option.some.inj h1).symm
  subst this
  obtain ⟨_, s2⟩ := shape_run hs w
  have hlen := h3.length
  have hvl := hv.length
  have hst := run_storeCells_at (P := P) r' off ty v.cells.toList 0 arr w h2 (by simp at hlen hvl ⊢; omega) (rel_cells_one hv)
  refine ⟨_, ?_, MR.put hM hr h2 (arr := (arr.toList.take (off + 0) ++ v.cells.toList ++ arr.toList.drop (off + 0 + v.cells.toList.length)).toArray) ?_⟩
  · have hsz : v.cells.size = n := by simp at hvl; omega
    simp only [storeVar, Sem.run_bind, s2, Result.andThen_ok, hsz]
    simp only [ne_eq, not_true_eq_false, if_false]
    exact hst
  · simp only [Nat.add_zero, ← hvl]
    exact ((h3.take off).append hv).append (h3.drop _)

theorem zero_run {t : TypeId} {l : List At} (h : zeroL P t = some l) (φ : Phi) (w : World) : ∃ v, (zeroValue t).run P w = .ok v w ∧ All2 (At.rel φ) l v.cells.toList ∧ ∃ i, P.info? t = some i ∧ i.zero = some v := by
  unfold zeroL at h
  split at h
  · rename_i i hi
    split at h
    · rename_i z hz
      split at h
      · rename_i lv hlv
        exact ⟨z, by simp [zeroValue, typeInfo, hi, hz], vcells_rel (LV.ofVal_rel hlv φ) h, i, hi, hz⟩
      · cases h
    · cases h
  · cases h

theorem lparts_rel (hσ : TRel φ σ a.tmps) : ∀ {l : List (Nat × Operand)} {ps : List (Nat × LV)}, lparts σ l = some ps → All2 (fun (p : Nat × LV) (q : Nat × Value) => p.1 = q.1 ∧ p.2.rel φ q.2) ps (l.map fun p => (p.1, a.eval p.2))
  | [], ps, h => by simp [lparts] at h; subst h; exact .nil
  | (i, x) :: rest, ps, h => by
    unfold lparts at h
    split at h
    · rename_i v r hv hr
      simp only [Option.some.injEq] at h; subst h
      exact .cons ⟨rfl, lev_rel hσ hv⟩ (lparts_rel hσ hr)
    · cases h

theorem zipIdx_fold (off : Nat) : ∀ (vs : List Value) (i : Nat) (cs : Array Value), off + i + vs.length ≤ cs.size →
    (vs.zipIdx i).foldl (fun (cs : Array Value) (x : Value × Nat) => cs.setIfInBounds (off + x.2) x.1) cs = (cs.toList.take (off + i) ++ vs ++ cs.toList.drop (off + i + vs.length)).toArray
  | [], i, cs, _ => by simp
  | v :: rest, i, cs, h => by
    simp only [List.zipIdx_cons, List.foldl_cons]
    rw [zipIdx_fold off rest (i + 1) (cs.setIfInBounds (off + i) v) (by simp at h ⊢; omega)]
    have e := list_seg_step cs.toList (off + i) v rest (by simp at h ⊢; omega)
    congr 1
    simpa [Array.toList_setIfInBounds, Nat.add_assoc] using e

theorem fill_run (place : Nat → Option (Nat × Nat)) : ∀ {ps : List (Nat × LV)} {qs : List (Nat × Value)} {cells res : List At} {arr : Array Value}, lfill place cells ps = some res →
    All2 (fun (p : Nat × LV) (q : Nat × Value) => p.1 = q.1 ∧ p.2.rel φ q.2) ps qs → All2 (At.rel φ) cells arr.toList → ∃ out, Instr.fill place arr qs = some out ∧ All2 (At.rel φ) res out.toList
  | [], qs, cells, res, arr, h, hq, hc => by
    cases hq
    simp only [lfill, Option.some.injEq] at h; subst h
    exact ⟨arr, by simp [Instr.fill], hc⟩
  | (i, v) :: rest, qs, cells, res, arr, h, hq, hc => by
    cases hq with
    | @cons _ q _ qs' hq1 hq2 =>
      obtain ⟨j, u⟩ := q
      obtain ⟨hij, hu⟩ := hq1
      simp only at hij hu
      subst hij
      unfold lfill at h
      split at h
      · rename_i off size vs hpl hvs
        split at h
        · rename_i hb
          simp only [Bool.and_eq_true] at hb
          have hb1 := Nat.eq_of_beq_eq_true hb.1
          have hb2 := Nat.le_of_ble_eq_true hb.2
          have hv := vcells_rel hu hvs
          have hvl := hv.length
          have hcl := hc.length
          have hlen : u.cells.size = size := by simp at hvl; omega
          have hfold := zipIdx_fold off u.cells.toList 0 arr (by simp at hcl ⊢; omega)
          have hnew : All2 (At.rel φ) (cells.take off ++ vs ++ cells.drop (off + vs.length)) (arr.toList.take (off + 0) ++ u.cells.toList ++ arr.toList.drop (off + 0 + u.cells.toList.length)).toArray.toList := by
            simp only [Nat.add_zero, ← hvl]
            exact ((hc.take off).append hv).append (hc.drop _)
          obtain ⟨out, ho, hr⟩ := fill_run place h hq2 hnew
          refine ⟨out, ?_, hr⟩
          rw [← hfold] at ho
          simp only [Instr.fill, hpl, hlen]
          rw [if_neg (by simp at hcl ⊢; omega)]
          rw [← ho]
          congr 1
          rw [← Array.toList_zipIdx, Array.foldl_toList]
        · cases h
      · cases h

theorem built_run {t : TypeId} {ps : List (Nat × LV)} {qs : List (Nat × Value)} {l : List At} (h : lbuild P t ps = some l) (hq : All2 (fun (p : Nat × LV) (q : Nat × Value) => p.1 = q.1 ∧ p.2.rel φ q.2) ps qs) (w : World) :
    ∃ out, P.built t qs = some out ∧ All2 (At.rel φ) l out.toList := by
  unfold lbuild at h
  split at h
  · rename_i e z hu hz
    obtain ⟨zv, _, hz2, i, hi, hz3⟩ := zero_run hz φ w
    split at h
    · rename_i ie hie
      obtain ⟨out, ho, hr⟩ := fill_run _ h hq hz2
      refine ⟨out, ?_, hr⟩
      simp only [Program.built, hi, hu, hz3, hie, ho]
    · cases h
  · rename_i fields z hu hz
    obtain ⟨zv, _, hz2, i, hi, hz3⟩ := zero_run hz φ w
    split at h
    · rename_i places hpl
      obtain ⟨out, ho, hr⟩ := fill_run _ h hq hz2
      refine ⟨out, ?_, hr⟩
      simp only [Program.built, hi, hu, hz3, hpl, ho]
    · cases h
  · cases h

theorem levs_rel (hσ : TRel φ σ a.tmps) : ∀ {l : List Operand} {vs : List LV}, levs σ l = some vs → All2 (LV.rel φ) vs (l.map a.eval)
  | [], vs, h => by simp [levs] at h; subst h; exact .nil
  | x :: rest, vs, h => by
    unfold levs at h
    split at h
    · rename_i v r hv hr
      simp only [Option.some.injEq] at h; subst h
      exact .cons (lev_rel hσ hv) (levs_rel hσ hr)
    · cases h

theorem lcaps_rel : ∀ {l : List LV} {ps : List (Nat × Nat)} {vs : List Value}, lcaps l = some ps → All2 (LV.rel φ) l vs → All2 (prel φ) ps vs
  | [], ps, vs, h, hv => by cases hv; simp [lcaps] at h; subst h; exact .nil
  | x :: rest, ps, vs, h, hv => by
    cases hv with
    | cons h1 h2 =>
      unfold lcaps at h
      split at h
      · rename_i heq; cases heq
      · rename_i b off r heq
        simp only [List.cons.injEq] at heq
        obtain ⟨rfl, rfl⟩ := heq
        split at h
        · rename_i l' hl'
          simp only [Option.some.injEq] at h; subst h
          exact .cons h1 (lcaps_rel hl' h2)
        · cases h
      · cases h

theorem caps_rel {ps : List (Nat × Nat)} {vs : List Value} (h : All2 (prel φ) ps vs) : All2 (LV.rel φ) (ps.map fun p => .a (.ptr p.1 p.2)) vs := by
  induction h with
  | nil => exact .nil
  | cons h1 _ ih => exact .cons h1 ih

end
end Go.Proofs.Ythgjacfikicgnaa.K
