/-
  That each operation does on the real memory what the function says (fourth part: zero values, building, '==').
-/
import Derived.Test.YtcdejlgophpdjaaVe2
namespace Go.Proofs.Ytcdejlgophpdjaa.V
open Go Go.RowKit

section
variable {P : Program} {w0 : World} {may : Nat → Prop} {φ : Phi} {σ : Sig} {μ : Mem} {ρ : Hds} {fr : Nat → Prop} {w : World} {a : Act} {o : Oper}

theorem zero_run {t : TypeId} {l : List At} (h : zeroL P t = some l) (φ : Phi) (w : World) : ∃ v, (zeroValue t).run P w = .ok v w ∧ All2 (At.rel φ) l v.cells.toList ∧ ∃ i, P.info? t = some i ∧ i.zero = some v := by
  unfold zeroL at h
  split at h
  · rename_i i hi
    split at h
    · rename_i z hz
      split at h
      · rename_i lv hlv
        exact ⟨z, by simp [zeroValue, typeInfo, hi, hz], vcells_rel (LV.ofVal_rel hlv φ) h, i, hi, hz⟩
      · cases h
    · cases h
  · cases h

theorem lparts_rel (hσ : TRel φ σ a.tmps) : ∀ {l : List (Nat × Operand)} {ps : List (Nat × LV)}, lparts σ l = some ps → All2 (fun (p : Nat × LV) (q : Nat × Value) => p.1 = q.1 ∧ p.2.rel φ q.2) ps (l.map fun p => (p.1, a.eval p.2))
  | [], ps, h => by simp [lparts] at h; subst h; exact .nil
  | (i, x) :: rest, ps, h => by
    unfold lparts at h
    split at h
    · rename_i v r hv hr
      simp only [Option.some.injEq] at h; subst h
      exact .cons ⟨rfl, lev_rel hσ hv⟩ (lparts_rel hσ hr)
    · cases h

theorem zipIdx_fold (off : Nat) : ∀ (vs : List Value) (i : Nat) (cs : Array Value), off + i + vs.length ≤ cs.size →
    (vs.zipIdx i).foldl (fun (cs : Array Value) (x : Value × Nat) => cs.setIfInBounds (off + x.2) x.1) cs = (cs.toList.take (off + i) ++ vs ++ cs.toList.drop (off + i + vs.length)).toArray
  | [], i, cs, _ => by simp
  | v :: rest, i, cs, h => by
    simp only [List.zipIdx_cons, List.foldl_cons]
    rw [zipIdx_fold off rest (i + 1) (cs.setIfInBounds (off + i) v) (by simp at h ⊢; omega)]
    have e := list_seg_step cs.toList (off + i) v rest (by simp at h ⊢; omega)
    congr 1
    simpa [Array.toList_setIfInBounds, Nat.add_assoc] using e

theorem fill_run {φ : Phi} (place : Nat → Option (Nat × Nat)) : ∀ {ps : List (Nat × LV)} {qs : List (Nat × Value)} {cells res : List At} {arr : Array Value}, lfill place cells ps = some res →
    All2 (fun (p : Nat × LV) (q : Nat × Value) => p.1 = q.1 ∧ p.2.rel φ q.2) ps qs → All2 (At.rel φ) cells arr.toList → ∃ out, Instr.fill place arr qs = some out ∧ All2 (At.rel φ) res out.toList
  | [], qs, cells, res, arr, h, hq, hc => by
    cases hq
    simp only [lfill, Option.some.injEq] at h; subst h
    exact ⟨arr, by simp [Instr.fill], hc⟩
  | (i, v) :: rest, qs, cells, res, arr, h, hq, hc => by
    cases hq with
    | @cons _ q _ qs' hq1 hq2 =>
      obtain ⟨j, u⟩ := q
      obtain ⟨hij, hu⟩ := hq1
      simp only at hij hu
      subst hij
      unfold lfill at h
      split at h
      · rename_i off size vs hpl hvs
        split at h
        · rename_i hb
          simp only [Bool.and_eq_true] at hb
          have hb1 := Nat.eq_of_beq_eq_true hb.1
          have hb2 := Nat.le_of_ble_eq_true hb.2
          have hv := vcells_rel hu hvs
          have hvl := hv.length
          have hcl := hc.length
          have hlen : u.cells.size = size := by simp at hvl; omega
          have hfold := zipIdx_fold off u.cells.toList 0 arr (by simp at hcl ⊢; omega)
          have hnew : All2 (At.rel φ) (cells.take off ++ vs ++ cells.drop (off + vs.length)) (arr.toList.take (off + 0) ++ u.cells.toList ++ arr.toList.drop (off + 0 + u.cells.toList.length)).toArray.toList := by
            simp only [Nat.add_zero, ← hvl]
            exact ((hc.take off).append hv).append (hc.drop _)
          obtain ⟨out, ho, hr⟩ := fill_run place h hq2 hnew
          refine ⟨out, ?_, hr⟩
          rw [← hfold] at ho
          simp only [Instr.fill, hpl, hlen]
          rw [if_neg (by simp at hcl ⊢; omega)]
          rw [← ho]
          congr 1
          rw [← Array.toList_zipIdx, Array.foldl_toList]
        · cases h
      · cases h

theorem built_run {t : TypeId} {ps : List (Nat × LV)} {qs : List (Nat × Value)} {l : List At} (h : lbuild P t ps = some l) (hq : All2 (fun (p : Nat × LV) (q : Nat × Value) => p.1 = q.1 ∧ p.2.rel φ q.2) ps qs) (w : World) :
    ∃ out, P.built t qs = some out ∧ All2 (At.rel φ) l out.toList := by
  unfold lbuild at h
  split at h
  · rename_i e z hu hz
    obtain ⟨zv, _, hz2, i, hi, hz3⟩ := zero_run hz φ w
    split at h
    · rename_i ie hie
      obtain ⟨out, ho, hr⟩ := fill_run _ h hq hz2
      refine ⟨out, ?_, hr⟩
      simp only [Program.built, hi, hu, hz3, hie, ho]
    · cases h
  · rename_i fields z hu hz
    obtain ⟨zv, _, hz2, i, hi, hz3⟩ := zero_run hz φ w
    split at h
    · rename_i places hpl
      obtain ⟨out, ho, hr⟩ := fill_run _ h hq hz2
      refine ⟨out, ?_, hr⟩
      simp only [Program.built, hi, hu, hz3, hpl, ho]
    · cases h
  · cases h

theorem levs_rel (hσ : TRel φ σ a.tmps) : ∀ {l : List Operand} {vs : List LV}, levs σ l = some vs → All2 (LV.rel φ) vs (l.map a.eval)
  | [], vs, h => by simp [levs] at h; subst h; exact .nil
  | x :: rest, vs, h => by
    unfold levs at h
    split at h
    · rename_i v r hv hr
      simp only [Option.some.injEq] at h; subst h
      exact .cons (lev_rel hσ hv) (levs_rel hσ hr)
    · cases h

theorem lcaps_rel : ∀ {l : List LV} {ps : List (Nat × Nat)} {vs : List Value}, lcaps l = some ps → All2 (LV.rel φ) l vs → All2 (prel φ) ps vs
  | [], ps, vs, h, hv => by cases hv; simp [lcaps] at h; subst h; exact .nil
  | x :: rest, ps, vs, h, hv => by
    cases hv with
    | cons h1 h2 =>
      unfold lcaps at h
      split at h
      · rename_i heq; cases heq
      · rename_i b off r heq
        simp only [List.cons.injEq] at heq
        obtain ⟨rfl, rfl⟩ := heq
        split at h
        · rename_i l' hl'
          simp only [Option.some.injEq] at h; subst h
          exact .cons h1 (lcaps_rel hl' h2)
        · cases h
      · cases h

theorem caps_rel {ps : List (Nat × Nat)} {vs : List Value} (h : All2 (prel φ) ps vs) : All2 (LV.rel φ) (ps.map fun p => .a (.ptr p.1 p.2)) vs := by
  induction h with
  | nil => exact .nil
  | cons h1 _ ih => exact .cons h1 ih

theorem lpart_one {t : TypeId} {l : List At} {cs : Array Value} {off : Nat} {lv : LV} (h : lpart P t l off = some lv) (hl : All2 (At.rel φ) l cs.toList) (w : World) :
    ∃ v, (part t cs off).run P w = .ok v w ∧ lv.rel φ v := part_run h hl

theorem leqFields_run {d : Nat} {rec : TypeId → LV → LV → Option Bool} (hrec : ∀ t x y b u v w, rec t x y = some b → x.rel φ u → y.rel φ v → (Op.equalIn d t u v).run P w = .ok b w) {xs ys : List At} {us vs : Array Value}
    (hx : All2 (At.rel φ) xs us.toList) (hy : All2 (At.rel φ) ys vs.toList) : ∀ {fs : List Field} {b : Bool} (w : World), leqFields P rec xs ys fs = some b → (Op.eqFields d us vs fs).run P w = .ok b w
  | [], b, w, h => by simp only [leqFields, Option.some.injEq] at h; subst h; simp [Op.eqFields]
  | f :: fs, b, w, h => by
    unfold leqFields at h
    split at h
    · rename_i x y hn h1 h2
      have hn' : f.name ≠ "_" := of_decide_eq_false hn
      obtain ⟨u, u1, u2⟩ := lpart_one (P := P) h1 hx w
      obtain ⟨v, v1, v2⟩ := lpart_one (P := P) h2 hy w
      split at h
      · rename_i a ha
        simp only [Option.some.injEq] at h; subst h
        have h3 := hrec _ _ _ _ u v w ha u2 v2
        simp only [Op.eqFields, hn', ne_eq, not_false_eq_true, if_true, Sem.run_bind, u1, v1, h3, Result.andThen_ok]
        cases a <;> simp
      · rename_i a g gs ha
        have h3 := hrec _ _ _ _ u v w ha u2 v2
        split at h
        · rename_i b' hb'
          simp only [Option.some.injEq] at h; subst h
          have ih := leqFields_run hrec hx hy w hb'
          unfold Op.eqFields
          simp only [hn', ne_eq, not_false_eq_true, if_true, Sem.run_bind, u1, v1, h3, Result.andThen_ok]
          cases a
          · simp
          · simpa using ih
        · cases h
      · cases h
    · cases h

theorem leqItems_run {d : Nat} {rec : TypeId → LV → LV → Option Bool} (hrec : ∀ t x y b u v w, rec t x y = some b → x.rel φ u → y.rel φ v → (Op.equalIn d t u v).run P w = .ok b w) {xs ys : List At} {us vs : Array Value} {e : TypeId} {n : Nat}
    (hx : All2 (At.rel φ) xs us.toList) (hy : All2 (At.rel φ) ys vs.toList) : ∀ {is : List Nat} {b : Bool} (w : World), leqItems P rec e n xs ys is = some b → (Op.eqItems d e n us vs is).run P w = .ok b w
  | [], b, w, h => by simp only [leqItems, Option.some.injEq] at h; subst h; simp [Op.eqItems]
  | i :: is, b, w, h => by
    unfold leqItems at h
    split at h
    · rename_i x y h1 h2
      obtain ⟨u, u1, u2⟩ := lpart_one (P := P) h1 hx w
      obtain ⟨v, v1, v2⟩ := lpart_one (P := P) h2 hy w
      split at h
      · rename_i a ha
        simp only [Option.some.injEq] at h; subst h
        have h3 := hrec _ _ _ _ u v w ha u2 v2
        simp only [Op.eqItems, Sem.run_bind, u1, v1, h3, Result.andThen_ok]
        cases a <;> simp
      · rename_i a g gs ha
        have h3 := hrec _ _ _ _ u v w ha u2 v2
        split at h
        · rename_i b' hb'
          simp only [Option.some.injEq] at h; subst h
          have ih := leqItems_run hrec hx hy w hb'
          unfold Op.eqItems
          simp only [Sem.run_bind, u1, v1, h3, Result.andThen_ok]
          cases a
          · simp
          · simpa using ih
        · cases h
      · cases h
    · cases h

theorem leq_run (D : Nat) : ∀ (d : Nat) (t : TypeId) (x y : LV) (b : Bool) (u v : Value) (w : World), leq P d t x y = some b → x.rel φ u → y.rel φ v → (Op.equalIn (D + d) t u v).run P w = .ok b w
  | 0, t, x, y, b, u, v, w, h, _, _ => by simp [leq] at h
  | d + 1, t, x, y, b, u, v, w, h, hx, hy => by
    have ih := leq_run D d
    rw [show D + (d + 1) = (D + d) + 1 by omega]
    unfold leq at h
    split at h
    · rename_i k1 s1 k a s2 k' b' hu
      split at h
      · rename_i hk
        have hk' := of_decide_eq_true hk
        subst hk'
        simp only [Option.some.injEq] at h; subst h
        have e1 : u = .int k a := hx
        have e2 : v = .int k b' := hy
        subst e1 e2
        exact run_equalIn_int w _ t _ _ _ _ hu
      · cases h
    · rename_i s1 a s2 b' hu
      simp only [Option.some.injEq] at h; subst h
      have e1 : u = .bool a := hx
      have e2 : v = .bool b' := hy
      subst e1 e2
      exact run_equalIn_bool' w _ t _ _ hu
    · rename_i s1 a s2 b' hu
      simp only [Option.some.injEq] at h; subst h
      have e1 : u = .string a := hx
      have e2 : v = .string b' := hy
      subst e1 e2
      exact run_equalIn_string w _ t _ _ hu
    · rename_i fs xs ys hu
      split at h
      · rename_i hs
        obtain ⟨us, rfl, hus⟩ := hx
        obtain ⟨vs, rfl, hvs⟩ := hy
        have hf : P.fieldsOf t = fs := by simp [Program.fieldsOf, hu]
        rw [run_equalIn_struct w _ t _ _ (by rw [hf]; exact hu) hs, hf]
        exact leqFields_run (fun t x y b u v w => ih t x y b u v w) hus hvs w h
      · cases h
    · rename_i n e xs ys hu
      split at h
      · rename_i i hi
        obtain ⟨us, rfl, hus⟩ := hx
        obtain ⟨vs, rfl, hvs⟩ := hy
        have hcs : P.cellsOf e = i.size := by simp [Program.cellsOf, hi]
        rw [run_equalIn_array w _ us vs hu hi, hcs]
        exact leqItems_run (fun t x y b u v w => ih t x y b u v w) hus hvs w h
      · cases h
    · cases h

theorem leqOp_run {t : TypeId} {xs ys : List At} {b : Bool} (h : leqOp P t (.g xs) (.g ys) = some b) {u v : Value} (hx : (LV.g xs).rel φ u) (hy : (LV.g ys).rel φ v) (w : World) (op : BinOp) (x y : Operand) :
    (eqGuard op t x y u v).run P w = .ok () w ∧ (Op.equalIn 10000 t u v).run P w = .ok b w := by
  unfold leqOp at h
  split at h
  · rename_i hg
    refine ⟨?_, leq_run 9980 20 t _ _ b u v w h hx hy⟩
    obtain ⟨us, rfl, _⟩ := hx
    obtain ⟨vs, rfl, _⟩ := hy
    unfold eqGuard
    by_cases ho : (op matches .eql | .neq) = true
    · simp [hg]
    · simp [hg]
  · cases h

end
end Go.Proofs.Ytcdejlgophpdjaa.V
