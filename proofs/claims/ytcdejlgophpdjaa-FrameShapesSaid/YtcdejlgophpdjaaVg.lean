/-
  A region whose order is open (second part): what an operation looks at decides what it does.
-/
import Derived.Test.YtcdejlgophpdjaaVf
namespace Go.Proofs.Ytcdejlgophpdjaa.V
open Go Go.RowKit

def AgB (l : List Nat) (μ μ' : Mem) (ρ ρ' : Hds) : Prop := ∀ b ∈ l, ρ b = ρ' b ∧ ∀ k, k < 65536 → μ (b * 65536 + k) = μ' (b * 65536 + k)

theorem AgB.sub {l m : List Nat} {μ μ' : Mem} {ρ ρ' : Hds} (h : AgB l μ μ' ρ ρ') (hs : ∀ b ∈ m, b ∈ l) : AgB m μ μ' ρ ρ' := fun b hb => h b (hs b hb)

/-- The memories agree on what is named. -/
def Agr (l : List Nat) (μ μ' : Mem) (ρ ρ' : Hds) : Prop := ∀ b, (2 * b + 1 ∈ l → ρ b = ρ' b) ∧ (2 * b ∈ l → ∀ k, k < 65536 → μ (b * 65536 + k) = μ' (b * 65536 + k))

theorem Agr.all {l : List Nat} {μ μ' : Mem} {ρ ρ' : Hds} (h : Agr (alL l) μ μ' ρ ρ') : AgB l μ μ' ρ ρ' := fun b hb => ⟨(h b).1 (mem_alL hb).2, (h b).2 (mem_alL hb).1⟩
theorem Agr.hds {l : List Nat} {μ μ' : Mem} {ρ ρ' : Hds} (h : Agr (hdL l) μ μ' ρ ρ') : ∀ b ∈ l, ρ b = ρ' b ∧ True := fun b hb => ⟨(h b).1 (mem_hdL hb), trivial⟩

section congr
variable {P : Program} {T : Tab} {σ σ' : Sig} {μ μ' : Mem} {ρ ρ' : Hds} {o : Oper}

theorem cur_congr {b v : Nat} (h : ρ b = ρ' b) : cur ρ b v = cur ρ' b v := by simp only [cur, h]
theorem rowsAt_congr {b v st e : Nat} (h : ρ b = ρ' b) : rowsAt ρ b v st e = rowsAt ρ' b v st e := by simp only [rowsAt, cur_congr h]
theorem rdr_congr {b k : Nat} (h : ρ b = ρ' b) : rdr ρ b k = rdr ρ' b k := by simp only [rdr, h]
theorem rdc_congr {b k : Nat} (h : AgB [b] μ μ' ρ ρ') : rdc μ ρ b k = rdc μ' ρ' b k := by
  obtain ⟨h1, h2⟩ := h b (by simp)
  unfold rdc
  cases hk : Nat.blt k 65536 with
  | false => rfl
  | true => rw [h2 k (Nat.le_of_ble_eq_true hk), rdr_congr h1]
theorem rdAll_congr {b : Nat} (h : AgB [b] μ μ' ρ ρ') : ∀ (n k : Nat), rdAll μ ρ b k n = rdAll μ' ρ' b k n
  | 0, k => rfl
  | n + 1, k => by unfold rdAll; rw [rdc_congr h, rdAll_congr h n (k + 1)]
theorem loadP_congr {t : TypeId} {b off : Nat} (h : AgB [b] μ μ' ρ ρ') : loadP P μ ρ t b off = loadP P μ' ρ' t b off := by
  have h1 := (h b (by simp)).1
  unfold loadP
  rw [cur_congr h1]
  split
  · rw [rdAll_congr h]
  · rw [rdc_congr h]
  · rfl
theorem loadR_congr {t : TypeId} {s : Bool} {b v st e i j : Nat} (h : ρ b = ρ' b) : loadR P ρ t s b v st e i j = loadR P ρ' t s b v st e i j := by simp only [loadR, rowsAt_congr h]
theorem col_congr {b e : Nat} (h : AgB [b] μ μ' ρ ρ') : ∀ (n k : Nat), col μ ρ b e k n = col μ' ρ' b e k n
  | 0, k => rfl
  | n + 1, k => by unfold col; rw [rdc_congr h, col_congr h n (k + e)]
theorem cols_congr {b e i N : Nat} (h : AgB [b] μ μ' ρ ρ') : ∀ (n k : Nat), cols μ ρ b e i N k n = cols μ' ρ' b e i N k n
  | 0, k => rfl
  | n + 1, k => by unfold cols; rw [col_congr h, cols_congr h n (k + 1)]
theorem loadC_congr {t : TypeId} {s : Bool} {b v st e i j : Nat} (h : AgB [b] μ μ' ρ ρ') : loadC P μ ρ t s b v st e i j = loadC P μ' ρ' t s b v st e i j := by
  unfold loadC
  rw [cur_congr (h b (by simp)).1]
  simp only [cols_congr h]
theorem mixCells_congr {b : Nat} {c : Bool} (h : AgB [b] μ μ' ρ ρ') : ∀ (vs : List At) (k : Nat), mixCells μ ρ b c k vs = mixCells μ' ρ' b c k vs
  | [], k => rfl
  | y :: r, k => by unfold mixCells; rw [rdc_congr h, mixCells_congr h r (k + 1)]
theorem mixRows_congr {b e i k : Nat} {vs : List At} (h : AgB [b] μ μ' ρ ρ') : ∀ (N : Nat), mixRows μ ρ b e i k vs N = mixRows μ' ρ' b e i k vs N
  | 0 => rfl
  | N + 1 => by unfold mixRows; rw [mixCells_congr h, mixRows_congr h N]
theorem storeC_congr {t : TypeId} {s : Bool} {b v st e i j : Nat} {vs : List At} (h : AgB [b] μ μ' ρ ρ') : storeC P μ ρ t s b v st e i j vs = storeC P μ' ρ' t s b v st e i j vs := by
  unfold storeC
  rw [cur_congr (h b (by simp)).1]
  simp only [mixRows_congr h]
theorem storeP_congr {t : TypeId} {b off : Nat} {vs : List At} (h : ρ b = ρ' b) : storeP P ρ t b off vs = storeP P ρ' t b off vs := by simp only [storeP, cur_congr h]
theorem storeR_congr {t : TypeId} {s : Bool} {b v st e i j : Nat} {vs : List At} (h : ρ b = ρ' b) : storeR P ρ t s b v st e i j vs = storeR P ρ' t s b v st e i j vs := by simp only [storeR, rowsAt_congr h]

theorem there_congr {p : At} (h : ∀ b ∈ atB (.a p), ρ b = ρ' b) : there ρ p = there ρ' p := by
  cases p with
  | ptr b o => simp only [there, cur_congr (h b (by simp [atB]))]
  | prw s b v st e i j => simp only [there, cur_congr (h b (by simp [atB]))]
  | _ => rfl

theorem lnils_congr {op : BinOp} {t : TypeId} {p : At} (h : ∀ b ∈ atB (.a p), ρ b = ρ' b) : lnils P ρ op t p = lnils P ρ' op t p := by
  cases p with
  | vec b v e => simp only [lnils, rowsAt_congr (h b (by simp [atB]))]
  | slc s b v st e off n => simp only [lnils, cur_congr (h b (by simp [atB]))]
  | _ => rfl

theorem lparts_congr : ∀ {l : List (Nat × Operand)}, (∀ p ∈ l, lev σ p.2 = lev σ' p.2) → lparts σ l = lparts σ' l
  | [], _ => rfl
  | (i, x) :: r, h => by
    have h1 := h (i, x) (by simp)
    have h2 := lparts_congr (l := r) fun p hp => h p (by simp [hp])
    simp only at h1
    unfold lparts
    rw [h1, h2]

theorem levs_congr : ∀ {l : List Operand}, (∀ x ∈ l, lev σ x = lev σ' x) → levs σ l = levs σ' l
  | [], _ => rfl
  | x :: r, h => by
    have h1 := h x (by simp)
    have h2 := levs_congr (l := r) fun p hp => h p (by simp [hp])
    unfold levs
    rw [h1, h2]

theorem opsB_congr : ∀ {l : List Operand}, (∀ x ∈ l, lev σ x = lev σ' x) → opsB σ l = opsB σ' l
  | [], _ => rfl
  | x :: r, h => by
    have h1 := h x (by simp)
    have h2 := opsB_congr (l := r) fun p hp => h p (by simp [hp])
    unfold opsB opB
    rw [h1, h2]

theorem rho_congr {x : Operand} (h : lev σ x = lev σ' x) : rho σ x = rho σ' x := by unfold rho; rw [h]

theorem opsFree_congr : ∀ {l : List Operand}, (∀ x ∈ l, lev σ x = lev σ' x) → opsFree σ l = opsFree σ' l
  | [], _ => rfl
  | x :: r, h => by
    have h1 := h x (by simp)
    have h2 := opsFree_congr (l := r) fun p hp => h p (by simp [hp])
    unfold opsFree
    rw [h1, h2]

theorem opsSym_congr : ∀ {l : List Operand}, (∀ x ∈ l, lev σ x = lev σ' x) → opsSym σ l = opsSym σ' l
  | [], _ => rfl
  | x :: r, h => by
    have h1 := h x (by simp)
    have h2 := opsSym_congr (l := r) fun p hp => h p (by simp [hp])
    unfold opsSym
    rw [h1, h2]

theorem calmOp_congr (h : ∀ x ∈ o.op.operands.toList, lev σ x = lev σ' x) (hk : (∃ p t x y t2, o.op = .binOp p t x y t2) ∨ (∃ p t x, o.op = .unOp p t x) ∨ (∃ s d x, o.op = .convert s d x) ∨ (∃ b as ts, o.op = .call ⟨.builtin b, as, ts⟩)) :
    calmOp P σ o = calmOp P σ' o := by
  have he : execOp (rho σ) o = execOp (rho σ') o := by
    rcases hk with ⟨p, t, x, y, t2, e⟩ | ⟨p, t, x, e⟩ | ⟨s, d, x, e⟩ | ⟨b, as, ts, e⟩
    · have hx := rho_congr (h x (by simp [e, Op.operands]))
      have hy := rho_congr (h y (by simp [e, Op.operands]))
      simp only [execOp, e, hx, hy]
    · have hx := rho_congr (h x (by simp [e, Op.operands]))
      simp only [execOp, e, hx]
    · have hx := rho_congr (h x (by simp [e, Op.operands]))
      simp only [execOp, e, hx]
    · have hm : as.map (rho σ) = as.map (rho σ') := by
        apply Array.map_congr_left
        intro x hx
        exact rho_congr (h x (by simp [e, Op.operands, Call.operands, hx]))
      simp only [execOp, e, resolve, hm]
  unfold calmOp
  rw [opsFree_congr h, opsSym_congr h, he]

/-! calls -/
theorem renB_congr {foot : List Nat} (h : ∀ b ∈ foot, ρ b = ρ' b) (b v : Nat) : renB ρ foot b v = renB ρ' foot b v := by
  unfold renB
  split
  · rename_i i hi
    have := (idxOf_spec hi).2
    rw [cur_congr (h b (List.mem_of_getElem? this))]
  · rfl
theorem renC_congr {foot : List Nat} (h : ∀ b ∈ foot, ρ b = ρ' b) : ∀ (l : List (Nat × Nat)), renC ρ foot l = renC ρ' foot l
  | [] => rfl
  | (b, o) :: r => by unfold renC; rw [renB_congr h, renC_congr h r]
theorem renA_congr {foot : List Nat} (h : ∀ b ∈ foot, ρ b = ρ' b) : renA ρ foot = renA ρ' foot := by
  funext x
  cases x <;> simp only [renA, renB_congr h, renC_congr h]
theorem renV_congr {foot : List Nat} (h : ∀ b ∈ foot, ρ b = ρ' b) : renV ρ foot = renV ρ' foot := by
  funext x
  cases x <;> simp only [renV, renA_congr h]
theorem blkCells_congr {foot : List Nat} {b : Nat} (h : ∀ b ∈ foot, ρ b = ρ' b) (hm : ∀ k, k < 65536 → μ (b * 65536 + k) = μ' (b * 65536 + k)) : ∀ (n k : Nat), k + n ≤ 65536 → blkCells μ ρ foot b k n = blkCells μ' ρ' foot b k n
  | 0, k, _ => rfl
  | n + 1, k, hk => by
    unfold blkCells
    rw [hm k (by omega), blkCells_congr h hm n (k + 1) (by omega)]
    unfold renO
    rw [renA_congr h]
theorem blksOf_congr {foot : List Nat} (h : AgB foot μ μ' ρ ρ') : ∀ {l : List Nat}, (∀ b ∈ l, b ∈ foot) → blksOf μ ρ foot l = blksOf μ' ρ' foot l
  | [], _ => rfl
  | b :: r, hl => by
    have hb := h b (hl b (by simp))
    have e : blkOf μ ρ foot b = blkOf μ' ρ' foot b := by
      unfold blkOf
      rw [hb.1]
      split
      · rename_i hd hh
        split
        · rename_i hz
          rw [blkCells_congr (fun b hb => (h b hb).1) hb.2 hd.z 0 (by have := Nat.le_of_ble_eq_true hz; omega)]
        · rfl
      · rfl
    unfold blksOf
    rw [e, blksOf_congr h fun b hb => hl b (List.mem_cons_of_mem _ hb)]
theorem backB_congr {foot : List Nat} (h : ∀ b ∈ foot, ρ b = ρ' b) (id i : Nat) : backB ρ foot id i = backB ρ' foot id i := by
  unfold backB
  split
  · rename_i b hb
    rw [h b (List.mem_of_getElem? hb)]
  · rfl
theorem backC_congr {foot : List Nat} (h : ∀ b ∈ foot, ρ b = ρ' b) (id : Nat) : ∀ (l : List (Nat × Nat)), backC ρ foot id l = backC ρ' foot id l
  | [] => rfl
  | (i, o) :: r => by unfold backC; rw [backB_congr h, backC_congr h id r]
theorem backA_congr {foot : List Nat} (h : ∀ b ∈ foot, ρ b = ρ' b) (id : Nat) : backA ρ foot id = backA ρ' foot id := by
  funext x
  cases x <;> simp only [backA, backB_congr h, backC_congr h]
theorem backV_congr {foot : List Nat} (h : ∀ b ∈ foot, ρ b = ρ' b) (id : Nat) (x : LV) : backV ρ foot id x = backV ρ' foot id x := by
  cases x <;> simp only [backV, backA_congr h]
theorem backVs_congr {foot : List Nat} (h : ∀ b ∈ foot, ρ b = ρ' b) (id : Nat) : ∀ (l : List LV), backVs ρ foot id l = backVs ρ' foot id l
  | [] => rfl
  | x :: r => by unfold backVs; rw [backV_congr h, backVs_congr h id r]
theorem backT_congr {foot : List Nat} (h : ∀ b ∈ foot, ρ b = ρ' b) (id : Nat) (x : LV) : backT ρ foot id x = backT ρ' foot id x := by
  cases x <;> simp only [backT, backV_congr h, backVs_congr h]
theorem backCells_congr {foot : List Nat} (h : ∀ b ∈ foot, ρ b = ρ' b) (id b u : Nat) : ∀ (l : List (Option At)) (k : Nat), backCells ρ foot id b u k l = backCells ρ' foot id b u k l
  | [], k => rfl
  | x :: r, k => by unfold backCells; rw [backA_congr h, backCells_congr h id b u r (k + 1)]
theorem backBlks_congr {foot : List Nat} (h : ∀ b ∈ foot, ρ b = ρ' b) (id : Nat) : ∀ (l : List (Option BC)) (i : Nat), backBlks ρ foot id i l = backBlks ρ' foot id i l
  | [], i => rfl
  | none :: r, i => by unfold backBlks; exact backBlks_congr h id r (i + 1)
  | some c :: r, i => by
    unfold backBlks
    rw [backB_congr h, backBlks_congr h id r (i + 1)]
    simp only [backCells_congr h]
theorem vOK_congr {foot : List Nat} (h : ∀ b ∈ foot, ρ b = ρ' b) (id : Nat) : ∀ (l : List (Option BC)) (i : Nat), vOK ρ foot id i l = vOK ρ' foot id i l
  | [], i => rfl
  | none :: r, i => by unfold vOK; exact vOK_congr h id r (i + 1)
  | some c :: r, i => by unfold vOK; rw [backB_congr h, vOK_congr h id r (i + 1)]

theorem lcallF_congr {id : Nat} {foot : List Nat} {x : Operand} {as : List Operand} (hx : lev σ x = lev σ' x) (has : ∀ y ∈ as, lev σ y = lev σ' y) (h : AgB foot μ μ' ρ ρ') : lcallF T id foot σ μ ρ x as = lcallF T id foot σ' μ' ρ' x as := by
  have hf : ∀ b ∈ foot, ρ b = ρ' b := fun b hb => (h b hb).1
  unfold lcallF
  rw [hx, levs_congr has, blksOf_congr h (fun b hb => hb), renV_congr hf]
  simp only [vOK_congr hf, backT_congr hf, backBlks_congr hf]

theorem srcRows_congr {sh : List Kd} {v : LV} (h : AgB (atB v) μ μ' ρ ρ') : srcRows μ ρ sh v = srcRows μ' ρ' sh v := by
  cases v with
  | a x =>
    cases x with
    | vec b v e => simp only [srcRows, rowsAt_congr (h b (by simp [atB])).1]
    | slc s b v st e off len =>
      have hb := h.sub (m := [b]) (fun c hc => by simpa [atB] using hc)
      simp only [srcRows, rowsAt_congr (hb b (by simp)).1, cur_congr (hb b (by simp)).1, rdAll_congr hb]
    | _ => rfl
  | _ => rfl

theorem grow_congr {id bytes z : Nat} {sh : List Kd} {new : List (List Int)} {v : LV} (h : ∀ b ∈ atB v, ρ b = ρ' b) : grow id ρ bytes z sh new v = grow id ρ' bytes z sh new v := by
  cases v with
  | a x =>
    cases x with
    | vec b v e => simp only [grow, rowsAt_congr (h b (by simp [atB]))]
    | _ => rfl
  | _ => rfl

theorem bnd_congr {x : Option Operand} {n : Nat} (h : ∀ y, x = some y → lev σ y = lev σ' y) : bnd σ x n = bnd σ' x n := by
  cases x with
  | none => rfl
  | some y => simp only [bnd, h y rfl]

theorem lcall_congr {id : Nat} {foot : List Nat} {c : Call} (e : o.op = .call c) (h : ∀ x ∈ o.op.operands.toList, lev σ x = lev σ' x) (hm : Agr (rblk σ foot o) μ μ' ρ ρ') : lcall P T id foot σ μ ρ c o = lcall P T id foot σ' μ' ρ' c o := by
  obtain ⟨callee, as, ts⟩ := c
  have has : ∀ x ∈ as.toList, lev σ x = lev σ' x := fun x hx => h x (by cases callee <;> simp_all [Op.operands, Call.operands])
  cases callee with
  | value x =>
    have hx := h x (by simp [e, Op.operands, Call.operands])
    simp only [rblk, e] at hm
    have hm := hm.all
    simp only [lcall]
    exact lcallF_congr hx has hm
  | invoke r n => rfl
  | builtin b =>
    have hc := calmOp_congr (P := P) h (.inr (.inr (.inr ⟨b, as, ts, e⟩)))
    by_cases hbc : b = .copy
    · subst hbc
      simp only [rblk, e] at hm
      have hm := hm.all
      simp only [lcall]
      split
      · rename_i x y tx ty hx ht
        rw [hx] at hm has
        have ex := has x (by simp)
        have ey := has y (by simp)
        unfold lcopy
        rw [← ex, ← ey]
        split
        · rename_i el d vy h1 h2 h3
          have hsrc : ∀ sh, srcRows μ ρ sh vy = srcRows μ' ρ' sh vy := fun sh => srcRows_congr (hm.sub fun b hb => by simp [opsB, opB, h2, h3, hb])
          have hro : ∀ b v e, b ∈ atB (.a d) → rowsAt ρ b v 0 e = rowsAt ρ' b v 0 e := fun b v e hb => rowsAt_congr (hm b (by simp [opsB, opB, h2, hb])).1
          have hds : dstOf ρ d = dstOf ρ' d := by
            cases d with
            | vec b v e' => simp only [dstOf]; rw [hro _ _ _ (by simp [atB])]
            | slc s b v st e' off n => cases st <;> rfl
            | _ => rfl
          rw [hds]
          cases hi : P.info? el with
          | none => rfl
          | some ie =>
            cases hd : dstOf ρ' d with
            | none => rfl
            | some q =>
              obtain ⟨b, v, e', off, n⟩ := q
              have hb : b ∈ atB (.a d) := by
                unfold dstOf at hd
                split at hd
                · split at hd
                  · simp only [Option.some.injEq, Prod.mk.injEq] at hd
                    obtain ⟨rfl, _⟩ := hd
                    simp [atB]
                  · cases hd
                · simp only [Option.some.injEq, Prod.mk.injEq] at hd
                  obtain ⟨rfl, _⟩ := hd
                  simp [atB]
                · cases hd
              simp only [hro b v e' hb, hsrc]
        · rfl
      · rfl
    by_cases hba : b = .append
    · subst hba
      simp only [rblk, e] at hm
      have hm := hm.all
      simp only [lcall]
      split
      · rename_i x y tx ty hx ht
        rw [hx] at hm has
        have ex := has x (by simp)
        have ey := has y (by simp)
        have e1 : lappend P id σ μ ρ x y tx ty = lappend P id σ' μ' ρ' x y tx ty := by
         unfold lappend
         rw [← ex, ← ey]
         split
         · rename_i el el' vx vy h1 h2 h3 h4
           have hsrc : ∀ sh, srcRows μ ρ sh vy = srcRows μ' ρ' sh vy := fun sh => srcRows_congr (hm.sub fun b hb => by simp [opsB, opB, h3, h4, hb])
           have hgr : ∀ bytes z sh new, grow id ρ bytes z sh new vx = grow id ρ' bytes z sh new vx := fun bytes z sh new => grow_congr fun b hb => (hm b (by simp [opsB, opB, h3, h4, hb])).1
           simp only [hsrc, hgr]
         · rfl
        have e2 : lappendZ P id σ ρ x y tx ty = lappendZ P id σ' ρ' x y tx ty := by
          unfold lappendZ
          rw [← ex, ← ey]
          split
          · rename_i el kk vx q1 q2 m h1 h2 h3 h4
            have hgr : ∀ bytes z sh new, grow id ρ bytes z sh new vx = grow id ρ' bytes z sh new vx := fun bytes z sh new => grow_congr fun b hb => (hm b (by simp [opsB, opB, h3, h4, hb])).1
            simp only [hgr]
          · rfl
        rw [e1, e2]
      · rfl
    · by_cases hb : b = .len
      · subst hb
        simp only [rblk, e] at hm
        have hm := hm.all
        simp only [lcall, hc]
        split
        · rename_i x t hx ht
          rw [hx] at hm has
          have ex := has x (by simp)
          rw [← ex]
          cases hl : lev σ x with
          | none => rfl
          | some v =>
            have hmv : ∀ b ∈ atB v, ρ b = ρ' b := fun b hb => (hm b (by simp [opsB, opB, hl, hb])).1
            cases v with
            | a y =>
              cases hu : P.underlying t with
              | none => cases y <;> rfl
              | some d =>
                cases y with
                | slc s b v st el off n => have := cur_congr (v := v) (hmv b (by simp [atB])); cases d <;> first | rfl | simp only [this]
                | vec b v el => have := rowsAt_congr (v := v) (st := 0) (e := el) (hmv b (by simp [atB])); cases d <;> first | rfl | simp only [this]
                | _ => cases d <;> rfl
            | _ => cases hu : P.underlying t with
              | none => rfl
              | some d => cases d <;> rfl
        · rfl
      · have h1 : lcall P T id foot σ μ ρ ⟨.builtin b, as, ts⟩ o = calmOp P σ o := by cases b <;> first | rfl | exact absurd rfl hb | exact absurd rfl hba | exact absurd rfl hbc
        have h2 : lcall P T id foot σ' μ' ρ' ⟨.builtin b, as, ts⟩ o = calmOp P σ' o := by cases b <;> first | rfl | exact absurd rfl hb | exact absurd rfl hba | exact absurd rfl hbc
        rw [h1, h2, hc]

theorem lop_congr {id : Nat} {foot : List Nat} (h : ∀ x ∈ o.op.operands.toList, lev σ x = lev σ' x) (hm : Agr (rblk σ foot o) μ μ' ρ ρ') : lop P T id foot σ μ ρ o = lop P T id foot σ' μ' ρ' o := by
  cases e : o.op
  case move x => simp only [lop, e, h x (by simp [e, Op.operands])]
  case assign x => simp only [lop, e, h x (by simp [e, Op.operands])]
  case pick c x y => simp only [lop, e, h c (by simp [e, Op.operands]), h x (by simp [e, Op.operands]), h y (by simp [e, Op.operands])]
  case alloc t => simp only [lop, e]
  case box t x => simp only [lop, e, h x (by simp [e, Op.operands])]
  case build t parts => simp only [lop, e, lparts_congr (σ := σ) (σ' := σ') (l := parts.toList) fun p hp => h p.2 (by simp [e, Op.operands]; exact ⟨p.1, by simpa using hp⟩)]
  case buildSlice t len parts => simp only [lop, e, lparts_congr (σ := σ) (σ' := σ') (l := parts.toList) fun p hp => h p.2 (by simp [e, Op.operands]; exact ⟨p.1, by simpa using hp⟩)]
  case load t x =>
    have hx := h x (by simp [e, Op.operands])
    simp only [rblk, e] at hm
    have hm := hm.all
    simp only [lop, e, ← hx]
    split
    · rename_i b off hb
      rw [loadP_congr (hm.sub (m := [b]) fun c hc => by simpa [opB, hb, atB] using hc)]
    · rename_i s b v st el i j hb
      rw [loadR_congr (hm b (by simp [opB, hb, atB])).1, loadC_congr (hm.sub (m := [b]) fun c hc => by simpa [opB, hb, atB] using hc)]
    · rfl
  case store t x y =>
    have hx := h x (by simp [e, Op.operands])
    have hy := h y (by simp [e, Op.operands])
    simp only [rblk, e] at hm
    have hm := hm.all
    simp only [lop, e, ← hx, ← hy]
    split
    · rename_i b off vs hb h1
      rw [storeP_congr (hm b (by simp [opB, hb, atB])).1]
    · rename_i s b v st el i j vs hb h1
      rw [storeR_congr (hm b (by simp [opB, hb, atB])).1, storeC_congr (hm.sub (m := [b]) fun c hc => by simpa [opB, hb, atB] using hc)]
    · rfl
  case nilCheck x =>
    have hx := h x (by simp [e, Op.operands])
    simp only [rblk, e] at hm
    have hm := hm.hds
    simp only [lop, e, ← hx]
    split
    · rfl
    · rename_i p hne hb
      rw [there_congr (ρ := ρ) (ρ' := ρ') fun c hc => (hm c (by simpa [opB, hb] using hc)).1]
    · rfl
  case fieldAddr s x f =>
    have hx := h x (by simp [e, Op.operands])
    simp only [rblk, e] at hm
    have hm := hm.hds
    simp only [lop, e, ← hx]
    split
    · rename_i p fields hb hu
      rw [there_congr (ρ := ρ) (ρ' := ρ') fun c hc => (hm c (by simpa [opB, hb] using hc)).1]
    · rfl
  case field s x f => simp only [lop, e, h x (by simp [e, Op.operands])]
  case indexAddr t x ix =>
    have hx := h x (by simp [e, Op.operands])
    have hi := h ix (by simp [e, Op.operands])
    simp only [rblk, e] at hm
    have hm := hm.hds
    simp only [lop, e, ← hx, ← hi]
    cases hl : lev σ x with
    | none => rfl
    | some v =>
      have hmv : ∀ b ∈ atB v, ρ b = ρ' b := fun b hb => (hm b (by simp [opB, hl, hb])).1
      cases v with
      | a y =>
        cases hi : lev σ ix with
        | none => cases y <;> first | rfl | (rename_i s b v st el i j; cases s <;> rfl)
        | some w =>
        cases w with
        | a wi =>
          cases wi with
          | int s0 k0 i0 =>
            cases hu : P.underlying t with
            | none => cases y <;> first | rfl | (rename_i s b v st el i j; cases s <;> rfl)
            | some d =>
              cases y with
              | ptr b off =>
                have h1 := cur_congr (v := 0) (hmv b (by simp [atB]))
                have h2 := there_congr (ρ := ρ) (ρ' := ρ') (p := .ptr b off) hmv
                cases d <;> first | rfl | simp only [h1, h2]
              | prw s b v st el i j =>
                have h2 := there_congr (ρ := ρ) (ρ' := ρ') (p := .prw s b v st el i j) hmv
                cases s <;> cases d <;> first | rfl | simp only [h2]
              | slc s b v st el off n => have h1 := cur_congr (v := v) (hmv b (by simp [atB])); cases d <;> first | rfl | simp only [h1]
              | vec b v el => have h1 := rowsAt_congr (v := v) (st := 0) (e := el) (hmv b (by simp [atB])); cases d <;> first | rfl | simp only [h1]
              | _ => cases d <;> rfl
          | _ => cases y <;> first | rfl | (rename_i s b v st el i j; cases s <;> rfl)
        | _ => cases y <;> first | rfl | (rename_i s b v st el i j; cases s <;> rfl)
      | _ => cases hi : lev σ ix with
        | none => rfl
        | some w => cases w with
          | a wi => cases wi <;> rfl
          | _ => rfl
  case index t x ix => simp only [lop, e, h x (by simp [e, Op.operands]), h ix (by simp [e, Op.operands])]
  case makeFunc g first caps =>
    cases g
    case func f => simp only [lop, e, levs_congr (σ := σ) (σ' := σ') (l := caps.toList) fun x hx => h x (by simp [e, Op.operands]; exact .inr (by simpa using hx))]
    all_goals (simp only [lop, e])
  case extract x i => simp only [lop, e, h x (by simp [e, Op.operands])]
  case slice t x lo hi mx =>
    have hx := h x (by simp [e, Op.operands])
    simp only [rblk, e] at hm
    have hm := hm.hds
    have hlo : ∀ n, bnd σ lo n = bnd σ' lo n := fun n => bnd_congr fun y hy => h y (by simp [e, Op.operands, hy])
    have hhi : ∀ n, bnd σ hi n = bnd σ' hi n := fun n => bnd_congr fun y hy => h y (by simp [e, Op.operands, hy])
    cases mx with
    | some m => simp only [lop, e]
    | none =>
      simp only [lop, e, ← hx, ← hlo, ← hhi]
      cases hl : lev σ x with
      | none => rfl
      | some v =>
        have hmv : ∀ b ∈ atB v, ρ b = ρ' b := fun b hb => (hm b (by simp [opB, hl, hb])).1
        cases v with
        | a y =>
          cases hl2 : bnd σ lo 0 with
          | none => cases hu : P.underlying t with
            | none => cases y <;> rfl
            | some d => cases y <;> cases d <;> rfl
          | some w =>
          obtain ⟨s0, l0⟩ := w
          cases hu : P.underlying t with
          | none => cases y <;> rfl
          | some d =>
            cases y with
            | ptr b off =>
              have h1 := cur_congr (v := 0) (hmv b (by simp [atB]))
              have h2 := there_congr (ρ := ρ) (ρ' := ρ') (p := .ptr b off) hmv
              cases d <;> first | rfl | simp only [h1, h2]
            | slc s b v st el off n => have h1 := cur_congr (v := v) (hmv b (by simp [atB])); cases d <;> first | rfl | simp only [h1]
            | vec b v el => have h1 := rowsAt_congr (v := v) (st := 0) (e := el) (hmv b (by simp [atB])); cases d <;> first | rfl | simp only [h1]
            | _ => cases d <;> rfl
        | _ => cases hl2 : bnd σ lo 0 with
          | none => rfl
          | some w => obtain ⟨s0, l0⟩ := w; rfl
  case makeSlice t x y => simp only [lop, e, lmake, h x (by simp [e, Op.operands]), h y (by simp [e, Op.operands])]
  case binOp p t x y t2 =>
    have hc := calmOp_congr (P := P) h (.inl ⟨p, t, x, y, t2, e⟩)
    have hx := h x (by simp [e, Op.operands])
    have hy := h y (by simp [e, Op.operands])
    simp only [rblk, e] at hm
    have hm := hm.hds
    simp only [lop, e, lbin, ← hx, ← hy, hc]
    cases hl : lev σ x with
    | none => rfl
    | some v =>
      have hmv : ∀ b ∈ atB v, ρ b = ρ' b := fun b hb => (hm b (by simp [opB, hl, hb])).1
      cases v with
      | a q =>
        have h1 := there_congr (ρ := ρ) (ρ' := ρ') (p := q) hmv
        have h2 := lnils_congr (P := P) (ρ := ρ) (ρ' := ρ') (op := p) (t := t) (p := q) hmv
        cases hl2 : lev σ y with
        | none => cases q <;> rfl
        | some w =>
          cases w with
          | a r => cases q <;> cases r <;> first | rfl | (simp only [h2]; done) | (simp only [h1]; done) | rw [h2]
          | _ => cases q <;> rfl
      | _ => cases hl2 : lev σ y with
        | none => rfl
        | some w => cases w with
          | a r => cases r <;> rfl
          | _ => rfl
  case unOp p t x => simp only [lop, e]; exact calmOp_congr h (.inr (.inl ⟨p, t, x, e⟩))
  case convert s d x =>
    have hx := h x (by simp [e, Op.operands])
    simp only [rblk, e] at hm
    have hm := hm.all
    have e1 : lconv P σ μ ρ s d x = lconv P σ' μ' ρ' s d x := by
      unfold lconv
      rw [← hx]
      split
      · rename_i el v h1 h2 hv
        have hsrc : ∀ sh, srcRows μ ρ sh v = srcRows μ' ρ' sh v := fun sh => srcRows_congr (hm.sub fun b hb => by simp [opB, hv, hb])
        simp only [hsrc]
      · rfl
    simp only [lop, e, e1, calmOp_congr (P := P) h (.inr (.inr (.inl ⟨s, d, x, e⟩)))]
  case call c => simp only [lop, e]; exact lcall_congr e h hm
  all_goals (simp only [lop, e])

theorem lev_congr {ops : Array Oper} (h : ∀ t ∈ Oper.looksAt ops o, σ t = σ' t) : ∀ x ∈ o.op.operands.toList, lev σ x = lev σ' x := by
  intro x hx
  cases x with
  | tmp t =>
    refine h t ?_
    unfold Oper.looksAt
    refine List.mem_append_left _ (List.mem_filterMap.2 ⟨.tmp t, hx, rfl⟩)
  | const v => rfl
  | func f => rfl
  | global g => rfl

theorem lwanted_congr {ops : Array Oper} (h : ∀ t ∈ Oper.looksAt ops o, σ t = σ' t) : lwanted σ ops o = lwanted σ' ops o := by
  unfold lwanted
  split
  · rfl
  · rename_i j want hg
    split
    · rename_i d hd
      have : σ d = σ' d := by
        refine h d ?_
        unfold Oper.looksAt
        refine List.mem_append_right _ ?_
        simp [hg, hd]
      rw [this]
    · rfl

theorem opB_congr {x : Operand} (h : lev σ x = lev σ' x) : opB σ x = opB σ' x := by unfold opB; rw [h]

theorem rblk_congr {foot : List Nat} (h : ∀ x ∈ o.op.operands.toList, lev σ x = lev σ' x) : rblk σ foot o = rblk σ' foot o := by
  unfold rblk
  split <;> rename_i e
  case h_9 =>
    rename_i c
    split
    · rfl
    · exact congrArg alL <| opsB_congr fun y hy => h y (by
        rw [e]; simp only [Op.operands, Call.operands]
        rename_i hc
        rw [hc]; simpa using hy)
    · exact congrArg alL <| opsB_congr fun y hy => h y (by
        rw [e]; simp only [Op.operands, Call.operands]
        rename_i hc
        rw [hc]; simpa using hy)
    · exact congrArg alL <| opsB_congr fun y hy => h y (by
        rw [e]; simp only [Op.operands, Call.operands]
        rename_i hc
        rw [hc]; simpa using hy)
    · rfl
  all_goals first
    | rfl
    | exact congrArg _ (opB_congr (h _ (by simp [e, Op.operands])))
    | (rw [opB_congr (h _ (by rw [e]; simp [Op.operands])), opB_congr (h _ (by rw [e]; simp [Op.operands]))])

theorem StepOK_congr {ops : Array Oper} {id : Nat} {it : It} (h : ∀ t ∈ Oper.looksAt ops o, σ t = σ' t) (hm : Agr it.rb μ μ' ρ ρ') (hs : StepOK P T ops id σ μ ρ o it) : StepOK P T ops id σ' μ' ρ' o it := by
  obtain ⟨h1, h2, h3, h4⟩ := hs
  have hl := lev_congr h
  refine ⟨?_, by rw [h2]; exact rblk_congr hl, h3, h4⟩
  rw [h2] at hm
  rw [lwanted_congr h, lop_congr hl hm] at h1
  exact h1

end congr
end Go.Proofs.Ytcdejlgophpdjaa.V
