/-
  A region whose order is open: if what is not ordered does not meet, every order leaves the same.
-/
import Derived.Test.YthgjacfikicgnaaKf
namespace Go.Proofs.Ythgjacfikicgnaa.K
open Go Go.RowKit

section fold
variable {β : Type}

def updO (f : Nat → Option β) : Option (Nat × β) → Nat → Option β
  | none => f
  | some (k, v) => upd f k v

def foldS (S : Nat → Bool) : Nat → List (Option (Nat × β)) → (Nat → Option β) → (Nat → Option β)
  | _, [], f => f
  | i, u :: us, f => foldS S (i + 1) us (match S i with
    | true => updO f u
    | false => f)

theorem updO_other {f : Nat → Option β} {u : Option (Nat × β)} {k : Nat} (h : ∀ v, u ≠ some (k, v)) : updO f u k = f k := by
  cases u with
  | none => rfl
  | some p =>
    obtain ⟨k', v⟩ := p
    refine upd_other f v fun e => ?_
    subst e; exact h v rfl

theorem foldS_congr {S S' : Nat → Bool} {k : Nat} : ∀ (us : List (Option (Nat × β))) (i : Nat) (f f' : Nat → Option β), (∀ j v, us[j]? = some (some (k, v)) → S (i + j) = S' (i + j)) → f k = f' k → foldS S i us f k = foldS S' i us f' k
  | [], i, f, f', _, hf => hf
  | u :: us, i, f, f', h, hf => by
    unfold foldS
    refine foldS_congr us (i + 1) _ _ (fun j v hj => ?_) ?_
    · have := h (j + 1) v (by simpa using hj)
      rw [show i + 1 + j = i + (j + 1) by omega]; exact this
    · by_cases hu : ∃ v, u = some (k, v)
      · obtain ⟨v, rfl⟩ := hu
        have := h 0 v (by simp)
        simp only [Nat.add_zero] at this
        rw [← this]
        cases S i
        · exact hf
        · simp [updO, upd]
      · have hu' : ∀ v, u ≠ some (k, v) := fun v e => hu ⟨v, e⟩
        have g1 : (match S i with
          | true => updO f u
          | false => f) k = f k := by cases S i; rfl; exact updO_other hu'
        have g2 : (match S' i with
          | true => updO f' u
          | false => f') k = f' k := by cases S' i; rfl; exact updO_other hu'
        rw [g1, g2]; exact hf

theorem foldS_none {S : Nat → Bool} {k : Nat} (us : List (Option (Nat × β))) (i : Nat) (f : Nat → Option β) (h : ∀ j v, us[j]? = some (some (k, v)) → S (i + j) = false) : foldS S i us f k = f k := by
  have := foldS_congr (S := S) (S' := fun _ => false) us i f f h rfl
  rw [this]
  clear this h
  induction us generalizing i with
  | nil => rfl
  | cons u us ih => unfold foldS; exact ih (i + 1)

theorem foldS_last {S : Nat → Bool} {k : Nat} {v : β} : ∀ (us : List (Option (Nat × β))) (i j : Nat) (f : Nat → Option β), us[j]? = some (some (k, v)) → S (i + j) = true →
    (∀ j' v', j < j' → us[j']? = some (some (k, v')) → S (i + j') = false) → foldS S i us f k = some v
  | [], i, j, f, h, _, _ => by simp at h
  | u :: us, i, 0, f, h, hs, hl => by
    simp only [List.getElem?_cons_zero, Option.some.injEq] at h
    subst h
    unfold foldS
    rw [foldS_none]
    · simp only [Nat.add_zero] at hs; simp [hs, updO, upd]
    · intro j' v' hj
      have := hl (j' + 1) v' (by omega) (by simpa using hj)
      rw [show i + 1 + j' = i + (j' + 1) by omega]; exact this
  | u :: us, i, j + 1, f, h, hs, hl => by
    unfold foldS
    refine foldS_last us (i + 1) j _ (by simpa using h) (by rw [show i + 1 + j = i + (j + 1) by omega]; exact hs) fun j' v' hlt hj => ?_
    have := hl (j' + 1) v' (by omega) (by simpa using hj)
    rw [show i + 1 + j' = i + (j' + 1) by omega]; exact this

/-- One more: it comes last, if none of the later ones that are there writes the same. -/
theorem foldS_put {S S' : Nat → Bool} {us : List (Option (Nat × β))} {i : Nat} {u : Option (Nat × β)} (hu : us[i]? = some u) (hS' : ∀ j, S' j = (S j || Nat.beq j i))
    (hl : ∀ j k v v', i < j → u = some (k, v) → us[j]? = some (some (k, v')) → S j = false) (f : Nat → Option β) : foldS S' 0 us f = updO (foldS S 0 us f) u := by
  funext k
  have other : ∀ j, j ≠ i → S' j = S j := fun j hj => by
    rw [hS' j]
    have : Nat.beq j i = false := by
      cases hb : Nat.beq j i
      · rfl
      · exact absurd (Nat.eq_of_beq_eq_true hb) hj
    simp [this]
  by_cases hk : ∃ v, u = some (k, v)
  · obtain ⟨v, rfl⟩ := hk
    simp only [updO, upd, if_true]
    refine foldS_last us 0 i f hu (by simp [hS']) fun j v' hlt hj => ?_
    simp only [Nat.zero_add]
    rw [other j (by omega)]
    exact hl j k v v' hlt rfl hj
  · rw [updO_other fun v e => hk ⟨v, e⟩]
    refine foldS_congr us 0 f f (fun j v hj => ?_) rfl
    simp only [Nat.zero_add]
    refine other j fun e => ?_
    subst e
    rw [hu] at hj
    simp only [Option.some.injEq] at hj
    exact hk ⟨v, hj⟩

theorem foldS_shift (S : Nat → Bool) : ∀ (us : List (Option (Nat × β))) (i : Nat) (f : Nat → Option β), foldS S (i + 1) us f = foldS (fun x => S (x + 1)) i us f
  | [], i, f => rfl
  | u :: us, i, f => by unfold foldS; exact foldS_shift S us (i + 1) _

theorem foldS_all (S : Nat → Bool) : ∀ (us : List (Option (Nat × β))) (i : Nat) (f : Nat → Option β), (∀ j, j < us.length → S (i + j) = true) → foldS S i us f = foldS (fun _ => true) i us f
  | [], i, f, _ => rfl
  | u :: us, i, f, h => by
    have h0 := h 0 (by simp)
    simp only [Nat.add_zero] at h0
    unfold foldS
    simp only [h0]
    exact foldS_all S us (i + 1) _ fun j hj => by
      have := h (j + 1) (by simp; omega)
      rw [show i + 1 + j = i + (j + 1) by omega]; exact this

end fold

theorem eff_updO (μ : Loc) (ef : Option (Nat × List At)) : eff μ ef = updO μ ef := by cases ef <;> rfl
theorem putS_updO (σ : Sig) (dst : Option Nat) (v : LV) : putS σ dst v = updO σ (dst.map (·, v)) := by cases dst <;> rfl

/-! What an operation looks at decides what it does. -/
section congr
variable {P : Program} {T : Tab} {σ σ' : Sig} {μ μ' : Loc} {o : Oper}

theorem lparts_congr : ∀ {l : List (Nat × Operand)}, (∀ p ∈ l, lev σ p.2 = lev σ' p.2) → lparts σ l = lparts σ' l
  | [], _ => rfl
  | (i, x) :: r, h => by
    have h1 := h (i, x) (by simp)
    have h2 := lparts_congr (l := r) fun p hp => h p (by simp [hp])
    simp only at h1
    unfold lparts
    rw [h1, h2]

theorem levs_congr : ∀ {l : List Operand}, (∀ x ∈ l, lev σ x = lev σ' x) → levs σ l = levs σ' l
  | [], _ => rfl
  | x :: r, h => by
    have h1 := h x (by simp)
    have h2 := levs_congr (l := r) fun p hp => h p (by simp [hp])
    unfold levs
    rw [h1, h2]

theorem rho_congr {x : Operand} (h : lev σ x = lev σ' x) : rho σ x = rho σ' x := by unfold rho; rw [h]

theorem calmOp_congr (h : ∀ x ∈ o.op.operands.toList, lev σ x = lev σ' x) (hk : (∃ p t x y t2, o.op = .binOp p t x y t2) ∨ (∃ p t x, o.op = .unOp p t x) ∨ (∃ s d x, o.op = .convert s d x) ∨ (∃ b as ts, o.op = .call ⟨.builtin b, as, ts⟩)) :
    calmOp P σ o = calmOp P σ' o := by
  have hf : opsFree σ o.op.operands.toList = opsFree σ' o.op.operands.toList := by
    unfold opsFree
    generalize o.op.operands.toList = l at h
    induction l with
    | nil => rfl
    | cons x r ih => simp only [List.all_cons, h x (by simp), ih fun y hy => h y (by simp [hy])]
  have he : execOp (rho σ) o = execOp (rho σ') o := by
    rcases hk with ⟨p, t, x, y, t2, e⟩ | ⟨p, t, x, e⟩ | ⟨s, d, x, e⟩ | ⟨b, as, ts, e⟩
    · have hx := rho_congr (h x (by simp [e, Op.operands]))
      have hy := rho_congr (h y (by simp [e, Op.operands]))
      simp only [execOp, e, hx, hy]
    · have hx := rho_congr (h x (by simp [e, Op.operands]))
      simp only [execOp, e, hx]
    · have hx := rho_congr (h x (by simp [e, Op.operands]))
      simp only [execOp, e, hx]
    · have hm : as.map (rho σ) = as.map (rho σ') := by
        apply Array.map_congr_left
        intro x hx
        exact rho_congr (h x (by simp [e, Op.operands, Call.operands, hx]))
      simp only [execOp, e, resolve, hm]
  unfold calmOp
  rw [hf, he]

theorem lcall_congr {c : Call} (e : o.op = .call c) (h : ∀ x ∈ o.op.operands.toList, lev σ x = lev σ' x) : lcall P T σ c o = lcall P T σ' c o := by
  obtain ⟨callee, as, ts⟩ := c
  have has : ∀ x ∈ as.toList, lev σ x = lev σ' x := fun x hx => h x (by cases callee <;> simp_all [Op.operands, Call.operands])
  cases callee with
  | value x =>
    have hx := h x (by simp [e, Op.operands, Call.operands])
    simp only [lcall, hx, levs_congr has]
  | invoke r n => rfl
  | builtin b =>
    have hc := calmOp_congr (P := P) h (.inr (.inr (.inr ⟨b, as, ts, e⟩)))
    by_cases hb : b = .len
    · subst hb
      simp only [lcall, hc]
      split
      · rename_i x t hx ht
        rw [has x (by rw [hx]; simp)]
      · rfl
    · have h1 : lcall P T σ ⟨.builtin b, as, ts⟩ o = calmOp P σ o := by cases b <;> first | rfl | exact absurd rfl hb
      have h2 : lcall P T σ' ⟨.builtin b, as, ts⟩ o = calmOp P σ' o := by cases b <;> first | rfl | exact absurd rfl hb
      rw [h1, h2, hc]

theorem lop_congr {id : Nat} {d : D} (h : ∀ x ∈ o.op.operands.toList, lev σ x = lev σ' x) (hm : ∀ b ∈ rblk σ o, μ b = μ' b) : lop P T id σ μ d o = lop P T id σ' μ' d o := by
  cases e : o.op
  case move x => simp only [lop, e, h x (by simp [e, Op.operands])]
  case assign x => simp only [lop, e, h x (by simp [e, Op.operands])]
  case pick c x y => simp only [lop, e, h c (by simp [e, Op.operands]), h x (by simp [e, Op.operands]), h y (by simp [e, Op.operands])]
  case alloc t => simp only [lop, e]
  case box t x => simp only [lop, e, h x (by simp [e, Op.operands])]
  case build t parts => simp only [lop, e, lparts_congr (σ := σ) (σ' := σ') (l := parts.toList) fun p hp => h p.2 (by simp [e, Op.operands]; exact ⟨p.1, by simpa using hp⟩)]
  case buildSlice t len parts => simp only [lop, e, lparts_congr (σ := σ) (σ' := σ') (l := parts.toList) fun p hp => h p.2 (by simp [e, Op.operands]; exact ⟨p.1, by simpa using hp⟩)]
  case load t x =>
    have hx := h x (by simp [e, Op.operands])
    simp only [rblk, e] at hm
    simp only [lop, e, ← hx]
    split
    · rename_i b off hb
      have : μ b = μ' b := hm b (by simp [hb])
      simp only [lload, this]
    · rfl
  case store t x y =>
    have hx := h x (by simp [e, Op.operands])
    have hy := h y (by simp [e, Op.operands])
    simp only [rblk, e] at hm
    simp only [lop, e, ← hx, ← hy]
    split
    · rename_i b off vs q n hb h1 h2
      have : μ b = μ' b := hm b (by simp [hb])
      simp only [this]
    · rfl
  case nilCheck x => simp only [lop, e, h x (by simp [e, Op.operands])]
  case fieldAddr s x f => simp only [lop, e, h x (by simp [e, Op.operands])]
  case field s x f => simp only [lop, e, h x (by simp [e, Op.operands])]
  case indexAddr t x ix => simp only [lop, e, h x (by simp [e, Op.operands]), h ix (by simp [e, Op.operands])]
  case index t x ix => simp only [lop, e, h x (by simp [e, Op.operands]), h ix (by simp [e, Op.operands])]
  case makeFunc g first caps =>
    cases g
    case func f => simp only [lop, e, levs_congr (σ := σ) (σ' := σ') (l := caps.toList) fun x hx => h x (by simp [e, Op.operands]; exact .inr (by simpa using hx))]
    all_goals (simp only [lop, e])
  case extract x i => simp only [lop, e, h x (by simp [e, Op.operands])]
  case slice t x lo hi mx =>
    have hx := h x (by simp [e, Op.operands])
    have h1 : lo.map (lev σ) = lo.map (lev σ') := by
      cases lo with
      | none => rfl
      | some y => simp [h y (by simp [e, Op.operands])]
    have h2 : hi.map (lev σ) = hi.map (lev σ') := by
      cases hi with
      | none => rfl
      | some y => simp [h y (by simp [e, Op.operands])]
    simp only [lop, e, hx, h1, h2]
  case binOp p t x y t2 =>
    have hc := calmOp_congr (P := P) h (.inl ⟨p, t, x, y, t2, e⟩)
    have hx := h x (by simp [e, Op.operands])
    have hy := h y (by simp [e, Op.operands])
    simp only [lop, e, lbin, hx, hy, hc]
  case unOp p t x => simp only [lop, e]; exact calmOp_congr h (.inr (.inl ⟨p, t, x, e⟩))
  case convert s d x => simp only [lop, e]; exact calmOp_congr h (.inr (.inr (.inl ⟨s, d, x, e⟩)))
  case call c => simp only [lop, e]; exact lcall_congr e h
  all_goals (simp only [lop, e])

theorem lev_congr {ops : Array Oper} (h : ∀ t ∈ Oper.looksAt ops o, σ t = σ' t) : ∀ x ∈ o.op.operands.toList, lev σ x = lev σ' x := by
  intro x hx
  cases x with
  | tmp t =>
    refine h t ?_
    unfold Oper.looksAt
    refine List.mem_append_left _ (List.mem_filterMap.2 ⟨.tmp t, hx, rfl⟩)
  | const v => rfl
  | func f => rfl
  | global g => rfl

theorem lwanted_congr {ops : Array Oper} (h : ∀ t ∈ Oper.looksAt ops o, σ t = σ' t) : lwanted σ ops o = lwanted σ' ops o := by
  unfold lwanted
  split
  · rfl
  · rename_i j want hg
    split
    · rename_i d hd
      have : σ d = σ' d := by
        refine h d ?_
        unfold Oper.looksAt
        refine List.mem_append_right _ ?_
        simp [hg, hd]
      rw [this]
    · rfl

theorem lstep_congr {ops : Array Oper} {id : Nat} {d : D} (h : ∀ t ∈ Oper.looksAt ops o, σ t = σ' t) (hm : ∀ b ∈ rblk σ o, μ b = μ' b) : lstep P T ops id σ μ d o = lstep P T ops id σ' μ' d o := by
  unfold lstep
  rw [lwanted_congr h, lop_congr (lev_congr h) hm]

end congr

end Go.Proofs.Ythgjacfikicgnaa.K
