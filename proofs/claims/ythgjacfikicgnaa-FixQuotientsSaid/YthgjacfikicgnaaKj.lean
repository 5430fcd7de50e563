/-
  Code, and a whole function, run on the local memory.
-/
import Derived.LoopN
import Derived.Test.YthgjacfikicgnaaKi
namespace Go.Proofs.Ythgjacfikicgnaa.K
open Go Go.RowKit

inductive X where
  | n | e (id : Nat) | r

def X.real : X → Exit
  | .n => .normal
  | .e id => .exit id
  | .r => .ret

abbrev Out := List Prop × X × List (Nat × LV) × List (Nat × List At) × Nat × List D

/-- Code on the local memory. 'true': a loop's rounds. -/
def ev (P : Program) (T : Tab) (n : Nat) : Nat → Bool → Code → List (Nat × LV) → List (Nat × List At) → Nat → List D → Option Out
  | 0, _, _, _, _, _, _ => none
  | k + 1, true, c, tm, mem, nx, ds => match ev P T n k false c tm mem nx ds with
    | some (obs, .n, tm', mem', nx', ds') => match ev P T n k true c tm' mem' nx' ds' with
      | some (obs', x, r) => some (obs ++ obs', x, r)
      | none => none
    | r => r
  | k + 1, false, c, tm, mem, nx, ds => match c with
    | .skip => some ([], .n, tm, mem, nx, ds)
    | .region _ ops draw => match levOps P T n ops ops.toList nx tm mem ds with
      | some (obs, tm', mem', ds', its) => match draw with
        | false => some (obs, .n, tm', mem', nx + ops.toList.length, ds')
        | true => match drawOK ops.toList its with
          | true => some (obs, .n, tm', mem', nx + ops.toList.length, ds')
          | false => none
      | none => none
    | .seq a b => match ev P T n k false a tm mem nx ds with
      | some (obs, .n, tm', mem', nx', ds') => match ev P T n k false b tm' mem' nx' ds' with
        | some (obs', x, r) => some (obs ++ obs', x, r)
        | none => none
      | r => r
    | .cond q a b => match (lev (look tm) q).bind lbool with
      | some true => ev P T n k false a tm mem nx ds
      | some false => ev P T n k false b tm mem nx ds
      | none => none
    | .block id a => match ev P T n k false a tm mem nx ds with
      | some (obs, .e id', r) => match Nat.beq id' id with
        | true => some (obs, .n, r)
        | false => some (obs, .e id', r)
      | r => r
    | .loop a => ev P T n k true a tm mem nx ds
    | .exit id => some ([], .e id, tm, mem, nx, ds)
    | .ret => some ([], .r, tm, mem, nx, ds)
    | _ => none

/-- The state stands for the real one. -/
structure SR (n : Nat) (w0 : World) (may : Nat → Prop) (φ : Phi) (tm : List (Nat × LV)) (mem : List (Nat × List At)) (nx : Nat) (a : Act) (w : World) : Prop where
  tr : TRel φ (look tm) a.tmps
  sz : a.tmps.size = n
  df : a.defers = []
  mr : MR w0 may φ (look mem) (fun b => nx ≤ b) w

section
variable {P : Program} {w0 : World} {may : Nat → Prop} {T : Tab}

theorem ev_true_ne {n : Nat} : ∀ {k : Nat} {c : Code} {tm : List (Nat × LV)} {mem : List (Nat × List At)} {nx : Nat} {ds : List D} {obs : List Prop} {x : X} {r : List (Nat × LV) × List (Nat × List At) × Nat × List D},
    ev P T n k true c tm mem nx ds = some (obs, x, r) → x ≠ .n
  | 0, c, tm, mem, nx, ds, obs, x, r, h => by simp [ev] at h
  | k + 1, c, tm, mem, nx, ds, obs, x, r, h => by
    simp only [ev] at h
    split at h
    · rename_i obs1 tm1 mem1 nx1 ds1 h1
      split at h
      · rename_i obs2 x2 r2 h2
        simp only [Option.some.injEq, Prod.mk.injEq] at h
        obtain ⟨_, rfl, _⟩ := h
        exact ev_true_ne h2
      · cases h
    · rename_i hne
      intro e
      subst e
      obtain ⟨tm2, mem2, nx2, ds2⟩ := r
      exact hne _ _ _ _ _ h

theorem region_wp (hT : TOK P T) (hF : P.follows .mixedOrders = true) {n : Nat} {id : Nat} {ops : Array Oper} {draw : Bool} {nx : Nat} {tm : List (Nat × LV)} {mem : List (Nat × List At)} {ds : List D} {obs : List Prop}
    {tm' : List (Nat × LV)} {mem' : List (Nat × List At)} {ds' : List D} {its : List (Item × D × List Nat)} (h : levOps P T n ops ops.toList nx tm mem ds = some (obs, tm', mem', ds', its)) (ho : Alls obs)
    (hc : draw = true → drawOK ops.toList its = true) {Q : Exit → Act → World → Prop} {φ : Phi} {a : Act} {w : World} (hs : SR n w0 may φ tm mem nx a w)
    (hQ : ∀ φ' a' w', φ.le φ' → SR n w0 may φ' tm' mem' (nx + ops.toList.length) a' w' → Q .normal a' w') : (Code.region id ops draw).wp P Q a w := by
  cases draw with
  | false =>
    refine wp_region ?_
    have := levOps_wp hT (Q := Q) ops.toList 0 nx tm mem ds h rfl ho hs.tr hs.sz hs.df hs.mr fun φ' a' w' hle h1 h2 h3 h4 => hQ φ' a' w' hle ⟨h1, h2, h3, h4⟩
    simpa [List.range_eq_range'] using this
  | true =>
    refine wp_region_any hF ?_
    have e : ops.toList.toArray = ops := by simp
    have hm : (setOf (Array.replicate ops.size false)) = fun _ => false := by
      funext j
      simp [setOf, Array.getD_eq_getD_getElem?, Array.getElem?_replicate]
      split <;> rfl
    have hnone : ∀ {β : Type} (us : List (Option (Nat × β))) (f : Nat → Option β), foldS (fun _ => false) 0 us f = f := fun us f => by
      funext k; exact foldS_none us 0 f fun _ _ _ => rfl
    have h' : levOps P T n ops.toList.toArray ops.toList nx tm mem ds = some (obs, tm', mem', ds', its) := by rw [e]; exact h
    have := any_wp hT (w0 := w0) (may := may) h' ho (hc rfl) (Q := Q) ops.size (Array.replicate ops.size false) (by simp) (by
        unfold unlisted
        have := List.countP_le_length (p := (· == false)) (l := (Array.replicate ops.size false).toList)
        simpa using this) (by
        intro i o hi hS; rw [hm] at hS; cases hS) (φ := φ) (a := a) (w := { w with drawn := w.drawn + 1 }) (by rw [hm, hnone]; exact hs.tr) hs.sz hs.df (by
        rw [hm, hnone]
        exact (drawn_mr hs.mr _).drop fun b hb => hb.1) fun φ' a' w' hle h1 h2 h3 h4 => hQ φ' a' w' hle ⟨h1, h2, h3, h4⟩
    rw [e] at this
    exact this

theorem ev_wp (hT : TOK P T) (hF : P.follows .mixedOrders = true) {n : Nat} : ∀ (k : Nat) (q : Bool) (c : Code) (tm : List (Nat × LV)) (mem : List (Nat × List At)) (nx : Nat) (ds : List D) {obs : List Prop} {x : X}
    {tm' : List (Nat × LV)} {mem' : List (Nat × List At)} {nx' : Nat} {ds' : List D}, ev P T n k q c tm mem nx ds = some (obs, x, tm', mem', nx', ds') → Alls obs → ∀ {Q : Exit → Act → World → Prop} {φ : Phi} {a : Act} {w : World},
    SR n w0 may φ tm mem nx a w → (∀ φ' a' w', φ.le φ' → SR n w0 may φ' tm' mem' nx' a' w' → Q x.real a' w') → (if q then (x ≠ .n ∧ Code.rounds P c Q k a w) else c.wp P Q a w) := by
  intro k
  induction k with
  | zero => intro q c tm mem nx ds obs x tm' mem' nx' ds' h; simp [ev] at h
  | succ k ih =>
    intro q c tm mem nx ds obs x tm' mem' nx' ds' h ho Q φ a w hs hQ
    cases q with
    | true =>
      simp only [ev] at h
      simp only [if_true]
      split at h
      · rename_i obs1 tm1 mem1 nx1 ds1 h1
        split at h
        · rename_i obs2 x2 r h2
          obtain ⟨tm2, mem2, nx2, ds2⟩ := r
          simp only [Option.some.injEq, Prod.mk.injEq] at h
          obtain ⟨rfl, rfl, rfl, rfl, rfl, rfl⟩ := h
          obtain ⟨o1, o2⟩ := Alls.append.1 ho
          have hx : x2 ≠ .n := ev_true_ne h2
          refine ⟨hx, ?_⟩
          have key := ih false c tm mem nx ds h1 o1 (Q := Exit.then (Code.rounds P c Q k) Q) hs fun φ' a' w' hle hs' => by
            have := ih true c tm1 mem1 nx1 ds1 h2 o2 (Q := Q) hs' fun φ'' a'' w'' hle' hs'' => hQ φ'' a'' w'' (Phi.le_trans hle hle') hs''
            simp only [if_true] at this
            exact this.2
          rw [rounds_succ]
          simpa using key
        · cases h
      · rename_i hne
        have hx : x ≠ .n := fun e => by subst e; exact hne _ _ _ _ _ h
        refine ⟨hx, ?_⟩
        have key := ih false c tm mem nx ds h ho (Q := Exit.then (Code.rounds P c Q k) Q) hs fun φ' a' w' hle hs' => by
          have := hQ φ' a' w' hle hs'
          cases x with
          | n => exact absurd rfl hx
          | e id => exact this
          | r => exact this
        rw [rounds_succ]
        simpa using key
    | false =>
      simp only [Bool.false_eq_true, if_false]
      cases c with
      | skip =>
        simp only [ev, Option.some.injEq, Prod.mk.injEq] at h
        obtain ⟨_, rfl, rfl, rfl, rfl, _⟩ := h
        exact wp_skip (hQ φ a w φ.le_refl hs)
      | region id ops draw =>
        simp only [ev] at h
        split at h
        · rename_i obs' tm1 mem1 ds1 its hl
          cases draw with
          | false =>
            simp only [Option.some.injEq, Prod.mk.injEq] at h
            obtain ⟨rfl, rfl, rfl, rfl, rfl, _⟩ := h
            exact region_wp hT hF hl ho (fun e => by cases e) hs hQ
          | true =>
            simp only at h
            split at h
            · rename_i hc
              simp only [Option.some.injEq, Prod.mk.injEq] at h
              obtain ⟨rfl, rfl, rfl, rfl, rfl, _⟩ := h
              exact region_wp hT hF hl ho (fun _ => hc) hs hQ
            · cases h
        · cases h
      | seq c1 c2 =>
        simp only [ev] at h
        refine wp_seq ?_
        split at h
        · rename_i obs1 tm1 mem1 nx1 ds1 h1
          split at h
          · rename_i obs2 x2 r h2
            obtain ⟨tm2, mem2, nx2, ds2⟩ := r
            simp only [Option.some.injEq, Prod.mk.injEq] at h
            obtain ⟨rfl, rfl, rfl, rfl, rfl, rfl⟩ := h
            obtain ⟨o1, o2⟩ := Alls.append.1 ho
            have key := ih false c1 tm mem nx ds h1 o1 (Q := Exit.then (c2.wp P Q) Q) hs fun φ' a' w' hle hs' => by
              have := ih false c2 tm1 mem1 nx1 ds1 h2 o2 (Q := Q) hs' fun φ'' a'' w'' hle' hs'' => hQ φ'' a'' w'' (Phi.le_trans hle hle') hs''
              show Code.wp P c2 Q a' w'
              simpa using this
            simpa using key
          · cases h
        · rename_i hne
          have hx : x ≠ .n := fun e => by subst e; exact hne _ _ _ _ _ h
          have key := ih false c1 tm mem nx ds h ho (Q := Exit.then (c2.wp P Q) Q) hs fun φ' a' w' hle hs' => by
            have := hQ φ' a' w' hle hs'
            cases x with
            | n => exact absurd rfl hx
            | e id => exact this
            | r => exact this
          simpa using key
      | cond q c1 c2 =>
        simp only [ev] at h
        split at h
        · rename_i hq
          obtain ⟨lc, hlc, hb⟩ := Option.bind_eq_some_iff.1 hq
          have hv : a.eval q = .bool true := by
            have := lev_rel hs.tr hlc
            unfold lbool at hb
            split at hb
            · simp only [Option.some.injEq] at hb; subst hb; exact this
            · cases hb
          have := ih false c1 tm mem nx ds h ho (Q := Q) hs hQ
          exact wp_cond_true hv (by simpa using this)
        · rename_i hq
          obtain ⟨lc, hlc, hb⟩ := Option.bind_eq_some_iff.1 hq
          have hv : a.eval q = .bool false := by
            have := lev_rel hs.tr hlc
            unfold lbool at hb
            split at hb
            · simp only [Option.some.injEq] at hb; subst hb; exact this
            · cases hb
          have := ih false c2 tm mem nx ds h ho (Q := Q) hs hQ
          exact wp_cond_false hv (by simpa using this)
        · cases h
      | block id c1 =>
        simp only [ev] at h
        refine wp_block ?_
        split at h
        · rename_i obs1 id' r h1
          obtain ⟨tm2, mem2, nx2, ds2⟩ := r
          split at h
          · rename_i hb
            simp only [Option.some.injEq, Prod.mk.injEq] at h
            obtain ⟨rfl, rfl, rfl, rfl, rfl, rfl⟩ := h
            have hid : id' = id := Nat.eq_of_beq_eq_true hb
            have key := ih false c1 tm mem nx ds h1 ho (Q := Exit.inBlock id Q) hs fun φ' a' w' hle hs' => by
              have := hQ φ' a' w' hle hs'
              simpa [X.real, Exit.inBlock, hid] using this
            simpa using key
          · rename_i hb
            simp only [Option.some.injEq, Prod.mk.injEq] at h
            obtain ⟨rfl, rfl, rfl, rfl, rfl, rfl⟩ := h
            have hid : id' ≠ id := fun e => by subst e; simp at hb
            have key := ih false c1 tm mem nx ds h1 ho (Q := Exit.inBlock id Q) hs fun φ' a' w' hle hs' => by
              have := hQ φ' a' w' hle hs'
              simpa [X.real, Exit.inBlock, hid] using this
            simpa using key
        · rename_i hne
          have key := ih false c1 tm mem nx ds h ho (Q := Exit.inBlock id Q) hs fun φ' a' w' hle hs' => by
            have := hQ φ' a' w' hle hs'
            cases x with
            | n => exact this
            | e id' => exact absurd h (hne _ _ _)
            | r => exact this
          simpa using key
      | loop c1 =>
        simp only [ev] at h
        have := ih true c1 tm mem nx ds h ho (Q := Q) hs hQ
        simp only [if_true] at this
        exact wp_loop_rounds k this.2
      | exit id =>
        simp only [ev, Option.some.injEq, Prod.mk.injEq] at h
        obtain ⟨_, rfl, rfl, rfl, rfl, _⟩ := h
        exact wp_exit (hQ φ a w φ.le_refl hs)
      | ret =>
        simp only [ev, Option.some.injEq, Prod.mk.injEq] at h
        obtain ⟨_, rfl, rfl, rfl, rfl, _⟩ := h
        exact wp_ret (hQ φ a w φ.le_refl hs)
      | rangeFunc => simp [ev] at h
      | scope => simp [ev] at h
      | label => simp [ev] at h
      | goto => simp [ev] at h
      | refuse => simp [ev] at h

end

/-! A whole function whose arguments bear no address and whose result bears none. -/

def At.free' : At → Bool
  | .fn _ [] => true
  | x => x.free

def LV.free' : LV → Bool
  | .a x => x.free'
  | .g l => l.all At.free'
  | .t _ => false

theorem At.rel_free' {φ ψ : Phi} {x : At} {v : Value} (hf : x.free' = true) (h : x.rel φ v) : x.rel ψ v := by
  cases x <;> simp_all [At.rel, At.free', At.free]
  rename_i f caps
  obtain ⟨cs, rfl, k⟩ := h
  cases caps with
  | nil => cases hc : cs.toList with
    | nil => exact ⟨cs, rfl, by rw [hc]; exact .nil⟩
    | cons y r => rw [hc] at k; cases k
  | cons p r => simp at hf

theorem All2.free' {φ ψ : Phi} {l : List At} {m : List Value} (hf : l.all At.free' = true) (h : All2 (At.rel φ) l m) : All2 (At.rel ψ) l m := by
  induction h with
  | nil => exact .nil
  | cons r _ ih =>
    simp only [List.all_cons, Bool.and_eq_true] at hf
    exact .cons (At.rel_free' hf.1 r) (ih hf.2)

theorem LV.rel_free' {φ ψ : Phi} {x : LV} {v : Value} (hf : x.free' = true) (h : x.rel φ v) : x.rel ψ v := by
  cases x with
  | a x => exact At.rel_free' hf h
  | g l => obtain ⟨cs, rfl, k⟩ := h; exact ⟨cs, rfl, All2.free' hf k⟩
  | t l => simp [LV.free'] at hf

def LV.free2 : LV → Bool
  | .t l => l.all LV.free'
  | x => x.free'

theorem LV.rel1_of {φ : Phi} {x : LV} {v : Value} (h : x.free' = true) : x.rel1 φ v ↔ x.rel φ v := by
  cases x with
  | a x => exact Iff.rfl
  | g l => exact Iff.rfl
  | t l => simp [LV.free'] at h

theorem LV.rel_free2 {φ ψ : Phi} {x : LV} {v : Value} (hf : x.free2 = true) (h : x.rel φ v) : x.rel ψ v := by
  cases x with
  | a x => exact LV.rel_free' (x := .a x) hf h
  | g l => exact LV.rel_free' (x := .g l) hf h
  | t l =>
    obtain ⟨vs, rfl, k⟩ := h
    refine ⟨vs, rfl, ?_⟩
    simp only [LV.free2] at hf
    generalize vs.toList = m at k
    induction k with
    | nil => exact .nil
    | cons r _ ih =>
      simp only [List.all_cons, Bool.and_eq_true] at hf
      exact .cons ((LV.rel1_of hf.1).2 (LV.rel_free' hf.1 ((LV.rel1_of hf.1).1 r))) (ih hf.2)

def lres1 (P : Program) (σ : Sig) (μ : Loc) : ResultVar → Option LV
  | .tmp t => σ t
  | .cell c t => match σ c with
    | some (.a (.ptr b off)) => lload P μ t b off
    | _ => none

def lresAll (P : Program) (σ : Sig) (μ : Loc) : List ResultVar → Option (List LV)
  | [] => some []
  | x :: r => match lres1 P σ μ x, lresAll P σ μ r with
    | some v, some l => some (v :: l)
    | _, _ => none

def lres (P : Program) (σ : Sig) (μ : Loc) (l : List ResultVar) : Option LV :=
  match lresAll P σ μ l with
  | some [v] => some v
  | some vs => some (.t vs)
  | none => none

def args0 : List LV → Nat → List (Nat × LV)
  | [], _ => []
  | v :: r, i => (i, v) :: args0 r (i + 1)

def X.ends : X → Bool
  | .e _ => false
  | _ => true

/-- A whole call. -/
def evF (P : Program) (T : Tab) (k : Nat) (fn : Func) (c : Code) (ds : List D) (args : List LV) : Option (List Prop × LV) :=
  match args.all LV.free' && Nat.ble args.length fn.ntmps with
  | true => match ev P T fn.ntmps k false c (args0 args 0) [] 0 ds with
    | some (obs, x, tm, mem, _, _) => match x.ends with
      | true => match lres P (look tm) (look mem) fn.results.toList with
        | some v => match v.free2 with
          | true => some (obs, v)
          | false => none
        | none => none
      | false => none
    | none => none
  | false => none

section
variable {P : Program} {w0 : World} {may : Nat → Prop} {T : Tab}

def resOf (tmps : Array Value) : ResultVar → Sem Value
  | .tmp t => pure (tmps.getD t undef)
  | .cell a t => do loadVar t (← asAddr (tmps.getD a undef))

theorem lres1_run {φ : Phi} {σ : Sig} {μ : Loc} {fr : Nat → Prop} {w : World} {tmps : Array Value} (hσ : TRel φ σ tmps) (hM : MR w0 may φ μ fr w) {x : ResultVar} {v : LV} (h : lres1 P σ μ x = some v) :
    ∃ u, (resOf tmps x).run P w = .ok u w ∧ v.rel φ u := by
  cases x with
  | tmp t => exact ⟨_, rfl, hσ _ _ h⟩
  | cell c t =>
    simp only [lres1] at h
    split at h
    · rename_i b off hb
      obtain ⟨r, hr, hv⟩ := hσ _ _ hb
      obtain ⟨u, h1, h2⟩ := load_run (P := P) hM h hr
      exact ⟨u, by simp [resOf, hv, asAddr, h1], h2⟩
    · cases h

theorem lresAll_run {φ : Phi} {σ : Sig} {μ : Loc} {fr : Nat → Prop} {w : World} {tmps : Array Value} (hσ : TRel φ σ tmps) (hM : MR w0 may φ μ fr w) : ∀ {l : List ResultVar} {vs : List LV}, lresAll P σ μ l = some vs →
    ∃ us, (l.mapM (resOf tmps)).run P w = .ok us w ∧ All2 (LV.rel φ) vs us
  | [], vs, h => by simp only [lresAll, Option.some.injEq] at h; subst h; exact ⟨[], by simp, .nil⟩
  | x :: r, vs, h => by
    simp only [lresAll] at h
    split at h
    · rename_i v l hv hl
      simp only [Option.some.injEq] at h
      subst h
      obtain ⟨u, u1, u2⟩ := lres1_run (P := P) hσ hM hv
      obtain ⟨us, us1, us2⟩ := lresAll_run hσ hM hl
      refine ⟨u :: us, ?_, .cons u2 us2⟩
      rw [List.mapM_cons]
      simp only [Sem.run_bind, u1, us1, Result.andThen_ok]
      rfl
    · cases h

theorem lres_run {φ : Phi} {fn : Func} {σ : Sig} {μ : Loc} {fr : Nat → Prop} {w : World} {tmps : Array Value} (hσ : TRel φ σ tmps) (hM : MR w0 may φ μ fr w) {v : LV} (h : lres P σ μ fn.results.toList = some v) (hf : v.free2 = true) :
    ∃ u, (results fn tmps).run P w = .ok u w ∧ v.rel φ u := by
  unfold lres at h
  have go : ∀ {vs : List LV}, lresAll P σ μ fn.results.toList = some vs → ∃ us : List Value, (results fn tmps).run P w = .ok (if h : us.toArray.size = 1 then us.toArray[0] else .tuple us.toArray) w ∧ All2 (LV.rel φ) vs us := by
    intro vs hvs
    obtain ⟨us, u1, u2⟩ := lresAll_run (P := P) hσ hM hvs
    refine ⟨us, ?_, u2⟩
    have e : results fn tmps = (do
      let vs ← fn.results.mapM (resOf tmps)
      pure (if h : vs.size = 1 then vs[0] else .tuple vs)) := rfl
    rw [e, Array.mapM_eq_mapM_toList]
    simp only [Sem.run_bind]
    have : (List.toArray <$> (fn.results.toList.mapM (resOf tmps))).run P w = .ok us.toArray w := by
      rw [← bind_pure_comp, Sem.run_bind, u1]; rfl
    rw [this]
    rfl
  split at h
  · rename_i v' hv
    simp only [Option.some.injEq] at h
    subst h
    obtain ⟨us, u1, u2⟩ := go hv
    cases u2 with
    | cons a b => cases b; exact ⟨_, u1, by simpa using a⟩
  · rename_i vs hne hv
    simp only [Option.some.injEq] at h
    subst h
    obtain ⟨us, u1, u2⟩ := go hv
    have hl := u2.length
    have hn : us.toArray.size ≠ 1 := by
      intro e
      match vs, hl, hne with
      | [], hl, _ => simp at hl e; rw [← hl] at e; simp at e
      | [x], _, hne => exact hne x rfl
      | x :: y :: r, hl, _ => simp at hl e; omega
    rw [dif_neg hn] at u1
    refine ⟨_, u1, us.toArray, rfl, ?_⟩
    simp only [LV.free2] at hf
    clear hv u1 hn hl hne go
    induction u2 with
    | nil => exact .nil
    | cons a _ ih =>
      simp only [List.all_cons, Bool.and_eq_true] at hf
      exact .cons ((LV.rel1_of hf.1).2 a) (ih hf.2)
  · cases h

theorem args0_look : ∀ (args : List LV) (i t : Nat) (lv : LV), look (args0 args i) t = some lv → i ≤ t ∧ args[t - i]? = some lv
  | [], i, t, lv, h => by simp [args0, look] at h
  | v :: r, i, t, lv, h => by
    simp only [args0, look_cons] at h
    unfold upd at h
    split at h
    · simp only [Option.some.injEq] at h; subst h; subst_vars; simp
    · obtain ⟨h1, h2⟩ := args0_look r (i + 1) t lv h
      refine ⟨by omega, ?_⟩
      rw [show t - i = (t - (i + 1)) + 1 by omega]; simpa using h2

theorem evF_wp (hT : TOK P T) (hF : P.follows .mixedOrders = true) {k f : Nat} {fn : Func} {c : Code} {ds : List D} {args : List LV} {obs : List Prop} {lv : LV} (hf : P.funcs[f]? = some fn) (hb : fn.body = some c)
    (h : evF P T k fn c ds args = some (obs, lv)) (ho : Alls obs) (φ : Phi) (vs : Array Value) (w : World) (ha : All2 (LV.rel φ) args vs.toList) :
    Calls P f vs w fun e w' => ∃ v', e = .returned v' ∧ lv.rel (fun _ => none) v' ∧ Grows w w' := by
  unfold evF at h
  split at h
  · rename_i hg
    simp only [Bool.and_eq_true] at hg
    have hlen := ha.length
    have hle : args.length ≤ fn.ntmps := Nat.le_of_ble_eq_true hg.2
    have hsz : vs.size = args.length := by simpa using hlen.symm
    split at h
    · rename_i obs' x tm mem nx ds' he
      split at h
      · rename_i hx
        split at h
        · rename_i v hv
          split at h
          · rename_i hfree
            simp only [Option.some.injEq, Prod.mk.injEq] at h
            obtain ⟨rfl, rfl⟩ := h
            refine calls_of_wp hf hb ?_
            have s0 : SR fn.ntmps w (fun _ => False) (fun _ => none) (args0 args 0) [] 0 { tmps := vs ++ Array.replicate (fn.ntmps - vs.size) undef, defers := [] } w := by
              refine ⟨?_, by simp; omega, rfl, ?_⟩
              · intro t lv' hl
                obtain ⟨_, h2⟩ := args0_look args 0 t lv' hl
                simp only [Nat.sub_zero] at h2
                obtain ⟨u, hu, hr⟩ := ha.get h2
                have hfr : lv'.free' = true := List.all_eq_true.1 hg.1 lv' (List.mem_of_getElem? h2)
                have hu' : vs[t]? = some u := by simpa using hu
                have ht : t < vs.size := (Array.getElem?_eq_some_iff.1 hu').1
                rw [Array.getD_eq_getD_getElem?, Array.getElem?_append_left ht, hu']
                exact LV.rel_free' hfr hr
              · exact ⟨fun b l hh => (by cases hh), fun b b' r hh => (by cases hh), fun b r hh => (by cases hh), fun b _ => rfl, fun b r hh => (by cases hh), rfl, rfl, rfl, Nat.le_refl _, fun _ _ _ => rfl, fun _ => rfl⟩
            have key := ev_wp hT hF k false c _ _ _ _ he ho (Q := bodyPost P fn fun e w' => ∃ v', e = .returned v' ∧ v.rel (fun _ => none) v' ∧ Grows w w') s0 fun φ' a' w' _ hs => by
              obtain ⟨u, u1, u2⟩ := lres_run (P := P) (fn := fn) hs.tr hs.mr hv hfree
              have hp : a'.defers = [] ∧ ∃ v', (results fn a'.tmps).run P w' = .ok v' w' ∧ ∃ v'', Ending.returned v' = .returned v'' ∧ v.rel (fun _ => none) v'' ∧ Grows w w' :=
                ⟨hs.df, u, u1, u, rfl, LV.rel_free2 hfree u2, ⟨hs.mr.os, hs.mr.tape, hs.mr.output, hs.mr.size, fun k hk => hs.mr.block k hk id⟩, hs.mr.frz⟩
              cases x with
              | n => exact hp
              | r => exact hp
              | e id => simp [X.ends] at hx
            simpa using key
          · cases h
        · cases h
      · cases h
    · cases h
  · cases h

end

/-- A call by the function's number. -/
def evG (P : Program) (T : Tab) (k f : Nat) (ds : List D) (args : List LV) : Option (List Prop × LV) :=
  match P.funcs[f]? with
  | some fn => match fn.body with
    | some c => evF P T k fn c ds args
    | none => none
  | none => none

theorem evG_wp {P : Program} {T : Tab} (hT : TOK P T) (hF : P.follows .mixedOrders = true) {k f : Nat} {ds : List D} {args : List LV} {obs : List Prop} {lv : LV}
    (h : evG P T k f ds args = some (obs, lv)) (ho : Alls obs) (φ : Phi) (vs : Array Value) (w : World) (ha : All2 (LV.rel φ) args vs.toList) :
    Calls P f vs w fun e w' => ∃ v', e = .returned v' ∧ lv.rel (fun _ => none) v' ∧ Grows w w' := by
  unfold evG at h
  split at h
  · rename_i fn hf
    split at h
    · rename_i c hb
      exact evF_wp hT hF hf hb h ho φ vs w ha
    · cases h
  · cases h

end Go.Proofs.Ythgjacfikicgnaa.K
