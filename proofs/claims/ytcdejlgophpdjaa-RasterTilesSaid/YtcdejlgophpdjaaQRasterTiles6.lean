/-
  From a contract of a law to the row's step, for laws whose arguments are numbers, bools, strings, and structs and arrays of these.
-/
import Derived.ProofKit
import Derived.OpenShut
import Derived.Test.YtcdejlgophpdjaaQRasterTiles5
section
namespace Go.Proofs.Ytcdejlgophpdjaa.V
open Go Go.RowKit Go.ChangeShapes Go.WideShapes Go.ChangeAt

def plainT (P : Program) : Nat → TypeId → Bool
  | 0, _ => false
  | d + 1, t => match P.underlying t with
    | some .bool | some (.int _) | some .string => true
    | some (.struct fs) => fs.toList.all fun f => plainT P d f.type
    | some (.array _ e) => plainT P d e
    | _ => false

theorem mapM_plain {α β : Type} {f g : α → Option (β × List MemPlace)} : ∀ {l : List α} {xs : List (β × List MemPlace)}, (∀ a ∈ l, ∀ x, f a = some x → g a = some x ∧ x.2 = []) → l.mapM f = some xs → l.mapM g = some xs ∧ xs.flatMap (·.2) = []
  | [], xs, _, h => by simp at h; subst h; exact ⟨by simp, rfl⟩
  | a :: l, xs, hh, h => by
    rw [List.mapM_cons] at h
    simp only [bind, Option.bind_eq_some_iff, pure, Option.some.injEq] at h
    obtain ⟨x, hx, xs', hxs, rfl⟩ := h
    obtain ⟨h1, h2⟩ := hh a (by simp) x hx
    obtain ⟨h3, h4⟩ := mapM_plain (l := l) (fun b hb => hh b (by simp [hb])) hxs
    refine ⟨?_, by simp [h2, h4]⟩
    rw [List.mapM_cons, h1]
    simp [h3]

section
variable {H : Type} {enc : TypeId × Value → H} {P : Program}

theorem trod_plain {w w' : World} {base base' : Nat} {sp sp' : Nat → Bool} {hd hd' : Bool} : ∀ (fuel d : Nat) (t : TypeId) (cs : List Value) (x : DataW H × List MemPlace), plainT P d t = true → DataW.trod enc P w base sp hd fuel t cs = some x →
    DataW.trod enc P w' base' sp' hd' fuel t cs = some x ∧ x.2 = []
  | 0, d, t, cs, x, _, h => by simp [DataW.trod] at h
  | fuel + 1, 0, t, cs, x, hp, h => by simp [plainT] at hp
  | fuel + 1, d + 1, t, cs, x, hp, h => by
    unfold plainT at hp
    unfold DataW.trod at h ⊢
    split at hp
    · rename_i hu
      simp only [hu] at h ⊢
      split at h <;> simp_all
      subst h; rfl
    · rename_i k hu
      simp only [hu] at h ⊢
      split at h <;> simp_all
      obtain ⟨_, rfl⟩ := h; rfl
    · rename_i hu
      simp only [hu] at h ⊢
      split at h <;> simp_all
      obtain ⟨_, rfl⟩ := h; rfl
    · rename_i fs hu
      simp only [hu] at h ⊢
      split at h
      · rename_i hl
        rw [if_pos hl]
        simp only [Option.map_eq_some_iff] at h ⊢
        obtain ⟨xs, hxs, rfl⟩ := h
        have := mapM_plain (fun f hf y hy => trod_plain fuel d f.type _ y (List.all_eq_true.1 hp f hf) hy) hxs (g := fun f => DataW.trod enc P w' base' sp' hd' fuel f.type ((cs.drop f.offset).take (P.cellsOf f.type)))
        exact ⟨⟨xs, this.1, rfl⟩, this.2⟩
      · cases h
    · rename_i n e hu
      simp only [hu] at h ⊢
      split at h
      · rename_i hl
        rw [if_pos hl]
        simp only [Option.map_eq_some_iff] at h ⊢
        obtain ⟨xs, hxs, rfl⟩ := h
        have := mapM_plain (fun i _ y hy => trod_plain fuel d e _ y hp hy) hxs (g := fun i => DataW.trod enc P w' base' sp' hd' fuel e ((cs.drop (i * P.cellsOf e)).take (P.cellsOf e)))
        exact ⟨⟨xs, this.1, rfl⟩, this.2⟩
      · cases h
    · cases hp

theorem trodAll_plain {w w' : World} {base base' : Nat} {sp sp' : Nat → Bool} {hd hd' : Bool} {D : Nat} : ∀ {ts : List TypeId} {vs : List Value} {ds : List (DataW H)} {ps : List MemPlace}, (ts.all fun t => plainT P D t) = true → DataW.TrodAll enc P w base sp hd ts vs ds ps →
    ps = [] ∧ ds.length = ts.length ∧ vs.length = ts.length ∧ DataW.TrodAll enc P w' base' sp' hd' ts vs ds []
  | [], [], [], ps, _, h => ⟨h, rfl, rfl, rfl⟩
  | [], [], _ :: _, ps, _, h => h.elim
  | [], _ :: _, _, ps, _, h => h.elim
  | t :: ts, [], _, ps, _, h => h.elim
  | t :: ts, v :: vs, [], ps, _, h => h.elim
  | t :: ts, v :: vs, d :: ds, ps, hp, h => by
    obtain ⟨p, q, ⟨fuel, h1⟩, h2, rfl⟩ := h
    simp only [List.all_cons, Bool.and_eq_true] at hp
    obtain ⟨k1, k2⟩ := trod_plain fuel D t _ _ hp.1 h1 (w' := w') (base' := base') (sp' := sp') (hd' := hd')
    obtain ⟨k3, k4, k5, k6⟩ := trodAll_plain hp.2 h2 (w' := w') (base' := base') (sp' := sp') (hd' := hd')
    simp only at k2
    subst k2 k3
    exact ⟨rfl, by simp [k4], by simp [k5], [], [], ⟨fuel, k1⟩, k6, rfl⟩

end

/-! What the arguments are: every number within its kind. -/
inductive Kn where
  | int (k : IntKind) | bool | str

def knOf : TypeDesc → Option Kn
  | .int k => some (.int k)
  | .bool => some .bool
  | .string => some .str
  | _ => none

def FitAt : Kn → At → Prop
  | .int k, x => ∃ n, x = .int true k n ∧ k.min ≤ n ∧ n ≤ k.max
  | .bool, x => ∃ b, x = .bool true b
  | .str, x => ∃ s, x = .str true s ∧ (s.size : Int) ≤ IntKind.i64.max

/-- For all cells of these kinds. -/
def AllFit : List Kn → (List At → Prop) → Prop
  | [], Q => Q []
  | .int k :: ks, Q => ∀ n : Int, k.min ≤ n → n ≤ k.max → AllFit ks fun l => Q (.int true k n :: l)
  | .bool :: ks, Q => ∀ b : Bool, AllFit ks fun l => Q (.bool true b :: l)
  | .str :: ks, Q => ∀ s : ByteArray, (s.size : Int) ≤ IntKind.i64.max → AllFit ks fun l => Q (.str true s :: l)

theorem AllFit.use : ∀ {ks : List Kn} {Q : List At → Prop}, AllFit ks Q → ∀ {l : List At}, All2 FitAt ks l → Q l
  | [], Q, h, l, hl => by cases hl; exact h
  | .int k :: ks, Q, h, l, hl => by
    cases hl with
    | cons a b => obtain ⟨n, rfl, h1, h2⟩ := a; exact (h n h1 h2).use b
  | .bool :: ks, Q, h, l, hl => by
    cases hl with
    | cons a b => obtain ⟨n, rfl⟩ := a; exact (h n).use b
  | .str :: ks, Q, h, l, hl => by
    cases hl with
    | cons a b => obtain ⟨n, rfl, h1⟩ := a; exact (h n h1).use b

/-- For all arguments of these shapes. -/
def AllArgs : List (Bool × List Kn) → (List LV → Prop) → Prop
  | [], Q => Q []
  | (true, ks) :: r, Q => AllFit ks fun l => AllArgs r fun ags => Q (.g l :: ags)
  | (false, ks) :: r, Q => AllFit ks fun l => match l with
    | [x] => AllArgs r fun ags => Q (.a x :: ags)
    | _ => True

def knAll (P : Program) : List TypeId → Option (List Kn)
  | [] => some []
  | t :: ts => match (P.underlying t).bind knOf, knAll P ts with
    | some k, some ks => some (k :: ks)
    | _, _ => none

/-- The shape of a parameter. -/
def argShape (P : Program) (t : TypeId) : Option (Bool × List Kn) :=
  match P.underlying t with
  | some (.struct _) | some (.array _ _) => match P.cellTypes P.depth t with
    | some ts => match knAll P ts with
      | some ks => match Nat.beq (P.cellsOf t) (P.cellsOf t / ts.length * ts.length) with
        | true => some (true, (List.replicate (P.cellsOf t / ts.length) ks).flatten)
        | false => none
      | none => none
    | none => none
  | some d => match knOf d with
    | some k => some (false, [k])
    | none => none
  | none => none

def argShapes (P : Program) : List TypeId → Option (List (Bool × List Kn))
  | [] => some []
  | t :: ts => match argShape P t, argShapes P ts with
    | some s, some ss => some (s :: ss)
    | _, _ => none

section
variable {P : Program}

theorem cell_fit {W : World} {r : Reach} {base : Nat} {t : TypeId} {k : Kn} {v : Value} (hk : (P.underlying t).bind knOf = some k) (h : Cell.okWide P W r base t v) : ∃ x : At, FitAt k x ∧ x.rel (fun _ => none) v := by
  obtain ⟨d, hu, hd⟩ := Option.bind_eq_some_iff.1 hk
  unfold Cell.okWide at h
  cases d <;> simp only [knOf, Option.some.injEq, reduceCtorEq] at hd <;> subst hd
  · simp only [hu] at h
    unfold Cell.ok at h
    simp only [hu] at h
    split at h <;> simp_all
    rename_i b
    exact ⟨.bool true b, ⟨b, rfl⟩, rfl⟩
  · rename_i k
    simp only [hu] at h
    unfold Cell.ok at h
    simp only [hu] at h
    cases v <;> simp only at h
    rename_i k' n
    obtain ⟨hk', hn⟩ := h
    subst hk'
    have hn' : k'.min ≤ n ∧ n ≤ k'.max := by simpa [IntKind.has] using hn
    exact ⟨.int true k' n, ⟨n, rfl, hn'.1, hn'.2⟩, rfl⟩
  · simp only [hu] at h
    unfold Cell.ok at h
    simp only [hu] at h
    split at h <;> simp_all
    rename_i s
    exact ⟨.str true s, ⟨s, rfl, h⟩, rfl⟩

theorem knAll_get : ∀ {ts : List TypeId} {ks : List Kn}, knAll P ts = some ks → ks.length = ts.length ∧ ∀ (i : Nat) (t : TypeId), ts[i]? = some t → ∃ k, ks[i]? = some k ∧ (P.underlying t).bind knOf = some k
  | [], ks, h => by simp only [knAll, Option.some.injEq] at h; subst h; exact ⟨rfl, fun i t h => by simp at h⟩
  | t :: ts, ks, h => by
    unfold knAll at h
    split at h
    · rename_i k ks' h1 h2
      simp only [Option.some.injEq] at h; subst h
      obtain ⟨l1, l2⟩ := knAll_get h2
      refine ⟨by simp [l1], fun i u hi => ?_⟩
      cases i with
      | zero => simp at hi; subst hi; exact ⟨k, by simp, h1⟩
      | succ i => obtain ⟨k', a, b⟩ := l2 i u (by simpa using hi); exact ⟨k', by simpa using a, b⟩
    · cases h

theorem all2_of_get {α β : Type} {R : α → β → Prop} : ∀ {l : List α} {m : List β}, l.length = m.length → (∀ (i : Nat) (x : α) (y : β), l[i]? = some x → m[i]? = some y → R x y) → All2 R l m
  | [], [], _, _ => .nil
  | [], _ :: _, h, _ => by simp at h
  | _ :: _, [], h, _ => by simp at h
  | x :: l, y :: m, h, hh => .cons (hh 0 x y (by simp) (by simp)) (all2_of_get (by simpa using h) fun i a b h1 h2 => hh (i + 1) a b (by simpa using h1) (by simpa using h2))

theorem all2_split {α β γ : Type} {R : α → β → Prop} {S : β → γ → Prop} {l : List α} {m : List γ} (h : All2 (fun a c => ∃ b, R a b ∧ S b c) l m) : ∃ k : List β, All2 R l k ∧ All2 S k m := by
  induction h with
  | nil => exact ⟨[], .nil, .nil⟩
  | cons a _ ih => obtain ⟨b, h1, h2⟩ := a; obtain ⟨k, k1, k2⟩ := ih; exact ⟨b :: k, .cons h1 k1, .cons h2 k2⟩

theorem flat_get {α : Type} (ks : List α) : ∀ (n i : Nat), i < n * ks.length → ((List.replicate n ks).flatten)[i]? = ks[i % ks.length]?
  | 0, i, h => by simp at h
  | n + 1, i, h => by
    rw [List.replicate_succ, List.flatten_cons, List.getElem?_append]
    have hpos : 0 < ks.length := by
      rcases Nat.eq_zero_or_pos ks.length with h0 | h0
      · rw [h0] at h; simp at h
      · exact h0
    by_cases hi : i < ks.length
    · rw [if_pos hi, Nat.mod_eq_of_lt hi]
    · rw [if_neg hi, flat_get ks n (i - ks.length) (by rw [Nat.succ_mul] at h; omega)]
      congr 1
      conv => rhs; rw [← Nat.sub_add_cancel (Nat.le_of_not_lt hi)]
      simp

theorem arg_open {W : World} {r : Reach} {base : Nat} {t : TypeId} {v : Value} {q : Bool} {ks : List Kn} (hs : argShape P t = some (q, ks)) (h : Value.okWide P W r base t v) :
    ∃ l : List At, All2 FitAt ks l ∧ (match q with
      | true => (LV.g l).rel (fun _ => none) v
      | false => ∃ x, l = [x] ∧ (LV.a x).rel (fun _ => none) v) := by
  have agg : ∀ cs : Array Value, v = .agg cs → cs.size = P.cellsOf t → Row.okWide P W r base t cs → (match P.cellTypes P.depth t with
    | some ts => match knAll P ts with
      | some ks => match Nat.beq (P.cellsOf t) (P.cellsOf t / ts.length * ts.length) with
        | true => some (true, (List.replicate (P.cellsOf t / ts.length) ks).flatten)
        | false => none
      | none => none
    | none => none) = some (q, ks) → ∃ l : List At, All2 FitAt ks l ∧ (match q with
      | true => (LV.g l).rel (fun _ => none) v
      | false => ∃ x, l = [x] ∧ (LV.a x).rel (fun _ => none) v) := by
    intro cs hv hsz hrow hm
    obtain ⟨ts, hts, ⟨n, hn⟩, hall⟩ := hrow
    simp only [hts] at hm
    split at hm
    · rename_i ks' hks
      split at hm
      · rename_i hb
        simp only [Option.some.injEq, Prod.mk.injEq] at hm
        obtain ⟨rfl, rfl⟩ := hm
        obtain ⟨l1, l2⟩ := knAll_get hks
        have hb' := Nat.eq_of_beq_eq_true hb
        have hlen : ((List.replicate (P.cellsOf t / ts.length) ks').flatten).length = cs.toList.length := by
          simp [l1, hsz]; exact hb'.symm
        have key : All2 (fun k c => ∃ x, FitAt k x ∧ At.rel (fun _ => none) x c) ((List.replicate (P.cellsOf t / ts.length) ks').flatten) cs.toList := by
          refine all2_of_get hlen fun i k c hi hc => ?_
          have hc' : cs[i]? = some c := by simpa using hc
          obtain ⟨u, hu, hcell⟩ := hall i c hc'
          obtain ⟨k', hk', hkn⟩ := l2 _ u hu
          have hil : i < P.cellsOf t := by rw [← hsz]; exact (Array.getElem?_eq_some_iff.1 hc').1
          rw [flat_get ks' _ i (by rw [l1]; omega), l1] at hi
          rw [hk'] at hi
          simp only [Option.some.injEq] at hi
          subst hi
          exact cell_fit hkn hcell
        obtain ⟨l, k1, k2⟩ := all2_split key
        exact ⟨l, k1, cs, hv, k2⟩
      · cases hm
    · cases hm
  unfold argShape at hs
  unfold Value.okWide at h
  split at hs
  · rename_i hu; simp only [hu] at h; obtain ⟨cs, h1, h2, h3⟩ := h; exact agg cs h1 h2 h3 hs
  · rename_i hu; simp only [hu] at h; obtain ⟨cs, h1, h2, h3⟩ := h; exact agg cs h1 h2 h3 hs
  · rename_i d hne1 hne2 hu
    simp only [hu] at h
    have h' : Cell.okWide P W r base t v := by
      cases d <;> first | exact h | exact absurd rfl (hne1 _) | exact absurd rfl (hne2 _ _)
    split at hs
    · rename_i k hk
      simp only [Option.some.injEq, Prod.mk.injEq] at hs
      obtain ⟨rfl, rfl⟩ := hs
      obtain ⟨x, x1, x2⟩ := cell_fit (P := P) (k := k) (by rw [hu]; exact hk) h'
      exact ⟨[x], .cons x1 .nil, x, rfl, x2⟩
    · cases hs
  · cases hs

theorem args_open {W : World} {r : Reach} {base : Nat} : ∀ {ts : List TypeId} {vs : List Value} {ss : List (Bool × List Kn)} {Q : List LV → Prop}, argShapes P ts = some ss → vs.length = ts.length → (∀ (j : Nat) t v, ts[j]? = some t → vs[j]? = some v → Value.okWide P W r base t v) →
    AllArgs ss Q → ∃ ags, All2 (LV.rel (fun _ => none)) ags vs ∧ Q ags
  | [], vs, ss, Q, hs, hl, _, h => by
    simp only [argShapes, Option.some.injEq] at hs; subst hs
    cases vs with
    | nil => exact ⟨[], .nil, h⟩
    | cons _ _ => simp at hl
  | t :: ts, vs, ss, Q, hs, hl, hall, h => by
    cases vs with
    | nil => simp at hl
    | cons v vs =>
      unfold argShapes at hs
      split at hs
      · rename_i s ss' h1 h2
        simp only [Option.some.injEq] at hs; subst hs
        obtain ⟨q, ks⟩ := s
        obtain ⟨l, l1, l2⟩ := arg_open h1 (hall 0 t v (by simp) (by simp))
        have rest := fun {Q'} hq => args_open (Q := Q') h2 (by simpa using hl) (fun j u x hj hx => hall (j + 1) u x (by simpa using hj) (by simpa using hx)) hq
        cases q with
        | true =>
          obtain ⟨ags, a1, a2⟩ := rest (AllFit.use h l1)
          exact ⟨.g l :: ags, .cons l2 a1, a2⟩
        | false =>
          obtain ⟨x, rfl, hx⟩ := l2
          obtain ⟨ags, a1, a2⟩ := rest (AllFit.use h l1)
          exact ⟨.a x :: ags, .cons hx a1, a2⟩
      · cases hs

end

/-- Nothing that was there has turned. -/
structure Grows (w w' : World) : Prop where
  below : Below w.heap.size w w'
  frz : ∀ a, w'.frozen? a = w.frozen? a

/-- The row's step for a law: whatever the arguments, it returns true. -/
theorem law_lifted {C : Checked} {os : Os} (started : os.Started) {H : Type} (enc : TypeId × Value → H) {f : Nat} {fn : Func} {s : ChangeSpec} {ss : List (Bool × List Kn)} {tb : TypeId}
    (own : ownKnob C.prog.godebug = none) (hi : C.prog.inits.idxOf? f = none) (hf : C.prog.funcs[f]? = some fn) (hv : s.vars = [])
    (hfn : ∀ ds : List (DataW H), ds.length = fn.params.toList.length → s.fn H (ds ++ []) = { results := [.lit (.bool true)], args := ds })
    (hp : (fn.params.toList.all fun t => plainT C.prog 20 t) = true) (hs : argShapes C.prog fn.params.toList = some ss) (hr : fn.resultTypes = #[tb]) (htb : C.prog.underlying tb = some .bool)
    (wit : ∃ (w : World) (tape : Tape) (i : Input), w.os = os ∧ World.Shaped C.prog (w.forCall tape i) ∧ i.vars = [] ∧ Input.okWide C.prog (w.forCall tape i) Reach.any w.heap.size f i ∧
      ChangeSpec.pre6 enc C.prog fn s [] false (w.forCall tape i).memory i.args ∧ Assume.holds {} C.prog (lone (Frame.enter C.prog f i.args CallKind.normal) [] (w.forCall tape i)))
    (core : AllArgs ss fun ags => ∀ (vs : Array Value) (w : World), All2 (LV.rel (fun _ => none)) ags vs.toList → Calls C.prog f vs w fun e w' => e = .returned (.bool true) ∧ Grows w w') :
    ReturnsInHanded {} C os f .any (s.pre6 enc C.prog fn [] false) (s.post enc C.prog fn false true false false) := by
  refine returnsInHanded_of_change own started hi hf wit ?_
  intro W base args ds gs before hval hW hcnd _
  have hW' := hW
  obtain ⟨p, q, hA, hV, rfl, hfz, hnd⟩ := hW
  rw [hv] at hV
  obtain ⟨rfl, rfl⟩ := trodVars_none hV
  have hA' := trodAll_plain hp hA (w' := W) (base' := 0) (sp' := fun _ => true) (hd' := true)
  obtain ⟨rfl, hdl, hvl, _⟩ := hA'
  obtain ⟨ags, a1, a2⟩ := args_open hs hvl (fun j t v h1 h2 => hval j t v (by simpa using h1) (by simpa using h2)) core
  refine (a2 args W a1).mono fun e W' ⟨he, hg⟩ => ?_
  subst he
  have e1 := hfn ds hdl
  refine ⟨_, rfl, post_of_same (pa := []) (pv := []) hW' ?_ ?_ ?_ rfl (hg.below.frame _) hg.frz ?_⟩
  · intro b sp hd
    rw [e1, hr]
    exact trodAll_cons_mk (shut_bool htb _) trodAll_mk0
  · intro sp _
    rw [e1]
    exact (trodAll_plain hp hA (w' := W') (base' := 0) (sp' := sp) (hd' := true)).2.2.2
  · intro sp _
    rw [hv, e1]
    exact rfl
  · exact ok_one hr rfl (okWide_bool_mk htb _)

theorem law_core {P : Program} {f : Nat} {c : Con} (hc : ConOK P f c) {args : List LV} {obs : List Prop} {m b : Bool} (he : c args [] = some (obs, .a (.bool m b), [])) (ho : Alls obs) (hb : b = true) (vs : Array Value) (w : World)
    (h : All2 (LV.rel (fun _ => none)) args vs.toList) : Calls P f vs w fun e w' => e = .returned (.bool true) ∧ Grows w w' := by
  refine (hc _ _ _ _ _ he ho (fun _ => none) vs w (fun _ => False) h ⟨fun k x hh => ?_, fun b g hh => ?_, fun k x g hh => ?_, fun b b' i i' r o o' hh => ?_, fun b i r o hh => ?_, fun b i r o hh => ?_, fun b _ => rfl, fun b i r o hh => ?_, rfl, rfl, rfl, Nat.le_refl _, fun _ _ _ => rfl, fun _ => rfl⟩).mono fun e w' hh => ?_
  · simp [memOf] at hh
  · simp [hdsIn] at hh
  · simp [memOf] at hh
  · cases hh
  · cases hh
  · cases hh
  · cases hh
  · obtain ⟨v', φ', rfl, _, hv, hm⟩ := hh
    have hv' : v' = .bool b := hv
    exact ⟨by rw [hv', hb], ⟨hm.os, hm.tape, hm.output, hm.size, fun k hk => hm.block k hk id⟩, hm.frz⟩

theorem min_i64 : IntKind.min .i64 = -9223372036854775808 := by decide
theorem max_i64 : IntKind.max .i64 = 9223372036854775807 := by decide
theorem min_i32 : IntKind.min .i32 = -2147483648 := by decide
theorem max_i32 : IntKind.max .i32 = 2147483647 := by decide
theorem min_i16 : IntKind.min .i16 = -32768 := by decide
theorem max_i16 : IntKind.max .i16 = 32767 := by decide
theorem min_i8 : IntKind.min .i8 = -128 := by decide
theorem max_i8 : IntKind.max .i8 = 127 := by decide
theorem min_u8 : IntKind.min .u8 = 0 := by decide
theorem max_u8 : IntKind.max .u8 = 255 := by decide

end Go.Proofs.Ytcdejlgophpdjaa.V
end

