/-
  A region whose order is open (third part): whatever order the tape picks, it ends as in the text's order.
-/
import Derived.Test.YthgjacfikicgnaaKh
namespace Go.Proofs.Ythgjacfikicgnaa.K
open Go Go.RowKit

def setOf (listed : Array Bool) (i : Nat) : Bool := listed.getD i false

theorem apartN_spec {d : Nat} {l : List Nat} (h : apartN (some d) l = true) : d ∉ l := by
  intro hm
  simp [apartN, memN_iff.2 hm] at h

theorem apartO_spec {d e : Nat} (h : apartO (some d) (some e) = true) : d ≠ e := by
  intro he
  subst he
  simp [apartO] at h

theorem usT_len : ∀ (ops : List Oper) (its : List (Item × D × List Nat)), (usT ops its).length ≤ ops.length
  | [], _ => by simp [usT]
  | _ :: _, [] => by simp [usT]
  | _ :: r, _ :: its => by simp only [usT, List.length_cons]; exact Nat.succ_le_succ (usT_len r its)

section
variable {P : Program} {w0 : World} {may : Nat → Prop} {T : Tab}

theorem ready_of {ops : List Oper} {listed : Array Bool} {i : Nat} (h : i ∈ Region.ready .any ops.toArray listed) : i < ops.length ∧ listed.getD i true = false ∧ ∃ o, ops[i]? = some o ∧ ∀ k ∈ direct o, setOf listed k = true := by
  unfold Region.ready at h
  rw [List.mem_filter] at h
  obtain ⟨h1, h2⟩ := h
  have hi : i < ops.length := by simpa using h1
  refine ⟨hi, ?_, ?_⟩
  · simp only [Bool.and_eq_true, Bool.not_eq_true'] at h2; exact h2.1
  · simp only [Bool.and_eq_true] at h2
    have ho : ops[i]? = some ops[i] := by simp [hi]
    refine ⟨ops[i], ho, fun k hk => ?_⟩
    have h3 := h2.2
    simp [hi] at h3
    obtain ⟨e, he, rfl⟩ := List.mem_map.1 hk
    rw [List.mem_filter] at he
    have he1 : e ∈ ops[i].after := by simpa using he.1
    obtain ⟨q, hq, rfl⟩ := Array.mem_iff_getElem.1 he1
    have := h3 q hq
    rw [he.2] at this
    simpa [setOf, Array.getD_eq_getD_getElem?] using this

theorem drawn_mr {φ : Phi} {μ : Loc} {fr : Nat → Prop} {w : World} (h : MR w0 may φ μ fr w) (n : Nat) : MR w0 may φ μ fr { w with drawn := n } :=
  ⟨h.mem, h.inj, h.own, h.dom, h.big, h.os, h.tape, h.output, h.size, h.block, h.frz⟩

def unlisted (listed : Array Bool) : Nat := listed.toList.countP (· == false)

theorem any_wp (hT : TOK P T) {n : Nat} {ops : List Oper} {id : Nat} {tm : List (Nat × LV)} {mem : List (Nat × List At)} {ds : List D} {obs : List Prop}
    {tm' : List (Nat × LV)} {mem' : List (Nat × List At)} {ds' : List D} {its : List (Item × D × List Nat)} (h : levOps P T n ops.toArray ops id tm mem ds = some (obs, tm', mem', ds', its)) (ho : Alls obs) (hc : drawOK ops its = true)
    {Q : Exit → Act → World → Prop} : ∀ (fuel : Nat) (listed : Array Bool), listed.size = ops.length → unlisted listed ≤ fuel → Down ops (setOf listed) → ∀ {φ : Phi} {a : Act} {w : World},
    TRel φ (foldS (setOf listed) 0 (usT ops its) (look tm)) a.tmps → a.tmps.size = n → a.defers = [] →
    MR w0 may φ (foldS (setOf listed) 0 (usM its) (look mem)) (fun b => id ≤ b ∧ ∀ j, setOf listed j = true → b ≠ id + j) w →
    (∀ φ' a' w', φ.le φ' → TRel φ' (look tm') a'.tmps → a'.tmps.size = n → a'.defers = [] → MR w0 may φ' (look mem') (fun b => id + ops.length ≤ b) w' → Q .normal a' w') →
    wpAny P .any ops.toArray Q fuel listed a w := by
  obtain ⟨t1, t2, t3, t4⟩ := levOps_trace (n := n) ops id tm mem ds h ho
  unfold drawOK at hc
  simp only [Bool.and_eq_true] at hc
  have hord := fun {i : Nat} {o : Oper} => ordOK_spec hc.1 (i := i) (o := o)
  have hchk := chk_spec hc.2
  have haux : ∀ S, Down ops S → ∀ i m, (masks ops [])[i]? = some m → S i = true → ∀ k, Nat.testBit m k = true → S k = true := fun S hS =>
    masks_down hS ops [] rfl (fun i m hi => by simp at hi)
  -- two operations, the lower one not there, the higher one there: they don't meet
  have meet : ∀ S, Down ops S → ∀ i j yi yj, i < j → (infos ops.toArray ops its)[i]? = some yi → (infos ops.toArray ops its)[j]? = some yj → S i = false → S j = true → indep yi yj = true := by
    intro S hS i j yi yj hij hi hj hSi hSj
    obtain ⟨m, m1, _, m3⟩ := hchk j yj hj
    rcases m3 i yi hij hi with hb | hb
    · rw [Nat.zero_add] at hb
      have := haux S hS j m m1 hSj i hb
      rw [hSi] at this; cases this
    · exact hb
  have atEnd : ∀ (listed : Array Bool) {φ : Phi} {a : Act} {w : World}, listed.size = ops.length → (∀ i, i < ops.length → setOf listed i = true) → TRel φ (foldS (setOf listed) 0 (usT ops its) (look tm)) a.tmps → a.tmps.size = n → a.defers = [] →
      MR w0 may φ (foldS (setOf listed) 0 (usM its) (look mem)) (fun b => id ≤ b ∧ ∀ j, setOf listed j = true → b ≠ id + j) w →
      (∀ φ' a' w', φ.le φ' → TRel φ' (look tm') a'.tmps → a'.tmps.size = n → a'.defers = [] → MR w0 may φ' (look mem') (fun b => id + ops.length ≤ b) w' → Q .normal a' w') → Q .normal a w := by
    intro listed φ a w hs hall g1 g2 g3 g4 hQ
    have lenT : (usT ops its).length ≤ ops.length := usT_len ops its
    refine hQ φ a w φ.le_refl ?_ g2 g3 ?_
    · rw [t3, ← foldS_all (setOf listed) (usT ops its) 0 (look tm) (fun j hj => by rw [Nat.zero_add]; exact hall j (by omega))]; exact g1
    · rw [t4, ← foldS_all (setOf listed) (usM its) 0 (look mem) (fun j hj => by rw [Nat.zero_add]; exact hall j (by simp [usM] at hj; omega))]
      refine g4.drop fun b hb => ⟨by omega, fun j hj => ?_⟩
      have : j < listed.size := by
        unfold setOf at hj
        rw [Array.getD_eq_getD_getElem?] at hj
        cases hx : listed[j]? with
        | none => rw [hx] at hj; cases hj
        | some u => exact (Array.getElem?_eq_some_iff.1 hx).1
      omega
  intro fuel
  induction fuel with
  | zero =>
    intro listed hsz hun hdn φ a w g1 g2 g3 g4 hQ
    have hall : ∀ i, i < ops.length → setOf listed i = true := by
      intro i hi
      have h0 : listed.toList.countP (· == false) = 0 := by unfold unlisted at hun; omega
      rw [List.countP_eq_zero] at h0
      have hi' : i < listed.size := by omega
      have := h0 listed[i] (by simp)
      simpa [setOf, Array.getD_eq_getD_getElem?, hi'] using this
    unfold wpAny
    refine ⟨?_, atEnd listed hsz hall g1 g2 g3 g4 hQ⟩
    apply List.eq_nil_iff_forall_not_mem.2
    intro i hi
    obtain ⟨r1, r2, _⟩ := ready_of hi
    have := hall i r1
    have hi' : i < listed.size := by omega
    simp [setOf, Array.getD_eq_getD_getElem?, hi'] at this r2
    rw [this] at r2; cases r2
  | succ fuel ih =>
    intro listed hsz hun hdn φ a w g1 g2 g3 g4 hQ
    unfold wpAny
    refine ⟨fun hr => ?_, fun i hi => ?_⟩
    · -- none is ready: all are there
      refine atEnd listed hsz ?_ g1 g2 g3 g4 hQ
      intro i
      induction i using Nat.strongRecOn with
      | _ i ihs =>
        intro hi
        cases hS : setOf listed i with
        | true => rfl
        | false =>
          exfalso
          have hi' : i < listed.size := by omega
          have : i ∈ Region.ready .any ops.toArray listed := by
            unfold Region.ready
            rw [List.mem_filter]
            refine ⟨by simpa using hi, ?_⟩
            have hl : listed[i] = false := by simpa [setOf, Array.getD_eq_getD_getElem?, hi'] using hS
            simp only [List.getElem?_toArray]
            have ho : ops[i]? = some ops[i] := by simp [hi]
            rw [ho]
            simp only [Option.map_some, Option.getD_some, Bool.and_eq_true, Bool.not_eq_true']
            refine ⟨by simp [Array.getD_eq_getD_getElem?, hi', hl], ?_⟩
            rw [Array.all_eq_true]
            intro q hq
            simp only [Bool.or_eq_true, Bool.not_eq_true']
            by_cases hb : Region.binds .any ops[i].after[q] = true
            · right
              have hk : ops[i].after[q].on ∈ direct ops[i] := by
                unfold direct
                refine List.mem_map.2 ⟨ops[i].after[q], List.mem_filter.2 ⟨by simp, hb⟩, rfl⟩
              have hlt := hord ho _ hk
              exact ihs _ (by omega) (by omega)
            · left; simpa using hb
          rw [hr] at this
          cases this
    · obtain ⟨r1, r2, o, r3, r4⟩ := ready_of hi
      have hi' : i < listed.size := by omega
      have hSi : setOf listed i = false := by
        simp [Array.getD_eq_getD_getElem?, hi'] at r2
        simp [setOf, Array.getD_eq_getD_getElem?, hi', r2]
      obtain ⟨it, d, s1, s2, ob, u, s3, s4⟩ := t2 i o r3
      have hinf := infos_get (all := ops.toArray) r3 s1
      -- the state that is there looks, to this operation, as in the text's order
      have hDi : Down ops (fun x => setOf listed x || Nat.beq x i) := by
        intro x p hx hSx k hk
        simp only [Bool.or_eq_true] at hSx ⊢
        rcases hSx with hSx | hSx
        · exact .inl (hdn x p hx hSx k hk)
        · have : x = i := Nat.eq_of_beq_eq_true hSx
          subst this
          rw [r3] at hx
          simp only [Option.some.injEq] at hx
          subst hx
          exact .inl (r4 k hk)
      have lower : ∀ j yj, j < i → (infos ops.toArray ops its)[j]? = some yj → setOf listed j = false → indep yj ⟨Oper.looksAt ops.toArray o, o.dst, rblk (foldS (ltB i) 0 (usT ops its) (look tm)) o, it.2.map (·.1)⟩ = true := by
        intro j yj hj hyj hSj
        refine meet _ hDi j i _ _ hj hyj hinf ?_ (by simp)
        have : Nat.beq j i = false := by
          cases hb : Nat.beq j i
          · rfl
          · exact absurd (Nat.eq_of_beq_eq_true hb) (by omega)
        simp [hSj, this]
      have upper : ∀ j yj, i < j → (infos ops.toArray ops its)[j]? = some yj → setOf listed j = true → indep ⟨Oper.looksAt ops.toArray o, o.dst, rblk (foldS (ltB i) 0 (usT ops its) (look tm)) o, it.2.map (·.1)⟩ yj = true := by
        intro j yj hj hyj hSj
        exact meet _ hdn i j _ _ hj hinf hyj hSi hSj
      have agreeT : ∀ t ∈ Oper.looksAt ops.toArray o, foldS (setOf listed) 0 (usT ops its) (look tm) t = foldS (ltB i) 0 (usT ops its) (look tm) t := by
        intro t ht
        refine foldS_congr _ 0 _ _ (fun j v hj => ?_) rfl
        rw [Nat.zero_add]
        obtain ⟨p, itp, dp, rbp, p1, p2, p3⟩ := usT_inv hj
        have hpd : p.dst = some t := by
          cases hd : p.dst with
          | none => rw [hd] at p3; cases p3
          | some t' => rw [hd] at p3; simp only [Option.map_some, Option.some.injEq, Prod.mk.injEq] at p3; rw [p3.1]
        have hyj := infos_get (all := ops.toArray) p1 p2
        by_cases hlt : j < i
        · rw [ltB_iff.2 hlt]
          cases hS : setOf listed j with
          | true => rfl
          | false =>
            have := lower j _ hlt hyj hS
            simp only [indep, Bool.and_eq_true, hpd] at this
            exact absurd ht (apartN_spec this.1.1.1.1.1)
        · have hf : ltB i j = false := by
            cases hb : ltB i j
            · rfl
            · exact absurd (ltB_iff.1 hb) hlt
          rw [hf]
          cases hS : setOf listed j with
          | false => rfl
          | true =>
            by_cases hji : j = i
            · subst hji; rw [hSi] at hS; cases hS
            · have := upper j _ (by omega) hyj hS
              simp only [indep, Bool.and_eq_true, hpd] at this
              exact absurd ht (apartN_spec this.1.1.1.1.2)
      have agreeM : ∀ b ∈ rblk (foldS (ltB i) 0 (usT ops its) (look tm)) o, foldS (setOf listed) 0 (usM its) (look mem) b = foldS (ltB i) 0 (usM its) (look mem) b := by
        intro b hb
        refine foldS_congr _ 0 _ _ (fun j v hj => ?_) rfl
        rw [Nat.zero_add]
        have hj' : ∃ itp dp rbp, its[j]? = some (itp, dp, rbp) ∧ itp.2 = some (b, v) := by
          simp only [usM, List.getElem?_map, Option.map_eq_some_iff] at hj
          obtain ⟨⟨itp, dp, rbp⟩, q1, q2⟩ := hj
          exact ⟨itp, dp, rbp, q1, q2⟩
        obtain ⟨itp, dp, rbp, q1, q2⟩ := hj'
        have hjl : j < ops.length := by
          have := (List.getElem?_eq_some_iff.1 q1).1
          omega
        have p1 : ops[j]? = some ops[j] := by simp [hjl]
        have hyj := infos_get (all := ops.toArray) p1 q1
        by_cases hlt : j < i
        · rw [ltB_iff.2 hlt]
          cases hS : setOf listed j with
          | true => rfl
          | false =>
            have := lower j _ hlt hyj hS
            simp only [indep, Bool.and_eq_true, q2, Option.map_some] at this
            exact absurd hb (apartN_spec this.1.1.2)
        · have hf : ltB i j = false := by
            cases hb : ltB i j
            · rfl
            · exact absurd (ltB_iff.1 hb) hlt
          rw [hf]
          cases hS : setOf listed j with
          | false => rfl
          | true =>
            by_cases hji : j = i
            · subst hji; rw [hSi] at hS; cases hS
            · have := upper j _ (by omega) hyj hS
              simp only [indep, Bool.and_eq_true, q2, Option.map_some] at this
              exact absurd hb (apartN_spec this.1.2)
      have hstep : lstep P T ops.toArray (id + i) (foldS (setOf listed) 0 (usT ops its) (look tm)) (foldS (setOf listed) 0 (usM its) (look mem)) d o = some (ob, it, u) := by
        rw [← s4]
        exact (lstep_congr (fun t ht => (agreeT t ht).symm) (fun b hb => (agreeM b hb).symm)).symm
      have hS' : ∀ j, setOf (listed.setIfInBounds i true) j = (setOf listed j || Nat.beq j i) := by
        intro j
        simp only [setOf, Array.getD_eq_getD_getElem?, Array.getElem?_setIfInBounds]
        by_cases hji : i = j
        · subst hji; simp [hi']
        · have : Nat.beq j i = false := by
            cases hb : Nat.beq j i
            · rfl
            · exact absurd (Nat.eq_of_beq_eq_true hb).symm hji
          simp [hji, this]
      have foldT : foldS (setOf (listed.setIfInBounds i true)) 0 (usT ops its) (look tm) = putS (foldS (setOf listed) 0 (usT ops its) (look tm)) o.dst it.1 := by
        rw [putS_updO]
        refine foldS_put (usT_get r3 s1) hS' (fun j k v v' hij hu hj => ?_) _
        obtain ⟨p, itp, dp, rbp, p1, p2, p3⟩ := usT_inv hj
        cases hS : setOf listed j with
        | false => rfl
        | true =>
          have := upper j _ hij (infos_get (all := ops.toArray) p1 p2) hS
          simp only [indep, Bool.and_eq_true] at this
          have hap := this.1.1.1.2
          cases hod : o.dst with
          | none => rw [hod] at hu; cases hu
          | some t => cases hpd : p.dst with
            | none => rw [hpd] at p3; cases p3
            | some t' =>
              rw [hod] at hu; rw [hpd] at p3; rw [hod, hpd] at hap
              simp only [Option.map_some, Option.some.injEq, Prod.mk.injEq] at hu p3
              exact absurd (p3.1.symm.trans hu.1.symm) (apartO_spec hap)
      have hmi : (usM its)[i]? = some it.2 := by simp [usM, s1]
      have foldM : foldS (setOf (listed.setIfInBounds i true)) 0 (usM its) (look mem) = eff (foldS (setOf listed) 0 (usM its) (look mem)) it.2 := by
        rw [eff_updO]
        refine foldS_put hmi hS' (fun j k v v' hij hu hj => ?_) _
        simp only [usM, List.getElem?_map, Option.map_eq_some_iff] at hj
        obtain ⟨⟨itp, dp, rbp⟩, q1, q2⟩ := hj
        have q2 : itp.2 = some (k, v') := q2
        have hjl : j < ops.length := by
          have := (List.getElem?_eq_some_iff.1 q1).1
          omega
        cases hS : setOf listed j with
        | false => rfl
        | true =>
          have := upper j _ hij (infos_get (all := ops.toArray) (by simp [hjl] : ops[j]? = some ops[j]) q1) hS
          simp only [indep, Bool.and_eq_true, hu, q2, Option.map_some] at this
          exact absurd rfl (apartO_spec this.2)
      unfold wpOp
      have hget : ops.toArray[i]? = some o := by simpa using r3
      simp only [hget]
      refine lstep_wp hT hstep s3 g1 g4 ⟨by omega, fun j hj e => ?_⟩ fun φ' x w' hle hv hm => ?_
      · have : j = i := by omega
        subst this; rw [hSi] at hj; cases hj
      · obtain ⟨k1, k2, k3⟩ := put_rel (n := n) (g1.mono hle) g2 hv s2
        refine ih (listed.setIfInBounds i true) (by simpa using hsz) ?_ ?_ (φ := φ') (a := a.put o.dst x) (w := w') ?_ k2 (k3.trans g3) ?_ ?_
        · have hl : listed[i] = false := by simpa [setOf, Array.getD_eq_getD_getElem?, hi'] using hSi
          unfold unlisted at *
          rw [Array.toList_setIfInBounds, List.countP_set (by simpa using hi')]
          rw [if_pos (by simp [hl]), if_neg (by simp)]
          omega
        · intro x p hx hSx k hk
          rw [hS'] at hSx ⊢
          exact hDi x p hx hSx k hk
        · rw [foldT]; exact k1
        · rw [foldM]
          refine hm.drop fun b hb => ⟨⟨hb.1, fun j hj => hb.2 j (by rw [hS', hj]; rfl)⟩, hb.2 i (by simp [hS'])⟩
        · intro φ'' a' w'' hle' h1 h2 h3 h4
          exact hQ φ'' a' w'' (Phi.le_trans hle hle') h1 h2 h3 h4

end
end Go.Proofs.Ythgjacfikicgnaa.K
