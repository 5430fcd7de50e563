/-
  From a contract of a law to the row's step, for laws whose arguments hold slices of numbers, bools, and structs and arrays of these.
-/
import Derived.Carry
import Derived.Deep.Slices
import Derived.Test.YtcdejlgophpdjaaQVmRuns8
section
namespace Go.Proofs.Ytcdejlgophpdjaa.V
open Go Go.RowKit Go.ChangeShapes Go.WideShapes Go.ChangeAt

/-- A cell's kind: a plain one's; a slice's, by the kinds of its elements' cells. -/
inductive Kc where
  | one (k : Kn)
  | slc (sh : List Kd)

def kdsKc : List Kc → Option (List Kd)
  | [] => some []
  | .one (.int k) :: r => match kdsKc r with
    | some l => some (.int k :: l)
    | none => none
  | .one .bool :: r => match kdsKc r with
    | some l => some (.bool :: l)
    | none => none
  | _ => none

def kcFs (P : Program) (rec : TypeId → Option (List Kc)) : Nat → List Field → Option (List Kc)
  | _, [] => some []
  | off, f :: fs => match rec f.type with
    | some ks => match Nat.beq f.offset off && Nat.beq ks.length (P.cellsOf f.type), kcFs P rec (off + ks.length) fs with
      | true, some r => some (ks ++ r)
      | _, _ => none
    | none => none

/-- A type's cells. -/
def kcT (P : Program) : Nat → TypeId → Option (List Kc)
  | 0, _ => none
  | d + 1, t => match P.underlying t with
    | some .bool => some [.one .bool]
    | some (.int k) => some [.one (.int k)]
    | some .string => some [.one .str]
    | some (.slice e) => match (kcT P d e).bind kdsKc with
      | some sh => match Nat.ble 1 sh.length && Nat.beq sh.length (P.cellsOf e) with
        | true => some [.slc sh]
        | false => none
      | none => none
    | some (.struct fs) => match kcFs P (kcT P d) 0 fs.toList with
      | some ks => match Nat.beq ks.length (P.cellsOf t) with
        | true => some ks
        | false => none
      | none => none
    | some (.array n e) => match kcT P d e with
      | some ks => match Nat.beq ks.length (P.cellsOf e) && Nat.beq (n * ks.length) (P.cellsOf t) with
        | true => some ((List.replicate n ks).flatten)
        | false => none
      | none => none
    | _ => none

def KdFit : Kd → Int → Prop
  | .int k, n => k.min ≤ n ∧ n ≤ k.max
  | .bool, n => n = 0 ∨ n = 1

def RowFit (sh : List Kd) (row : List Int) : Prop := row.length = sh.length ∧ ∀ (j : Nat) k n, sh[j]? = some k → row[j]? = some n → KdFit k n

/-- A slice's cells stand in the world. -/
def SlcIn (w : World) (sh : List Kd) (l : List (List Int)) (v : Value) : Prop :=
  ∃ a cap, v = .slice a l.length cap ∧ l.length ≤ cap ∧ cap ≤ maxLen ∧
    (l = [] ∨ ∃ r o arr ty fz, a = some ⟨r, o, none⟩ ∧ w.heap[r]? = some (.cells arr ty fz) ∧ RowsIn arr o ⟨0, sh, l, none⟩)

def CF (w : World) : Kc → Value → Prop
  | .one k, v => ∃ x : At, FitAt k x ∧ x.rel (fun _ => none) v
  | .slc sh, v => ∃ l : List (List Int), (∀ row ∈ l, RowFit sh row) ∧ l.length ≤ maxLen ∧ SlcIn w sh l v

theorem pick_list {α : Type} {p : Nat → α → Prop} : ∀ (n : Nat), (∀ i, i < n → ∃ x, p i x) → ∃ l : List α, l.length = n ∧ ∀ i x, l[i]? = some x → p i x
  | 0, _ => ⟨[], rfl, fun i x h => by simp at h⟩
  | n + 1, h => by
    obtain ⟨l, l1, l2⟩ := pick_list n fun i hi => h i (by omega)
    obtain ⟨x, hx⟩ := h n (by omega)
    refine ⟨l ++ [x], by simp [l1], fun i y hy => ?_⟩
    rw [List.getElem?_append] at hy
    split at hy
    · exact l2 i y hy
    · rename_i hi
      have e : i = n := by
        rcases Nat.lt_or_ge (i - l.length) 1 with h1 | h1
        · omega
        · rw [List.getElem?_eq_none (by simpa using h1)] at hy; cases hy
      subst e
      rw [l1, Nat.sub_self] at hy
      simp only [List.getElem?_cons_zero, Option.some.injEq] at hy
      subst hy; exact hx

theorem All2.get2 {α β : Type} {R : α → β → Prop} : ∀ {l : List α} {m : List β}, All2 R l m → ∀ {i : Nat} {x : α} {y : β}, l[i]? = some x → m[i]? = some y → R x y
  | _, _, .cons r _, 0, _, _, h, g => by simp at h g; subst h g; exact r
  | _, _, .cons _ a, i + 1, _, _, h, g => a.get2 (i := i) (by simpa using h) (by simpa using g)

/-- Cells of an element as a row. -/
theorem row_of {w : World} : ∀ {ks : List Kc} {sh : List Kd} {cs : List Value}, kdsKc ks = some sh → All2 (CF w) ks cs →
    ∃ row : List Int, RowFit sh row ∧ cs.length = sh.length ∧ ∀ (j : Nat) k n, sh[j]? = some k → row[j]? = some n → cs[j]? = some (k.val n)
  | [], sh, cs, h, hl => by
    simp only [kdsKc, Option.some.injEq] at h; subst h
    cases hl
    exact ⟨[], ⟨rfl, fun j k n h => by simp at h⟩, rfl, fun j k n h => by simp at h⟩
  | .one (.int kk) :: ks, sh, cs, h, hl => by
    unfold kdsKc at h
    split at h
    · rename_i l hk
      simp only [Option.some.injEq] at h; subst h
      cases hl with
      | cons a b =>
        obtain ⟨x, ⟨n, rfl, h1, h2⟩, hv⟩ := a
        obtain ⟨row, ⟨r1, r2⟩, r3, r4⟩ := row_of hk b
        have hv' : _ = Value.int kk n := hv
        refine ⟨n :: row, ⟨by simp [r1], fun j k m g1 g2 => ?_⟩, by simp [r3], fun j k m g1 g2 => ?_⟩
        · cases j with
          | zero => simp at g1 g2; subst g1 g2; exact ⟨h1, h2⟩
          | succ j => exact r2 j k m (by simpa using g1) (by simpa using g2)
        · cases j with
          | zero => simp at g1 g2; subst g1 g2; simp [hv', Kd.val]
          | succ j => simpa using r4 j k m (by simpa using g1) (by simpa using g2)
    · cases h
  | .one .bool :: ks, sh, cs, h, hl => by
    unfold kdsKc at h
    split at h
    · rename_i l hk
      simp only [Option.some.injEq] at h; subst h
      cases hl with
      | cons a b =>
        obtain ⟨x, ⟨n, rfl⟩, hv⟩ := a
        obtain ⟨row, ⟨r1, r2⟩, r3, r4⟩ := row_of hk b
        have hv' : _ = Value.bool n := hv
        refine ⟨(bif n then 1 else 0) :: row, ⟨by simp [r1], fun j k m g1 g2 => ?_⟩, by simp [r3], fun j k m g1 g2 => ?_⟩
        · cases j with
          | zero => simp at g1 g2; subst g1 g2; cases n <;> simp [KdFit]
          | succ j => exact r2 j k m (by simpa using g1) (by simpa using g2)
        · cases j with
          | zero => simp at g1 g2; subst g1 g2; cases n <;> simp [hv', Kd.val]
          | succ j => simpa using r4 j k m (by simpa using g1) (by simpa using g2)
    · cases h
  | .one .str :: ks, sh, cs, h, hl => by simp [kdsKc] at h
  | .slc _ :: ks, sh, cs, h, hl => by simp [kdsKc] at h

theorem kcFs_all {P : Program} {w : World} {rec : TypeId → Option (List Kc)} {cs : List Value} : ∀ {fs : List Field} {off : Nat} {ks : List Kc}, kcFs P rec off fs = some ks →
    (∀ f ∈ fs, ∀ ks, rec f.type = some ks → ks.length = P.cellsOf f.type → All2 (CF w) ks ((cs.drop f.offset).take (P.cellsOf f.type))) →
    cs.length = off + ks.length → All2 (CF w) ks (cs.drop off)
  | [], off, ks, h, _, hl => by
    simp only [kcFs, Option.some.injEq] at h; subst h
    rw [List.drop_eq_nil_of_le (by simp at hl; omega)]; exact .nil
  | f :: fs, off, ks, h, hh, hl => by
    unfold kcFs at h
    split at h
    · rename_i k0 hk0
      split at h
      · rename_i r hb hr
        simp only [Option.some.injEq] at h; subst h
        simp only [Bool.and_eq_true] at hb
        have e1 := Nat.eq_of_beq_eq_true hb.1
        have e2 := Nat.eq_of_beq_eq_true hb.2
        have a := hh f (by simp) k0 hk0 e2
        have b := kcFs_all hr (fun g hg => hh g (by simp [hg])) (by simp at hl; omega)
        rw [e1, ← e2] at a
        have e : cs.drop off = (cs.drop off).take k0.length ++ cs.drop (off + k0.length) := by
          rw [← List.drop_drop]; exact (List.take_append_drop _ _).symm
        rw [e]
        exact a.append b
      · cases h
    · cases h

theorem rep_all {w : World} {ks : List Kc} {cs : List Value} {n : Nat} (hl : cs.length = n * ks.length) (h : ∀ i, i < n → All2 (CF w) ks ((cs.drop (i * ks.length)).take ks.length)) : ∀ m, m ≤ n → All2 (CF w) ((List.replicate m ks).flatten) (cs.drop ((n - m) * ks.length))
  | 0, _ => by
    rw [Nat.sub_zero, List.drop_eq_nil_of_le (by omega)]; exact .nil
  | m + 1, hm => by
    rw [List.replicate_succ, List.flatten_cons]
    have a := h (n - (m + 1)) (by omega)
    have b := rep_all hl h m (by omega)
    have e : cs.drop ((n - (m + 1)) * ks.length) = (cs.drop ((n - (m + 1)) * ks.length)).take ks.length ++ cs.drop ((n - m) * ks.length) := by
      have e' : (n - m) * ks.length = (n - (m + 1)) * ks.length + ks.length := by
        rw [← Nat.succ_mul]; congr 1; omega
      rw [e', ← List.drop_drop]; exact (List.take_append_drop _ _).symm
    rw [e]
    exact a.append b

section
variable {H : Type} {enc : TypeId × Value → H} {P : Program} {w : World}

theorem trod_kc : ∀ (d : Nat) {t : TypeId} {ks : List Kc} {fuel : Nat} {cs : List Value} {x : DataW H × List MemPlace}, kcT P d t = some ks → DataW.trod enc P w 0 (fun _ => true) true fuel t cs = some x → All2 (CF w) ks cs
  | 0, t, ks, fuel, cs, x, h, _ => by simp [kcT] at h
  | d + 1, t, ks, fuel, cs, x, h, hx => by
    unfold kcT at h
    split at h
    · rename_i hu
      simp only [Option.some.injEq] at h; subst h
      obtain ⟨b, rfl, _⟩ := DataW.trod_bool hu hx
      exact .cons ⟨.bool true b, ⟨b, rfl⟩, rfl⟩ .nil
    · rename_i k hu
      simp only [Option.some.injEq] at h; subst h
      obtain ⟨n, rfl, _, hw⟩ := DataW.trod_int hu hx
      have hn : k.min ≤ n ∧ n ≤ k.max := by simpa [Lit.wf, IntKind.has] using hw
      exact .cons ⟨.int true k n, ⟨n, rfl, hn.1, hn.2⟩, rfl⟩ .nil
    · rename_i hu
      simp only [Option.some.injEq] at h; subst h
      obtain ⟨s, rfl, _, hw⟩ := DataW.trod_string hu hx
      have hm : (maxLen : Int) ≤ IntKind.i64.max := by decide
      exact .cons ⟨.str true s, ⟨s, rfl, by omega⟩, rfl⟩ .nil
    · rename_i e hu
      split at h
      · rename_i sh hsh
        obtain ⟨kse, hk1, hk2⟩ := Option.bind_eq_some_iff.1 hsh
        split at h
        · rename_i hb
          simp only [Option.some.injEq] at h; subst h
          simp only [Bool.and_eq_true] at hb
          have p1 : 1 ≤ sh.length := Nat.le_of_ble_eq_true hb.1
          have p2 : sh.length = P.cellsOf e := Nat.eq_of_beq_eq_true hb.2
          rcases Go.Deep.open_slice hu hx with ⟨rfl, _⟩ | ⟨a, len, cap, m, n, D, Pl, rfl, _, h1, h2, h3, _, h4⟩
          · exact .cons ⟨[], nofun, by simp, none, 0, rfl, by simp, by simp, .inl rfl⟩ .nil
          · simp only [if_true] at h3
            subst h3
            obtain ⟨l, l1, l2⟩ := pick_list (p := fun i (row : List Int) => RowFit sh row ∧ ∀ (j : Nat) k n, sh[j]? = some k → row[j]? = some n → w.cell? ((a.add (i * sh.length)).add j) = some (k.val n)) len fun i hi => by
              obtain ⟨cs', c1, c2⟩ := h4 i (by omega)
              obtain ⟨_, q2, q3⟩ := World.cells?_some c1
              obtain ⟨row, r1, r2, r3⟩ := row_of hk2 (trod_kc d hk1 c2)
              refine ⟨row, r1, fun j k n g1 g2 => ?_⟩
              have hj : j < sh.length := (List.getElem?_eq_some_iff.1 g1).1
              rw [p2, q3 j (by omega)]
              exact r3 j k n g1 g2
            refine .cons ⟨l, fun row hrow => ?_, by omega, some a, _, by rw [l1], by omega, h2, ?_⟩ .nil
            · obtain ⟨i, hi⟩ := List.getElem?_of_mem hrow
              exact (l2 i row hi).1
            · rcases Nat.eq_zero_or_pos len with h0 | h0
              · left; exact List.eq_nil_of_length_eq_zero (by omega)
              · right
                have get : ∀ i, i < len → ∃ row, l[i]? = some row := fun i hi => ⟨_, List.getElem?_eq_getElem (by omega)⟩
                have cell : ∀ i j, i < len → j < sh.length → ∃ row n k, l[i]? = some row ∧ row[j]? = some n ∧ sh[j]? = some k ∧ w.cell? ((a.add (i * sh.length)).add j) = some (k.val n) := fun i j hi hj => by
                  obtain ⟨row, hr⟩ := get i hi
                  obtain ⟨⟨q1, _⟩, q2⟩ := l2 i row hr
                  have hn : row[j]? = some row[j] := List.getElem?_eq_getElem (by omega)
                  have hk : sh[j]? = some sh[j] := List.getElem?_eq_getElem (by omega)
                  exact ⟨row, _, _, hr, hn, hk, q2 j _ _ hk hn⟩
                obtain ⟨r, o, spot⟩ := a
                obtain ⟨row0, n0, k0, _, _, _, hc0⟩ := cell 0 0 h0 p1
                have hspot : spot = none := by
                  have := World.cell?_spot hc0
                  simpa [Addr.add] using this
                subst hspot
                simp only [add_eq] at cell l2 hc0
                unfold World.cell? at hc0
                split at hc0
                · rename_i arr ty fz hheap
                  have ha : ∀ k, w.cell? ⟨r, k, none⟩ = arr[k]? := fun k => by
                    unfold World.cell?
                    simp only at hheap
                    simp only [hheap]
                    rfl
                  refine ⟨r, o, arr, ty, fz, rfl, hheap, fun p row hr => ⟨(l2 p row hr).1.1, fun j n k g1 g2 => ?_⟩, ?_⟩
                  · have := (l2 p row hr).2 j k n g2 g1
                    rw [ha] at this
                    rw [show o + (0 + p * sh.length + j) = o + p * sh.length + j by omega]
                    exact this
                  · obtain ⟨row, n, k, _, _, _, hc⟩ := cell (len - 1) (sh.length - 1) (by omega) (by omega)
                    rw [ha] at hc
                    have hlt := (Array.getElem?_eq_some_iff.1 hc).1
                    have e : len * sh.length = (len - 1) * sh.length + sh.length := by
                      rw [← Nat.succ_mul]; congr 1; omega
                    show 0 + l.length * sh.length + o ≤ arr.size
                    rw [l1, e]
                    omega
                · cases hc0
        · cases h
      · cases h
    · rename_i fs hu
      split at h
      · rename_i ks' hk
        split at h
        · rename_i hb
          simp only [Option.some.injEq] at h; subst h
          have hb' := Nat.eq_of_beq_eq_true hb
          obtain ⟨xs, n, rfl, _, hl, hxs, hf⟩ := DataW.trod_struct hu hx
          have := kcFs_all (w := w) (cs := cs) hk (fun f hf' ks0 h1 h2 => by
            obtain ⟨i, hi⟩ := List.getElem?_of_mem hf'
            have hi' : fs[i]? = some f := by simpa using hi
            have e := hf i f hi'
            have hlt : i < xs.length := by rw [hxs]; exact (Array.getElem?_eq_some_iff.1 hi').1
            rw [List.getElem?_eq_getElem hlt] at e
            exact trod_kc d h1 e) (by rw [hl, ← hb']; simp)
          simpa using this
        · cases h
      · cases h
    · rename_i n e hu
      split at h
      · rename_i ks' hk
        split at h
        · rename_i hb
          simp only [Option.some.injEq] at h; subst h
          simp only [Bool.and_eq_true] at hb
          have b1 := Nat.eq_of_beq_eq_true hb.1
          have b2 := Nat.eq_of_beq_eq_true hb.2
          obtain ⟨xs, m, rfl, _, hl, hxs, hf⟩ := DataW.trod_array hu hx
          have := rep_all (w := w) (ks := ks') (cs := cs) (n := n) (by rw [hl, ← b2]) (fun i hi => by
            have e := hf i hi
            rw [List.getElem?_eq_getElem (by omega)] at e
            rw [b1]
            exact trod_kc d hk e) n (Nat.le_refl _)
          simpa using this
        · cases h
      · cases h
    · cases h

end

/-- A slice that came in, as a block that is not written. -/
def roBC (sh : List Kd) (l : List (List Int)) : BC := ⟨⟨0, 0, true, some ⟨0, sh, l, none⟩⟩, []⟩

/-- For all cells of these kinds, and the blocks behind them. -/
def AllC : List Kc → List BC → (List At → List BC → Prop) → Prop
  | [], bs, Q => Q [] bs
  | .one (.int k) :: ks, bs, Q => ∀ n : Int, k.min ≤ n → n ≤ k.max → AllC ks bs fun l bs' => Q (.int true k n :: l) bs'
  | .one .bool :: ks, bs, Q => ∀ b : Bool, AllC ks bs fun l bs' => Q (.bool true b :: l) bs'
  | .one .str :: ks, bs, Q => ∀ s : ByteArray, (s.size : Int) ≤ IntKind.i64.max → AllC ks bs fun l bs' => Q (.str true s :: l) bs'
  | .slc sh :: ks, bs, Q => ∀ l : List (List Int), (∀ row ∈ l, RowFit sh row) → l.length ≤ maxLen → AllC ks (bs ++ [roBC sh l]) fun ags bs' => Q (.slc true bs.length 0 0 sh.length 0 l.length :: ags) bs'

/-- For all arguments of these shapes. -/
def AllB : List (Bool × List Kc) → List BC → (List LV → List BC → Prop) → Prop
  | [], bs, Q => Q [] bs
  | (true, ks) :: r, bs, Q => AllC ks bs fun l bs' => AllB r bs' fun ags bs'' => Q (.g l :: ags) bs''
  | (false, ks) :: r, bs, Q => AllC ks bs fun l bs' => match l with
    | [x] => AllB r bs' fun ags bs'' => Q (.a x :: ags) bs''
    | _ => True

/-- The blocks stand in the world, none of them written. -/
structure RoB (w : World) (φ : Phi) (bs : List BC) : Prop where
  at_ : ∀ (b : Nat) c, bs[b]? = some c → ∃ i sh l, φ b = some i ∧ c = roBC sh l ∧ i.v = 0 ∧ i.ro = true ∧ i.n = l.length ∧
    ((i.a = none ∧ l = []) ∨ ∃ r o arr ty fz, i.a = some (r, o) ∧ w.heap[r]? = some (.cells arr ty fz) ∧ RowsIn arr o ⟨0, sh, l, none⟩ ∧ l.length * sh.length ≤ i.z)
  dom : ∀ b, bs.length ≤ b → φ b = none

theorem RoB.nil (w : World) : RoB w (fun _ => none) [] := ⟨fun b c h => by simp at h, fun _ _ => rfl⟩

theorem memOf_ro {bs : List BC} (h : ∀ (b : Nat) c, bs[b]? = some c → c.cs = []) (k : Nat) : memOf bs k = none := by
  unfold memOf
  split
  · rename_i c hc
    unfold cellOf
    rw [h _ c hc]; rfl
  · rfl

theorem hdsIn_none {bs : List BC} {out : List (Option BC)} (ho : ∀ (b : Nat) c, bs[b]? = some c → c.h.ro = true) : hdsIn bs out = fun b => (bs[b]?).map (·.h) := by
  funext b
  unfold hdsIn
  split
  · rename_i c hc
    have e : roH c.h = c.h := by
      have := ho b c hc
      unfold roH
      rw [← this]
    split
    · rw [e, hc]; rfl
    · rw [hc]; rfl
  · rename_i hc
    rw [hc]; rfl

theorem RoB.mr {w : World} {φ : Phi} {bs : List BC} (h : RoB w φ bs) (out : List (Option BC)) : MR w (fun _ => False) φ (memOf bs) (hdsIn bs out) (fun b => bs.length ≤ b) w := by
  have lt : ∀ b i, φ b = some i → b < bs.length := fun b i hi => by
    rcases Nat.lt_or_ge b bs.length with h1 | h1
    · exact h1
    · rw [h.dom b h1] at hi; cases hi
  have get : ∀ b i, φ b = some i → i.ro = true ∧ ∀ r o, i.a = some (r, o) → r < w.heap.size := fun b i hi => by
    obtain ⟨j, sh, l, h1, _, _, h2, _, h3⟩ := h.at_ b _ (List.getElem?_eq_getElem (lt b i hi))
    rw [hi] at h1
    simp only [Option.some.injEq] at h1; subst h1
    refine ⟨h2, fun r o ha => ?_⟩
    rcases h3 with ⟨h3, _⟩ | ⟨r', o', arr, ty, fz, h3, h4, _⟩
    · rw [h3] at ha; cases ha
    · rw [h3] at ha
      simp only [Option.some.injEq, Prod.mk.injEq] at ha
      obtain ⟨rfl, _⟩ := ha
      exact (Array.getElem?_eq_some_iff.1 h4).1
  have hm : ∀ k, memOf bs k = none := memOf_ro fun b c hc => by
    obtain ⟨_, _, _, _, rfl, _⟩ := h.at_ b c hc; rfl
  have hh : hdsIn bs out = fun b => (bs[b]?).map (·.h) := hdsIn_none fun b c hc => by
    obtain ⟨_, _, _, _, rfl, _⟩ := h.at_ b c hc; rfl
  refine ⟨fun k x hk => ?_, fun b g hg => ?_, fun k x g hk => ?_, fun b b' i i' r o o' h1 h2 _ _ => ?_, fun b i r o h1 _ h3 => ?_, fun b i r o h1 h2 _ => ?_, fun b hb => h.dom b hb, fun b i r o h1 h2 => ?_, rfl, rfl, rfl, Nat.le_refl _, fun _ _ _ => rfl, fun _ => rfl⟩
  · rw [hm] at hk; cases hk
  · rw [hh] at hg
    obtain ⟨c, hc, rfl⟩ := Option.map_eq_some_iff.1 hg
    obtain ⟨i, sh, l, g1, rfl, g2, g3, g4, g5⟩ := h.at_ b c hc
    refine ⟨i, g1, g2, g3, nofun, fun R hR => ?_⟩
    have hR' : some (⟨0, sh, l, none⟩ : Rw) = some R := hR
    simp only [Option.some.injEq] at hR'; subst hR'
    refine ⟨g4.symm, fun N hN => (nomatch hN), ?_⟩
    rcases g5 with ⟨g5, g6⟩ | ⟨r, o, arr, ty, fz, g5, g6, g7, g8⟩
    · exact .inl ⟨g5, g6, rfl⟩
    · exact .inr ⟨r, o, arr, ty, fz, g5, g6, g7, by simpa using g8⟩
  · rw [hm] at hk; cases hk
  · exact .inr ⟨(get b i h1).1, (get b' i' h2).1⟩
  · rw [(get b i h1).1] at h3; cases h3
  · exact ⟨(get b i h1).2 r o h2, id⟩
  · exact (get b i h1).2 r o h2

/-- One slice more. -/
theorem RoB.add {w : World} {φ : Phi} {bs : List BC} (h : RoB w φ bs) {sh : List Kd} {l : List (List Int)} {v : Value} (hv : SlcIn w sh l v) :
    ∃ ψ, φ.le ψ ∧ RoB w ψ (bs ++ [roBC sh l]) ∧ At.rel ψ (.slc true bs.length 0 0 sh.length 0 l.length) v ∧ (l ≠ [] → At.rel ψ (.vec bs.length 0 sh.length) v) := by
  obtain ⟨a, cap, rfl, hc, hm, hl⟩ := hv
  have hd := h.dom bs.length (Nat.le_refl _)
  have mk : ∀ j : Inf, j.v = 0 → j.ro = true → j.n = l.length → ((j.a = none ∧ l = []) ∨ ∃ r o arr ty fz, j.a = some (r, o) ∧ w.heap[r]? = some (.cells arr ty fz) ∧ RowsIn arr o ⟨0, sh, l, none⟩ ∧ l.length * sh.length ≤ j.z) →
      φ.le (setP φ bs.length j) ∧ RoB w (setP φ bs.length j) (bs ++ [roBC sh l]) := fun j j1 j2 j3 j4 => by
    refine ⟨phi_upd_le (.inl hd), ⟨fun b c hb => ?_, fun b hb => ?_⟩⟩
    · rw [List.getElem?_append] at hb
      split at hb
      · rename_i hlt
        obtain ⟨i, sh', l', g1, g2⟩ := h.at_ b c hb
        exact ⟨i, sh', l', by unfold setP; rw [if_neg (by omega)]; exact g1, g2⟩
      · rename_i hge
        have e : b = bs.length := by
          rcases Nat.lt_or_ge (b - bs.length) 1 with h1 | h1
          · omega
          · rw [List.getElem?_eq_none (by simpa using h1)] at hb; cases hb
        subst e
        rw [Nat.sub_self] at hb
        simp only [List.getElem?_cons_zero, Option.some.injEq] at hb
        exact ⟨j, sh, l, setP_same .., hb.symm, j1, j2, j3, j4⟩
    · unfold setP
      rw [List.length_append] at hb
      simp only [List.length_cons, List.length_nil] at hb
      rw [if_neg (by omega)]
      exact h.dom b (by omega)
  rcases hl with rfl | ⟨r, o, arr, ty, fz, rfl, h1, h2⟩
  · obtain ⟨m1, m2⟩ := mk ⟨0, none, 0, 0, 0, true⟩ rfl rfl rfl (.inl ⟨rfl, rfl⟩)
    refine ⟨_, m1, m2, ⟨⟨rfl, rfl⟩, _, setP_same .., Nat.le_refl _, fun _ => ⟨Nat.le_refl _, a, cap, rfl, hc, .inl rfl⟩⟩, fun h => absurd rfl h⟩
  · obtain ⟨m1, m2⟩ := mk ⟨ty, some (r, o), cap * sh.length, l.length, 0, true⟩ rfl rfl rfl (.inr ⟨r, o, arr, ty, fz, rfl, h1, h2, Nat.mul_le_mul_right _ hc⟩)
    refine ⟨_, m1, m2, ⟨⟨rfl, rfl⟩, _, setP_same .., Nat.le_refl _, fun _ => ⟨by simp, some ⟨r, o, none⟩, cap, rfl, hc, .inr ⟨r, o, rfl, by simp⟩⟩⟩, fun _ => ⟨⟨rfl, rfl⟩, _, setP_same .., Nat.le_refl _, fun _ => .inr ⟨r, o, cap, rfl, rfl, hc, rfl, hm⟩⟩⟩

theorem AllC.use {w : World} : ∀ {ks : List Kc} {bs : List BC} {Q : List At → List BC → Prop} {cs : List Value} {φ : Phi}, AllC ks bs Q → All2 (CF w) ks cs → RoB w φ bs →
    ∃ ags bs' ψ, φ.le ψ ∧ RoB w ψ bs' ∧ All2 (At.rel ψ) ags cs ∧ Q ags bs'
  | [], bs, Q, cs, φ, h, hc, hb => by cases hc; exact ⟨[], bs, φ, φ.le_refl, hb, .nil, h⟩
  | .one (.int k) :: ks, bs, Q, cs, φ, h, hc, hb => by
    cases hc with
    | cons a b =>
      obtain ⟨x, ⟨n, rfl, h1, h2⟩, hv⟩ := a
      obtain ⟨ags, bs', ψ, p1, p2, p3, p4⟩ := (h n h1 h2).use b hb
      exact ⟨_ :: ags, bs', ψ, p1, p2, .cons (At.rel_mono (φ := fun _ => none) (fun _ _ h => nomatch h) hv) p3, p4⟩
  | .one .bool :: ks, bs, Q, cs, φ, h, hc, hb => by
    cases hc with
    | cons a b =>
      obtain ⟨x, ⟨n, rfl⟩, hv⟩ := a
      obtain ⟨ags, bs', ψ, p1, p2, p3, p4⟩ := (h n).use b hb
      exact ⟨_ :: ags, bs', ψ, p1, p2, .cons (At.rel_mono (φ := fun _ => none) (fun _ _ h => nomatch h) hv) p3, p4⟩
  | .one .str :: ks, bs, Q, cs, φ, h, hc, hb => by
    cases hc with
    | cons a b =>
      obtain ⟨x, ⟨n, rfl, h1⟩, hv⟩ := a
      obtain ⟨ags, bs', ψ, p1, p2, p3, p4⟩ := (h n h1).use b hb
      exact ⟨_ :: ags, bs', ψ, p1, p2, .cons (At.rel_mono (φ := fun _ => none) (fun _ _ h => nomatch h) hv) p3, p4⟩
  | .slc sh :: ks, bs, Q, cs, φ, h, hc, hb => by
    cases hc with
    | cons a b =>
      obtain ⟨l, h1, h2, h3⟩ := a
      obtain ⟨χ, q1, q2, q3, -⟩ := hb.add h3
      obtain ⟨ags, bs', ψ, p1, p2, p3, p4⟩ := (h l h1 h2).use b q2
      exact ⟨_ :: ags, bs', ψ, Phi.le_trans q1 p1, p2, .cons (At.rel_mono p1 q3) p3, p4⟩

/-- The shape of a parameter. -/
def kcShape (P : Program) (t : TypeId) : Option (Bool × List Kc) :=
  match P.underlying t with
  | some (.struct _) | some (.array _ _) => match kcT P 20 t with
    | some ks => some (true, ks)
    | none => none
  | some _ => match kcT P 20 t with
    | some [k] => some (false, [k])
    | _ => none
  | none => none

def kcShapes (P : Program) : List TypeId → Option (List (Bool × List Kc))
  | [] => some []
  | t :: ts => match kcShape P t, kcShapes P ts with
    | some s, some ss => some (s :: ss)
    | _, _ => none

theorem argsB_open {H : Type} {enc : TypeId × Value → H} {P : Program} {w : World} {r : Reach} {base : Nat} : ∀ {ts : List TypeId} {vs : List Value} {ds : List (DataW H)} {ps : List MemPlace} {ss : List (Bool × List Kc)} {bs : List BC} {Q : List LV → List BC → Prop} {φ : Phi}, kcShapes P ts = some ss →
    DataW.TrodAll enc P w 0 (fun _ => true) true ts vs ds ps → (∀ (j : Nat) t v, ts[j]? = some t → vs[j]? = some v → Value.okWide P w r base t v) → AllB ss bs Q → RoB w φ bs →
    ∃ ags bs' ψ, φ.le ψ ∧ RoB w ψ bs' ∧ All2 (LV.rel ψ) ags vs ∧ Q ags bs'
  | [], [], [], ps, ss, bs, Q, φ, hs, _, _, h, hb => by
    simp only [kcShapes, Option.some.injEq] at hs; subst hs
    exact ⟨[], bs, φ, φ.le_refl, hb, .nil, h⟩
  | [], [], _ :: _, ps, ss, bs, Q, φ, hs, ht, _, _, _ => ht.elim
  | [], _ :: _, _, ps, ss, bs, Q, φ, hs, ht, _, _, _ => ht.elim
  | t :: ts, [], _, ps, ss, bs, Q, φ, hs, ht, _, _, _ => ht.elim
  | t :: ts, v :: vs, [], ps, ss, bs, Q, φ, hs, ht, _, _, _ => ht.elim
  | t :: ts, v :: vs, d :: ds, ps, ss, bs, Q, φ, hs, ht, hw, h, hb => by
    obtain ⟨p, q, ⟨fuel, h1⟩, h2, rfl⟩ := ht
    unfold kcShapes at hs
    split at hs
    · rename_i s ss' k1 k2
      simp only [Option.some.injEq] at hs; subst hs
      obtain ⟨qq, ks⟩ := s
      have hw0 := hw 0 t v (by simp) (by simp)
      have rest := fun {Q'} {bs'} {ψ} => argsB_open (enc := enc) (Q := Q') (bs := bs') (φ := ψ) k2 h2 (fun j u x hj hx => hw (j + 1) u x (by simpa using hj) (by simpa using hx))
      have agg : (∃ cs, v = .agg cs) → kcT P 20 t = some ks → qq = true → ∃ ags bs' ψ, φ.le ψ ∧ RoB w ψ bs' ∧ All2 (LV.rel ψ) ags (v :: vs) ∧ Q ags bs' := fun ⟨cs, hv⟩ hk hq => by
        subst hq hv
        have hcf := trod_kc 20 hk h1
        obtain ⟨l, bs', ψ, p1, p2, p3, p4⟩ := AllC.use h hcf hb
        obtain ⟨ags, bs'', χ, r1, r2, r3, r4⟩ := rest p4 p2
        exact ⟨.g l :: ags, bs'', χ, Phi.le_trans p1 r1, r2, .cons ⟨cs, rfl, p3.mono fun _ _ => At.rel_mono r1⟩ r3, r4⟩
      unfold kcShape at k1
      unfold Value.okWide at hw0
      split at k1
      · rename_i hu
        simp only [hu] at hw0
        obtain ⟨cs, e, _, _⟩ := hw0
        split at k1
        · rename_i ks' hk
          simp only [Option.some.injEq, Prod.mk.injEq] at k1
          obtain ⟨rfl, rfl⟩ := k1
          exact agg ⟨cs, e⟩ hk rfl
        · cases k1
      · rename_i hu
        simp only [hu] at hw0
        obtain ⟨cs, e, _, _⟩ := hw0
        split at k1
        · rename_i ks' hk
          simp only [Option.some.injEq, Prod.mk.injEq] at k1
          obtain ⟨rfl, rfl⟩ := k1
          exact agg ⟨cs, e⟩ hk rfl
        · cases k1
      · rename_i dd hne1 hne2 hu
        simp only [hu] at hw0
        have hwc : Cell.okWide P w r base t v := by
          cases dd <;> first | exact hw0 | exact absurd rfl (hne1 _) | exact absurd rfl (hne2 _ _)
        split at k1
        · rename_i k hk
          simp only [Option.some.injEq, Prod.mk.injEq] at k1
          obtain ⟨rfl, rfl⟩ := k1
          have hone : v.cells = #[v] := by
            cases v with
            | agg cs =>
              exfalso
              unfold Cell.okWide at hwc
              unfold kcT at hk
              cases dd <;> simp only [hu, reduceCtorEq] at hk hwc <;> first | exact absurd rfl (hne1 _) | exact absurd rfl (hne2 _ _) | (unfold Cell.ok at hwc; simp [hu] at hwc)
            | _ => rfl
          have hcf := trod_kc 20 hk h1
          obtain ⟨l, bs', ψ, p1, p2, p3, p4⟩ := AllC.use h hcf hb
          have hlen := p3.length
          have hlen2 := hcf.length
          match l, hlen with
          | [x], hlen =>
            obtain ⟨ags, bs'', χ, r1, r2, r3, r4⟩ := rest p4 p2
            refine ⟨.a x :: ags, bs'', χ, Phi.le_trans p1 r1, r2, .cons ?_ r3, r4⟩
            rw [hone] at p3
            cases p3 with
            | cons p _ => exact At.rel_mono r1 p
          | [], hlen => simp at hlen hlen2; omega
          | _ :: _ :: _, hlen => simp at hlen hlen2; omega
        · cases k1
      · cases k1
    · cases hs

theorem trodAll_stays' {H : Type} {enc : TypeId × Value → H} {P : Program} (hl : laidOutB P = true) {W W' : World} (hb : Below W.heap.size W W') {sp : Nat → Bool} : ∀ {ts : List TypeId} {vs : List Value} {ds : List (DataW H)} {ps : List MemPlace},
    (ts.all fun t => P.readableRec t && decide (t < P.types.size)) = true → DataW.TrodAll enc P W 0 (fun _ => true) true ts vs ds ps → (∀ p ∈ ps, p.block < W.heap.size) → (∀ p ∈ ps, sp p.block = true) →
    DataW.TrodAll enc P W' 0 sp true ts vs ds ps
  | [], [], [], ps, _, h, _, _ => h
  | [], [], _ :: _, ps, _, h, _, _ => h.elim
  | [], _ :: _, _, ps, _, h, _, _ => h.elim
  | t :: ts, [], _, ps, _, h, _, _ => h.elim
  | t :: ts, v :: vs, [], ps, _, h, _, _ => h.elim
  | t :: ts, v :: vs, d :: ds, ps, hr, h, hlt, hs => by
    obtain ⟨p, q, h1, h2, rfl⟩ := h
    simp only [List.all_cons, Bool.and_eq_true] at hr
    exact ⟨p, q, WideElems.Trod_stays hl hr.1.1 (of_decide_eq_true hr.1.2) h1 (fun x hx => hb.same (hlt x (List.mem_append.2 (.inl hx)))) (fun x hx => hs x (List.mem_append.2 (.inl hx))),
      trodAll_stays' hl hb hr.2 h2 (fun x hx => hlt x (List.mem_append.2 (.inr hx))) (fun x hx => hs x (List.mem_append.2 (.inr hx))), rfl⟩

theorem trodAll_len {H : Type} {enc : TypeId × Value → H} {P : Program} {W : World} {sp : Nat → Bool} {hd : Bool} : ∀ {ts : List TypeId} {vs : List Value} {ds : List (DataW H)} {ps : List MemPlace},
    DataW.TrodAll enc P W 0 sp hd ts vs ds ps → ds.length = ts.length
  | [], [], [], ps, _ => rfl
  | [], [], _ :: _, ps, h => h.elim
  | [], _ :: _, _, ps, h => h.elim
  | t :: ts, [], _, ps, h => h.elim
  | t :: ts, v :: vs, [], ps, h => h.elim
  | t :: ts, v :: vs, d :: ds, ps, h => by
    obtain ⟨p, q, _, h2, _⟩ := h
    simp [trodAll_len h2]

/-- The row's step for a law whose arguments hold slices: whatever the arguments, it returns true. -/
theorem law_liftedB {C : Checked} {os : Os} (started : os.Started) {H : Type} (enc : TypeId × Value → H) {f : Nat} {fn : Func} {s : ChangeSpec} {ss : List (Bool × List Kc)} {tb : TypeId}
    (own : ownKnob C.prog.godebug = none) (hi : C.prog.inits.idxOf? f = none) (hf : C.prog.funcs[f]? = some fn) (hv : s.vars = [])
    (hfn : ∀ ds : List (DataW H), ds.length = fn.params.toList.length → s.fn H (ds ++ []) = { results := [.lit (.bool true)], args := ds })
    (hlo : laidOutB C.prog = true) (hp : (fn.params.toList.all fun t => C.prog.readableRec t && decide (t < C.prog.types.size)) = true) (hs : kcShapes C.prog fn.params.toList = some ss) (hr : fn.resultTypes = #[tb]) (htb : C.prog.underlying tb = some .bool)
    (wit : ∃ (w : World) (tape : Tape) (i : Input), w.os = os ∧ World.Shaped C.prog (w.forCall tape i) ∧ i.vars = [] ∧ Input.okWide C.prog (w.forCall tape i) Reach.any w.heap.size f i ∧
      ChangeSpec.pre6 enc C.prog fn s [] false (w.forCall tape i).memory i.args ∧ Assume.holds {} C.prog (lone (Frame.enter C.prog f i.args CallKind.normal) [] (w.forCall tape i)))
    (core : AllB ss [] fun ags bs => ∀ (vs : Array Value) (w : World) (φ : Phi), All2 (LV.rel φ) ags vs.toList → (∀ out, MR w (fun _ => False) φ (memOf bs) (hdsIn bs out) (fun b => bs.length ≤ b) w) → Calls C.prog f vs w fun e w' => e = .returned (.bool true) ∧ Grows w w') :
    ReturnsInHanded {} C os f .any (s.pre6 enc C.prog fn [] false) (s.post enc C.prog fn false true false false) := by
  refine returnsInHanded_of_change own started hi hf wit ?_
  intro W base args ds gs before hval hW hcnd _
  have hW' := hW
  obtain ⟨p, q, hA, hV, rfl, hfz, hnd⟩ := hW
  rw [hv] at hV
  obtain ⟨rfl, rfl⟩ := trodVars_none hV
  have hlt : ∀ x ∈ p, x.block < W.heap.size := fun x hx => by simpa using hW'.lt x (List.mem_append.2 (.inl hx))
  obtain ⟨ags, bs, φ, _, a0, a1, a2⟩ := argsB_open hs hA (fun j t v h1 h2 => hval j t v (by simpa using h1) (by simpa using h2)) core (RoB.nil W)
  have hdl : ds.length = fn.params.toList.length := trodAll_len hA
  refine (a2 args W φ a1 (fun out => a0.mr out)).mono fun e W' ⟨he, hg⟩ => ?_
  subst he
  have e1 := hfn ds hdl
  refine ⟨_, rfl, post_of_same (pa := p) (pv := []) hW' ?_ ?_ ?_ rfl (hg.below.frame _) hg.frz ?_⟩
  · intro b sp hd
    rw [e1, hr]
    exact trodAll_cons_mk (shut_bool htb _) trodAll_mk0
  · intro sp hsp
    rw [e1]
    exact trodAll_stays' hlo hg.below hp hA hlt (fun x hx => hsp x (List.mem_append.2 (.inl hx)))
  · intro sp _
    rw [hv, e1]
    exact rfl
  · exact ok_one hr rfl (okWide_bool_mk htb _)

theorem law_coreB {P : Program} {f : Nat} {c : Con} (hc : ConOK P f c) {args : List LV} {bs : List BC} {obs : List Prop} {m b : Bool} {out : List (Option BC)} (he : c args bs = some (obs, .a (.bool m b), out)) (ho : Alls obs) (hb : b = true) (vs : Array Value) (w : World) (φ : Phi)
    (h : All2 (LV.rel φ) args vs.toList) (hM : ∀ out, MR w (fun _ => False) φ (memOf bs) (hdsIn bs out) (fun b => bs.length ≤ b) w) : Calls P f vs w fun e w' => e = .returned (.bool true) ∧ Grows w w' := by
  refine (hc _ _ _ _ _ he ho φ vs w (fun _ => False) h (hM out)).mono fun e w' hh => ?_
  obtain ⟨v', φ', rfl, _, hv, hm⟩ := hh
  have hv' : v' = .bool b := hv
  exact ⟨by rw [hv', hb], ⟨hm.os, hm.tape, hm.output, hm.size, fun k hk => hm.block k hk id⟩, hm.frz⟩

end Go.Proofs.Ytcdejlgophpdjaa.V
end

section
namespace Go.Proofs.Ytcdejlgophpdjaa
open Go Go.RowKit Go.Proofs.Ytcdejlgophpdjaa.V
set_option linter.unusedVariables false
set_option linter.unusedSectionVars false

namespace Vm

/-- What Program is told. -/
structure Sb (l : List (List Int)) : Prop where
  f : ∀ i j, j < 4 → 0 ≤ rget l i j ∧ rget l i j ≤ 255
  m : ∀ i, -32768 ≤ rget l i 4 ∧ rget l i 4 ≤ 32767

theorem fit_get {s : List (List Int)} {sh : List Kd} (p : ∀ row ∈ s, RowFit sh row) {j : Nat} {kd : IntKind} (hj : sh[j]? = some (.int kd)) (i : Nat) : rget s i j = 0 ∨ (IntKind.min kd ≤ rget s i j ∧ rget s i j ≤ IntKind.max kd) := by
  unfold rget
  cases h : s[i]? with
  | none =>
    have : s.getD i [] = [] := by rw [List.getD_eq_getElem?_getD, h]; rfl
    rw [this]; exact .inl rfl
  | some row =>
    have : s.getD i [] = row := by rw [List.getD_eq_getElem?_getD, h]; rfl
    rw [this]
    obtain ⟨a, b⟩ := p row (List.mem_of_getElem? h)
    have hl : j < row.length := by
      rw [a]; exact (List.getElem?_eq_some_iff.1 hj).1
    have e : row[j]? = some row[j] := List.getElem?_eq_getElem hl
    have e' : row.getD j 0 = row[j] := by rw [List.getD_eq_getElem?_getD, e]; rfl
    rw [e']
    exact .inr (b j (.int kd) _ hj e)
theorem sb_of {l : List (List Int)} (p : ∀ row ∈ l, RowFit [.int .u8, .int .u8, .int .u8, .int .u8, .int .i16, .bool] row) : Sb l := by
  have m8 : IntKind.min .u8 = 0 := rfl
  have M8 : IntKind.max .u8 = 255 := rfl
  have m16 : IntKind.min .i16 = -32768 := rfl
  have M16 : IntKind.max .i16 = 32767 := rfl
  refine ⟨fun i j hj => ?_, fun i => ?_⟩
  · match j, hj with
    | 0, _ => have := fit_get p (j := 0) (kd := .u8) rfl i; omega
    | 1, _ => have := fit_get p (j := 1) (kd := .u8) rfl i; omega
    | 2, _ => have := fit_get p (j := 2) (kd := .u8) rfl i; omega
    | 3, _ => have := fit_get p (j := 3) (kd := .u8) rfl i; omega
  · have := fit_get p (j := 4) (kd := .i16) rfl i; omega

theorem rp_app {p : List (List Int)} (R : Rp p) (hl : p.length < 20) {o d a b m : Int} (ho : 0 ≤ o ∧ o < 15) (hd : 0 ≤ d ∧ d < 12) (ha : 0 ≤ a ∧ a < 9) (hb : 0 ≤ b ∧ b < 12) (hm : -32768 ≤ m ∧ m ≤ 32767) : Rp (p ++ [[o, d, a, b, m]]) := by
  refine ⟨by rw [List.length_append, List.length_singleton]; omega, fun k hk => ?_⟩
  rw [List.length_append, List.length_singleton] at hk
  by_cases h : k < p.length
  · have f := R.f k h
    refine ⟨?_, ?_, ?_, ?_, ?_⟩ <;> rw [rget_app, if_pos h]
    · exact f.op
    · exact f.dst
    · exact f.a
    · exact f.b
    · exact f.m
  · have h' : k = p.length := by omega
    refine ⟨?_, ?_, ?_, ?_, ?_⟩ <;> rw [rget_app, if_neg h, if_pos h']
    · exact ho
    · exact hd
    · exact ha
    · exact hb
    · exact hm
theorem set_app (p : List (List Int)) (r s : List Int) : (p ++ [r]).set p.length s = p ++ [s] := by
  rw [List.set_append_right _ _ (Nat.le_refl _), Nat.sub_self]; rfl
theorem rset_app (p : List (List Int)) (o d a b m b' m' : Int) : rset (rset (p ++ [[o, d, a, b, m]]) p.length 3 [b']) p.length 4 [m'] = p ++ [[o, d, a, b', m']] := by
  have e : ∀ r : List Int, (p ++ [r]).getD p.length [] = r := fun r => by rw [getD_app, if_neg (Nat.lt_irrefl _), if_pos rfl]
  unfold rset
  rw [e, set_app, e, set_app]; rfl

theorem pr1_run {l : List (List Int)} (S : Sb l) (d : Bool) {n : Nat} (hn : n ≤ 9223372036854775807) :
    (∃ x v', pPr_s0 n d l = some (x, v') ∧ v'.a0 = d ∧ Rp v'.a5 ∧ v'.a5.length = min n 20) ∧ lok pPr_l29_st 18446744073709551616 (pPr_l29_T.mk d n (Int.ofNat n) 0 l []) := by
  obtain ⟨⟨x, v', e, hx, Q⟩, ok⟩ := mr_run (st := pPr_l29_st) (I := fun D v => ∃ (k : Nat) (out : List (List Int)), v = pPr_l29_T.mk d n (Int.ofNat n) (k : Int) l out ∧ k ≤ n ∧ D = n - k ∧ Rp out ∧ out.length = min k 20)
    (R := fun x v' => v'.a0 = d ∧ Rp v'.a5 ∧ v'.a5.length = min n 20) (by
      rintro D v ⟨k, out, rfl, hk, hD, R, hl⟩
      have s0 : pPr_l29_s0 (pPr_l29_T.mk d n (Int.ofNat n) (k : Int) l out) = decide (k < n) := by
        unfold pPr_l29_s0
        exact decide_eq_decide.2 (show (k : Int) < (n : Int) ↔ k < n by omega)
      have s1 : pPr_l29_s1 (pPr_l29_T.mk d n (Int.ofNat n) (k : Int) l out) = decide (k < 20) := by
        unfold pPr_l29_s1
        exact decide_eq_decide.2 (show (k : Int) < 20 ↔ k < 20 by omega)
      have f0 := S.f k 0 (by omega)
      have f1 := S.f k 1 (by omega)
      have f2 := S.f k 2 (by omega)
      have f3 := S.f k 3 (by omega)
      have f4 := S.m k
      have s2 : pPr_l29_s2 (pPr_l29_T.mk d n (Int.ofNat n) (k : Int) l out) = rget l k 3 := by
        unfold pPr_l29_s2
        show rget l (0 + Int.toNat (k : Int)) 3 = _
        rw [Nat.zero_add, Int.toNat_natCast]
      have s3 : pPr_l29_s3 (pPr_l29_T.mk d n (Int.ofNat n) (k : Int) l out) = rget l k 4 := by
        unfold pPr_l29_s3
        show rget l (0 + Int.toNat (k : Int)) 4 = _
        rw [Nat.zero_add, Int.toNat_natCast]
      have s4 : pPr_l29_s4 (pPr_l29_T.mk d n (Int.ofNat n) (k : Int) l out) = out ++ [[rget l k 0 % 15, rget l k 1 % 12, rget l k 2 % 9, rget l k 3 % 12, rget l k 4]] := by
        unfold pPr_l29_s4
        rw [s2, s3]
        show out ++ [[Int.tmod (rget l (0 + Int.toNat (k : Int)) 0) 15, Int.tmod (rget l (0 + Int.toNat (k : Int)) 1) 12, Int.tmod (rget l (0 + Int.toNat (k : Int)) 2) 9, _, _]] = _
        rw [Nat.zero_add, Int.toNat_natCast, Int.tmod_eq_emod_of_nonneg f0.1, Int.tmod_eq_emod_of_nonneg f1.1, Int.tmod_eq_emod_of_nonneg f2.1, Int.tmod_eq_emod_of_nonneg f3.1]
      have hlen : (pPr_l29_s4 (pPr_l29_T.mk d n (Int.ofNat n) (k : Int) l out)).length = min k 20 + 1 := by
        rw [s4, List.length_append, List.length_singleton, hl]
      refine ⟨?_, ?_⟩
      · unfold pPr_l29_st
        rw [s0, s1]
        refine ⟨fun h => ?_, fun _ _ => ?_, fun _ h => ?_, trivial⟩
        · have := of_decide_eq_true h
          show (0 : Int) ≤ (k : Int) ∧ (k : Int) < (n : Int)
          omega
        · rw [hlen]; omega
        · have := of_decide_eq_true h
          rw [hlen]
          show (0 : Int) ≤ (k : Int) ∧ (k : Int) < ((min k 20 + 1 : Nat) : Int)
          omega
      · unfold pPr_l29_st
        rw [s0]
        by_cases h : k < n
        · rw [decide_eq_true h]
          have e1 : IntKind.wrap .i64 ((k : Int) + 1) = ((k + 1 : Nat) : Int) := by rw [w64_in (by omega) (by omega)]; rfl
          rw [s1, s2, s3]
          refine .inl ⟨pPr_l29_T.mk d n (Int.ofNat n) ((k + 1 : Nat) : Int) l (bif decide (k < 20) then bif (bif rget (out ++ [[rget l k 0 % 15, rget l k 1 % 12, rget l k 2 % 9, rget l k 3 % 12, rget l k 4]]) k 0 == 12 then true else rget (out ++ [[rget l k 0 % 15, rget l k 1 % 12, rget l k 2 % 9, rget l k 3 % 12, rget l k 4]]) k 0 == 11) then out ++ [[rget l k 0 % 15, rget l k 1 % 12, rget l k 2 % 9, IntKind.wrap .u8 (1 + Int.tmod (rget l k 3) 4), IntKind.wrap .i16 (1 + IntKind.wrap .i16 (Int.ofNat (Int.toNat (rget l k 4 % pPr_l29_s5) &&& Int.toNat (3 % pPr_l29_s5))))]] else out ++ [[rget l k 0 % 15, rget l k 1 % 12, rget l k 2 % 9, rget l k 3 % 12, rget l k 4]] else out), n - (k + 1), ?_, by omega, k + 1, _, rfl, by omega, rfl, ?_, ?_⟩
          · rw [s4]
            show some (X.n, pPr_l29_T.mk d n (Int.ofNat n) (IntKind.wrap .i64 ((k : Int) + 1)) l (bif decide (k < 20) then bif (bif rget _ (Int.toNat (k : Int)) 0 == 12 then true else rget _ (Int.toNat (k : Int)) 0 == 11) then rset (rset _ (Int.toNat (k : Int)) 3 _) (Int.toNat (k : Int)) 4 _ else _ else out)) = _
            rw [e1, Int.toNat_natCast]
            by_cases q : k < 20
            · have hk' : k = out.length := by omega
              rw [decide_eq_true q]
              simp only [cond_true]
              congr 3
              rw [show rset (rset (out ++ [[rget l k 0 % 15, rget l k 1 % 12, rget l k 2 % 9, rget l k 3 % 12, rget l k 4]]) k 3 [IntKind.wrap .u8 (1 + Int.tmod (rget l k 3) 4)]) k 4 [IntKind.wrap .i16 (1 + IntKind.wrap .i16 (Int.ofNat (Int.toNat (rget l k 4 % pPr_l29_s5) &&& Int.toNat (3 % pPr_l29_s5))))] = rset (rset (out ++ [[rget l k 0 % 15, rget l k 1 % 12, rget l k 2 % 9, rget l k 3 % 12, rget l k 4]]) out.length 3 [IntKind.wrap .u8 (1 + Int.tmod (rget l k 3) 4)]) out.length 4 [IntKind.wrap .i16 (1 + IntKind.wrap .i16 (Int.ofNat (Int.toNat (rget l k 4 % pPr_l29_s5) &&& Int.toNat (3 % pPr_l29_s5))))] by rw [← hk'], rset_app]
            · rw [decide_eq_false q]; rfl
          · by_cases q : k < 20
            · rw [decide_eq_true q]
              have lo : out.length < 20 := by omega
              have hb' : 0 ≤ IntKind.wrap .u8 (1 + Int.tmod (rget l k 3) 4) ∧ IntKind.wrap .u8 (1 + Int.tmod (rget l k 3) 4) < 12 := by
                rw [Int.tmod_eq_emod_of_nonneg f3.1, wu8]; omega
              have hm' : -32768 ≤ IntKind.wrap .i16 (1 + IntKind.wrap .i16 (Int.ofNat (Int.toNat (rget l k 4 % pPr_l29_s5) &&& Int.toNat (3 % pPr_l29_s5)))) ∧ IntKind.wrap .i16 (1 + IntKind.wrap .i16 (Int.ofNat (Int.toNat (rget l k 4 % pPr_l29_s5) &&& Int.toNat (3 % pPr_l29_s5)))) ≤ 32767 := by
                have e : pPr_l29_s5 = 65536 := by decide
                rw [e]
                have := and3 (rget l k 4) 65536 (.inr rfl)
                generalize Int.toNat (rget l k 4 % 65536) &&& Int.toNat (3 % 65536) = z at this
                match z, this with
                | 0, _ => decide
                | 1, _ => decide
                | 2, _ => decide
                | 3, _ => decide
              simp only [cond_true]
              cases (bif rget (out ++ [[rget l k 0 % 15, rget l k 1 % 12, rget l k 2 % 9, rget l k 3 % 12, rget l k 4]]) k 0 == 12 then true else rget (out ++ [[rget l k 0 % 15, rget l k 1 % 12, rget l k 2 % 9, rget l k 3 % 12, rget l k 4]]) k 0 == 11)
              · exact rp_app R lo (by omega) (by omega) (by omega) (by omega) (by omega)
              · exact rp_app R lo (by omega) (by omega) (by omega) hb' hm'
            · rw [decide_eq_false q]; exact R
          · by_cases q : k < 20
            · rw [decide_eq_true q]
              simp only [cond_true]
              cases (bif rget (out ++ [[rget l k 0 % 15, rget l k 1 % 12, rget l k 2 % 9, rget l k 3 % 12, rget l k 4]]) k 0 == 12 then true else rget (out ++ [[rget l k 0 % 15, rget l k 1 % 12, rget l k 2 % 9, rget l k 3 % 12, rget l k 4]]) k 0 == 11) <;>
              · simp only [cond_true, cond_false]
                rw [List.length_append, List.length_singleton]; omega
            · rw [decide_eq_false q]
              show out.length = _
              omega
        · rw [decide_eq_false h]
          obtain rfl : k = n := by omega
          exact .inr ⟨.e 0, _, by simp, rfl, rfl, R, hl⟩)
    18446744073709551616 n _ ⟨0, [], rfl, Nat.zero_le _, rfl, ⟨by simp, fun i h => by simp at h⟩, rfl⟩ (by omega)
  exact ⟨⟨x, v', e, Q⟩, ok⟩

theorem pr_spec {l : List (List Int)} (S : Sb l) (d : Bool) {n : Nat} (hn : n ≤ 9223372036854775807) :
    Rp (pPr_0 n d l) ∧ (pPr_0 n d l).length = min n 20 ∧ pCh_0 d (pPr_0 n d l) = 0 ∧ lok pPr_l29_st 18446744073709551616 (pPr_l29_T.mk d n (Int.ofNat n) 0 l []) ∧
    lok pPr_l61_st 18446744073709551616 (pPr_l61_T.mk (pPr_l29_T.a0 (V.valOf (pPr_s0 n d l))) 0 (pPr_l29_T.a5 (V.valOf (pPr_s0 n d l)))) := by
  obtain ⟨⟨x, v', e, e0, R, hl⟩, ok⟩ := pr1_run S d hn
  unfold pPr_0
  rw [e]
  have g0 : pPr_l29_T.a0 (V.valOf (some (x, v'))) = d := e0
  rw [g0]
  obtain ⟨⟨y, u, e2, R2, hl2, c2⟩, ok2⟩ := fix_run (d := d) R
  have e2' : lrun pPr_l61_st 18446744073709551616 (pPr_l61_T.mk d 0 (pPr_l29_T.a5 (V.valOf (some (x, v'))))) = some (y, u) := e2
  rw [e2']
  exact ⟨R2, hl2.trans hl, c2, ok, ok2⟩

section
variable {p : List (List Int)} (B : Pb p)
include B
/-- What a run asks for, and what it takes. -/
theorem run_lok (g : List (List Int)) (h : vRun_s0 p = true) : lok vRa5_l13_st 18446744073709551616 (vRa5_l13_T.mk (Int.ofNat p.length) false 0 g false 0 p) := by
  have h0 : pCh_0 true p = 0 := beq_iff_eq.1 h
  exact (top_run (ok_of B h0) ((ch_spec B true).1 h0).2.2 ⟨g, false, 0⟩ rfl).1
theorem run_st (g : List (List Int)) : (bif vRun_s0 p then vRa5_3 0 (Int.ofNat p.length) g false 0 p else 0) ≤ pFu_0 p := by
  have F0 := Fs_bd B p.length
  rw [(fu_spec B).1]
  cases h : vRun_s0 p with
  | false => show (0 : Int) ≤ _; omega
  | true =>
    have h0 : pCh_0 true p = 0 := beq_iff_eq.1 h
    have := top_run (ok_of B h0) ((ch_spec B true).1 h0).2.2 ⟨g, false, 0⟩ rfl
    show vRa5_3 0 (Int.ofNat p.length) g false 0 p ≤ _
    rw [this.2.2.2.2.1]
    exact this.2.2.2.2.2.2
end

theorem awake : vAw_0 = true := by kernel_rfl
theorem aw_rp : Rp vAw_s1 := by
  refine ⟨by decide, fun i h => ?_⟩
  match i, h with
  | 0, _ => exact ⟨by decide, by decide, by decide, by decide, by decide⟩
theorem aw_pb : Pb vAw_s1 := aw_rp.pb

theorem fwi_bd (x : Int) : -4194304 ≤ fWi_0 x 4194304 ∧ fWi_0 x 4194304 ≤ 4194304 := by
  have e : fWi_s1 4194304 = -4194304 := by decide
  unfold fWi_0 fWi_s0
  rw [e]
  split <;> split <;> omega
theorem col_bd (x : Int) : 0 ≤ vCol_0 x ∧ vCol_0 x ≤ 65536 := by
  unfold vCol_0 vCol_s0
  split <;> split <;> omega
theorem col_col (x : Int) : vCol_0 (vCol_0 x) = vCol_0 x := by
  have := col_bd x
  generalize vCol_0 x = y at this
  unfold vCol_0 vCol_s0
  split <;> split <;> omega
theorem col1 : vCol_1 = vCol_0 := rfl
theorem col2 : vCol_2 = vCol_0 := rfl
theorem col3 : vCol_3 = vCol_0 := rfl
end Vm

end Go.Proofs.Ytcdejlgophpdjaa
end

section
namespace Go.Proofs.Ytcdejlgophpdjaa
open Go Go.RowKit Go.Proofs.Ytcdejlgophpdjaa.V
set_option linter.unusedVariables false
set_option linter.unusedSectionVars false

namespace Vm
theorem both {p : List (List Int)} (B : Pb p) (h : pCh_0 true p = 0) (z : List Int) :
    vRun_s3 z p = r7Ru2_0 0 (Int.ofNat (pRef_0 p).length) (pRef_0 p) (rowsOf rCl_0 z) false false 0 ∧
    vRun_48 z p = r7Ru2_1 0 (Int.ofNat (pRef_0 p).length) (pRef_0 p) (rowsOf rCl_0 z) false false 0 ∧
    vRun_49 z p = r7Ru2_3 0 (Int.ofNat (pRef_0 p).length) (pRef_0 p) (rowsOf rCl_0 z) false false 0 ∧
    lok r7Ru2_l3_st 18446744073709551616 (r7Ru2_l3_T.mk (Int.ofNat (pRef_0 p).length) 0 (pRef_0 p) (rowsOf rCl_0 z) false false 0) := by
  have O := ok_of B h
  have F := ((ch_spec B true).1 h).2.2
  obtain ⟨Q, -⟩ := ref_spec B
  obtain ⟨ok, v', e, e3, e4, e6, -⟩ := ref_top O Q F ⟨rowsOf rCl_0 z, false, 0⟩ rfl (rows_rg z)
  obtain ⟨-, -, a1, a2, a3, -, -⟩ := top_run O F ⟨rowsOf rCl_0 z, false, 0⟩ rfl
  have s0 : vRun_s0 p = true := beq_iff_eq.2 h
  rw [Q.len]
  unfold vRun_s3 vRun_48 vRun_49 r7Ru2_0 r7Ru2_1 r7Ru2_3
  rw [s0, run_rows]
  simp only at a1 a2 a3 e e3 e4 e6
  rw [e]
  exact ⟨a1.trans e3.symm, a2.trans e4.symm, a3.trans e6.symm, ok⟩
end Vm

end Go.Proofs.Ytcdejlgophpdjaa
end

section
namespace Go.Proofs.Ytcdejlgophpdjaa
open Go Go.RowKit Go.Proofs.Ytcdejlgophpdjaa.V
set_option linter.unusedVariables false
set_option linter.unusedSectionVars false

namespace Vm
theorem run_rg2 {p : List (List Int)} (B : Pb p) (h : pCh_0 true p = 0) (z : List Int) : Rg (vRun_s3 z p) := by
  have O := ok_of B h
  have F := ((ch_spec B true).1 h).2.2
  obtain ⟨Q, -⟩ := ref_spec B
  obtain ⟨-, v', -, -, -, -, R⟩ := ref_top O Q F ⟨rowsOf rCl_0 z, false, 0⟩ rfl (rows_rg z)
  obtain ⟨-, -, a1, -, -, -, -⟩ := top_run O F ⟨rowsOf rCl_0 z, false, 0⟩ rfl
  have s0 : vRun_s0 p = true := beq_iff_eq.2 h
  unfold vRun_s3
  rw [s0, run_rows]
  simp only at a1
  show Rg (vRa5_1 0 (Int.ofNat p.length) (rowsOf rCl_0 z) false 0 p)
  rw [a1]
  exact R
theorem rows_id {g : List (List Int)} (R : Rg g) : [[rget g 0 0, rget g 0 1, rget g 0 2, rget g 0 3], [rget g 1 0, rget g 1 1, rget g 1 2, rget g 1 3], [rget g 2 0, rget g 2 1, rget g 2 2, rget g 2 3], [rget g 3 0, rget g 3 1, rget g 3 2, rget g 3 3], [rget g 4 0, rget g 4 1, rget g 4 2, rget g 4 3], [rget g 5 0, rget g 5 1, rget g 5 2, rget g 5 3], [rget g 6 0, rget g 6 1, rget g 6 2, rget g 6 3], [rget g 7 0, rget g 7 1, rget g 7 2, rget g 7 3], [rget g 8 0, rget g 8 1, rget g 8 2, rget g 8 3], [rget g 9 0, rget g 9 1, rget g 9 2, rget g 9 3], [rget g 10 0, rget g 10 1, rget g 10 2, rget g 10 3], [rget g 11 0, rget g 11 1, rget g 11 2, rget g 11 3]] = g := by
  have h12 : [g.getD 0 [], g.getD 1 [], g.getD 2 [], g.getD 3 [], g.getD 4 [], g.getD 5 [], g.getD 6 [], g.getD 7 [], g.getD 8 [], g.getD 9 [], g.getD 10 [], g.getD 11 []] = g := by
    have := R.len
    match g, this with
    | [a0, a1, a2, a3, a4, a5, a6, a7, a8, a9, a10, a11], _ => rfl
  conv => rhs; rw [← h12]
  rw [R.four (d := 0) (by decide), R.four (d := 1) (by decide), R.four (d := 2) (by decide), R.four (d := 3) (by decide), R.four (d := 4) (by decide), R.four (d := 5) (by decide), R.four (d := 6) (by decide), R.four (d := 7) (by decide), R.four (d := 8) (by decide), R.four (d := 9) (by decide), R.four (d := 10) (by decide), R.four (d := 11) (by decide)]
theorem run_id {p : List (List Int)} (B : Pb p) (h : pCh_0 true p = 0) (z : List Int) : [[vRun_0 z p, vRun_1 z p, vRun_2 z p, vRun_3 z p], [vRun_4 z p, vRun_5 z p, vRun_6 z p, vRun_7 z p], [vRun_8 z p, vRun_9 z p, vRun_10 z p, vRun_11 z p], [vRun_12 z p, vRun_13 z p, vRun_14 z p, vRun_15 z p], [vRun_16 z p, vRun_17 z p, vRun_18 z p, vRun_19 z p], [vRun_20 z p, vRun_21 z p, vRun_22 z p, vRun_23 z p], [vRun_24 z p, vRun_25 z p, vRun_26 z p, vRun_27 z p], [vRun_28 z p, vRun_29 z p, vRun_30 z p, vRun_31 z p], [vRun_32 z p, vRun_33 z p, vRun_34 z p, vRun_35 z p], [vRun_36 z p, vRun_37 z p, vRun_38 z p, vRun_39 z p], [vRun_40 z p, vRun_41 z p, vRun_42 z p, vRun_43 z p], [vRun_44 z p, vRun_45 z p, vRun_46 z p, vRun_47 z p]] = vRun_s3 z p := rows_id (run_rg2 B h z)

theorem ru_run (b gn ov gn' : Bool) (p G : List (List Int)) (st st' : Int) :
    (∃ v, lrun lVmRu_l16381_st 18446744073709551616 (lVmRu_l16381_T.mk b 0 p G gn ov st G gn' st') = some (.e 2, v)) ∧ lok lVmRu_l16381_st 18446744073709551616 (lVmRu_l16381_T.mk b 0 p G gn ov st G gn' st') := by
  obtain ⟨⟨c, v', e, hx, rfl⟩, ok⟩ := mr_run (st := lVmRu_l16381_st) (I := fun D v => ∃ k : Nat, v = lVmRu_l16381_T.mk b (k : Int) p G gn ov st G gn' st' ∧ k ≤ 12 ∧ D = 12 - k)
    (R := fun c v => c = .e 2) (by
      rintro D v ⟨k, rfl, hk, hD⟩
      have s0 : lVmRu_l16381_s0 (lVmRu_l16381_T.mk b (k : Int) p G gn ov st G gn' st') = decide (k < 12) := by
        unfold lVmRu_l16381_s0
        exact decide_eq_decide.2 (show (k : Int) < 12 ↔ k < 12 by omega)
      have s1 : lVmRu_l16381_s1 (lVmRu_l16381_T.mk b (k : Int) p G gn ov st G gn' st') = false := by
        unfold lVmRu_l16381_s1
        show (!(rget G (Int.toNat (k : Int)) 0 == rget G (Int.toNat (k : Int)) 0 && (rget G (Int.toNat (k : Int)) 1 == rget G (Int.toNat (k : Int)) 1 && (rget G (Int.toNat (k : Int)) 2 == rget G (Int.toNat (k : Int)) 2 && rget G (Int.toNat (k : Int)) 3 == rget G (Int.toNat (k : Int)) 3)))) = false
        simp
      refine ⟨?_, ?_⟩
      · unfold lVmRu_l16381_st
        rw [s0]
        refine ⟨fun h => ?_, fun h => ?_, trivial⟩
        all_goals
          have := of_decide_eq_true h
          show (0 : Int) ≤ (k : Int) ∧ (k : Int) < 12
          omega
      · unfold lVmRu_l16381_st
        rw [s0, s1]
        by_cases h : k < 12
        · rw [decide_eq_true h]
          have e1 : IntKind.wrap .i64 ((k : Int) + 1) = ((k + 1 : Nat) : Int) := by rw [w64_in (by omega) (by omega)]; rfl
          refine .inl ⟨lVmRu_l16381_T.mk b ((k + 1 : Nat) : Int) p G gn ov st G gn' st', 12 - (k + 1), ?_, by omega, k + 1, rfl, by omega, rfl⟩
          rw [← e1]; rfl
        · rw [decide_eq_false h]
          exact .inr ⟨.e 2, _, by simp, rfl, rfl⟩)
    18446744073709551616 12 _ ⟨0, rfl, Nat.zero_le _, rfl⟩ (by omega)
  exact ⟨⟨v', e⟩, ok⟩
end Vm

theorem VmRuns_true (y0 : List (List Int)) (p0 : ∀ row ∈ y0, RowFit [.int .u8, .int .u8, .int .u8, .int .u8, .int .i16, .bool] row) (q0 : y0.length ≤ maxLen) (y1 : List (List Int)) (p1 : ∀ row ∈ y1, RowFit [.int .i32] row) (q1 : y1.length ≤ maxLen) (x2_0 : Int) (a2_0 : IntKind.min .i64 ≤ x2_0) (b2_0 : x2_0 ≤ IntKind.max .i64) (x2_1 : Int) (a2_1 : IntKind.min .i64 ≤ x2_1) (b2_1 : x2_1 ≤ IntKind.max .i64) (x2_2 : Int) (a2_2 : IntKind.min .i64 ≤ x2_2) (b2_2 : x2_2 ≤ IntKind.max .i64) (x2_3 : Int) (a2_3 : IntKind.min .i64 ≤ x2_3) (b2_3 : x2_3 ≤ IntKind.max .i64) : lVmRu_0 (List.length y0) (List.length y1) x2_0 x2_1 x2_2 x2_3 y0 y1 = true := by
  obtain ⟨l2_0, g2_0⟩ := bd_i64 a2_0 b2_0
  have w2_0 : IntKind.wrap .i64 x2_0 = x2_0 := w64_in (by omega) (by omega)
  obtain ⟨l2_1, g2_1⟩ := bd_i64 a2_1 b2_1
  have w2_1 : IntKind.wrap .i64 x2_1 = x2_1 := w64_in (by omega) (by omega)
  obtain ⟨l2_2, g2_2⟩ := bd_i64 a2_2 b2_2
  have w2_2 : IntKind.wrap .i64 x2_2 = x2_2 := w64_in (by omega) (by omega)
  obtain ⟨l2_3, g2_3⟩ := bd_i64 a2_3 b2_3
  have w2_3 : IntKind.wrap .i64 x2_3 = x2_3 := w64_in (by omega) (by omega)
  unfold lVmRu_0
  rw [Vm.awake]
  cases h0 : lVmRu_s0 (List.length y0) (List.length y1) with
  | true => rfl
  | false =>
  have hn : y0.length ≤ 9223372036854775807 := Nat.le_trans q0 (by decide)
  have P := Vm.pr_spec (Vm.sb_of p0) true hn
  have B := P.1.pb
  have c0 := P.2.2.1
  have e55 : lVmRu_s55 (List.length y1) x2_0 x2_1 x2_2 x2_3 y1 = Vm.rowsOf rCl_0 (lVmRu_s58 (List.length y1) x2_0 x2_1 x2_2 x2_3 y1) := (show lVmRu_s55 (List.length y1) x2_0 x2_1 x2_2 x2_3 y1 = r7St_s2 (lVmRu_s58 (List.length y1) x2_0 x2_1 x2_2 x2_3 y1) by kernel_rfl).trans (Vm.st_rows _)
  obtain ⟨b0, b1, b2, b3⟩ := Vm.both B c0 (lVmRu_s58 (List.length y1) x2_0 x2_1 x2_2 x2_3 y1)
  have bi := Vm.run_id B c0 (lVmRu_s58 (List.length y1) x2_0 x2_1 x2_2 x2_3 y1)
  obtain ⟨v, ev⟩ : ∃ v, lVmRu_s61 (List.length y0) (List.length y1) x2_0 x2_1 x2_2 x2_3 y0 y1 = some (.e 2, v) := by
    unfold lVmRu_s61
    rw [bi, e55]
    show ∃ v, lrun lVmRu_l16381_st 18446744073709551616 (lVmRu_l16381_T.mk false 0 _ (r7Ru2_0 0 (Int.ofNat (pRef_0 (pPr_0 (List.length y0) true y0)).length) (pRef_0 (pPr_0 (List.length y0) true y0)) (Vm.rowsOf rCl_0 (lVmRu_s58 (List.length y1) x2_0 x2_1 x2_2 x2_3 y1)) false false 0) _ _ _ (vRun_s3 (lVmRu_s58 (List.length y1) x2_0 x2_1 x2_2 x2_3 y1) (pPr_0 (List.length y0) true y0)) _ _) = some (.e 2, v)
    rw [← b0]
    exact (Vm.ru_run _ _ _ _ _ _ _ _).1
  have e62 : lVmRu_s62 (List.length y0) (List.length y1) x2_0 x2_1 x2_2 x2_3 y0 y1 = true := by
    unfold lVmRu_s62 lVmRu_s59 lVmRu_s56
    rw [e55]
    exact beq_iff_eq.2 b1
  have e63 : lVmRu_s63 (List.length y0) (List.length y1) x2_0 x2_1 x2_2 x2_3 y0 y1 = true := by
    unfold lVmRu_s63 lVmRu_s60 lVmRu_s57
    rw [e55]
    exact beq_iff_eq.2 b2
  have e64 : decide (lVmRu_s60 (List.length y0) (List.length y1) x2_0 x2_1 x2_2 x2_3 y0 y1 ≤ pFu_0 (pPr_0 (List.length y0) true y0)) = true := decide_eq_true (Vm.run_st B _)
  rw [ev, e62, e63, e64]; rfl

theorem VmRuns_obs (y0 : List (List Int)) (p0 : ∀ row ∈ y0, RowFit [.int .u8, .int .u8, .int .u8, .int .u8, .int .i16, .bool] row) (q0 : y0.length ≤ maxLen) (y1 : List (List Int)) (p1 : ∀ row ∈ y1, RowFit [.int .i32] row) (q1 : y1.length ≤ maxLen) (x2_0 : Int) (a2_0 : IntKind.min .i64 ≤ x2_0) (b2_0 : x2_0 ≤ IntKind.max .i64) (x2_1 : Int) (a2_1 : IntKind.min .i64 ≤ x2_1) (b2_1 : x2_1 ≤ IntKind.max .i64) (x2_2 : Int) (a2_2 : IntKind.min .i64 ≤ x2_2) (b2_2 : x2_2 ≤ IntKind.max .i64) (x2_3 : Int) (a2_3 : IntKind.min .i64 ≤ x2_3) (b2_3 : x2_3 ≤ IntKind.max .i64) : Alls (lVmRu_o (List.length y0) (List.length y1) x2_0 x2_1 x2_2 x2_3 y0 y1) := by
  obtain ⟨l2_0, g2_0⟩ := bd_i64 a2_0 b2_0
  have w2_0 : IntKind.wrap .i64 x2_0 = x2_0 := w64_in (by omega) (by omega)
  obtain ⟨l2_1, g2_1⟩ := bd_i64 a2_1 b2_1
  have w2_1 : IntKind.wrap .i64 x2_1 = x2_1 := w64_in (by omega) (by omega)
  obtain ⟨l2_2, g2_2⟩ := bd_i64 a2_2 b2_2
  have w2_2 : IntKind.wrap .i64 x2_2 = x2_2 := w64_in (by omega) (by omega)
  obtain ⟨l2_3, g2_3⟩ := bd_i64 a2_3 b2_3
  have w2_3 : IntKind.wrap .i64 x2_3 = x2_3 := w64_in (by omega) (by omega)
  have hn : y0.length ≤ 9223372036854775807 := Nat.le_trans q0 (by decide)
  have P := Vm.pr_spec (Vm.sb_of p0) true hn
  have B := P.1.pb
  have c0 := P.2.2.1
  have e55 : lVmRu_s55 (List.length y1) x2_0 x2_1 x2_2 x2_3 y1 = Vm.rowsOf rCl_0 (lVmRu_s58 (List.length y1) x2_0 x2_1 x2_2 x2_3 y1) := (show lVmRu_s55 (List.length y1) x2_0 x2_1 x2_2 x2_3 y1 = r7St_s2 (lVmRu_s58 (List.length y1) x2_0 x2_1 x2_2 x2_3 y1) by kernel_rfl).trans (Vm.st_rows _)
  obtain ⟨b0, b1, b2, b3⟩ := Vm.both B c0 (lVmRu_s58 (List.length y1) x2_0 x2_1 x2_2 x2_3 y1)
  have bi := Vm.run_id B c0 (lVmRu_s58 (List.length y1) x2_0 x2_1 x2_2 x2_3 y1)
  have A := Vm.aw_pb
  have cb := Vm.ch_obs B true
  refine ⟨rfl, (Vm.ch_obs A true).1, (Vm.ch_obs A true).2, fun h => Vm.run_lok A _ h, fun _ _ => P.2.2.2.1, fun _ _ _ => P.2.2.2.2, fun _ _ => (Vm.ref_spec B).2, fun _ _ => ?_, fun _ _ => cb.1, fun _ _ => cb.2, fun _ _ h => Vm.run_lok B _ h, fun _ _ => ?_, fun _ _ _ _ _ => (Vm.fu_spec B).2, trivial⟩
  · rw [e55]; exact b3
  · rw [bi, e55]
    show lok lVmRu_l16381_st 18446744073709551616 (lVmRu_l16381_T.mk false 0 _ (r7Ru2_0 0 (Int.ofNat (pRef_0 (pPr_0 (List.length y0) true y0)).length) (pRef_0 (pPr_0 (List.length y0) true y0)) (Vm.rowsOf rCl_0 (lVmRu_s58 (List.length y1) x2_0 x2_1 x2_2 x2_3 y1)) false false 0) _ _ _ (vRun_s3 (lVmRu_s58 (List.length y1) x2_0 x2_1 x2_2 x2_3 y1) (pPr_0 (List.length y0) true y0)) _ _)
    rw [← b0]
    exact (Vm.ru_run _ _ _ _ _ _ _ _).2

end Go.Proofs.Ytcdejlgophpdjaa
end

