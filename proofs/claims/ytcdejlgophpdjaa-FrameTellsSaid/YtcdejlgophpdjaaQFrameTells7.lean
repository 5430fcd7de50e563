/-
  From a contract of a law to the row's step, for laws whose arguments hold slices of numbers, bools, and structs and arrays of these.
-/
import Derived.Carry
import Derived.Deep.Slices
import Derived.Test.YtcdejlgophpdjaaQFrameTells6
section
namespace Go.Proofs.Ytcdejlgophpdjaa.V
open Go Go.RowKit Go.ChangeShapes Go.WideShapes Go.ChangeAt

/-- A cell's kind: a plain one's; a slice's, by the kinds of its elements' cells. -/
inductive Kc where
  | one (k : Kn)
  | slc (sh : List Kd)

def kdsKc : List Kc → Option (List Kd)
  | [] => some []
  | .one (.int k) :: r => match kdsKc r with
    | some l => some (.int k :: l)
    | none => none
  | .one .bool :: r => match kdsKc r with
    | some l => some (.bool :: l)
    | none => none
  | _ => none

def kcFs (P : Program) (rec : TypeId → Option (List Kc)) : Nat → List Field → Option (List Kc)
  | _, [] => some []
  | off, f :: fs => match rec f.type with
    | some ks => match Nat.beq f.offset off && Nat.beq ks.length (P.cellsOf f.type), kcFs P rec (off + ks.length) fs with
      | true, some r => some (ks ++ r)
      | _, _ => none
    | none => none

/-- A type's cells. -/
def kcT (P : Program) : Nat → TypeId → Option (List Kc)
  | 0, _ => none
  | d + 1, t => match P.underlying t with
    | some .bool => some [.one .bool]
    | some (.int k) => some [.one (.int k)]
    | some .string => some [.one .str]
    | some (.slice e) => match (kcT P d e).bind kdsKc with
      | some sh => match Nat.ble 1 sh.length && Nat.beq sh.length (P.cellsOf e) with
        | true => some [.slc sh]
        | false => none
      | none => none
    | some (.struct fs) => match kcFs P (kcT P d) 0 fs.toList with
      | some ks => match Nat.beq ks.length (P.cellsOf t) with
        | true => some ks
        | false => none
      | none => none
    | some (.array n e) => match kcT P d e with
      | some ks => match Nat.beq ks.length (P.cellsOf e) && Nat.beq (n * ks.length) (P.cellsOf t) with
        | true => some ((List.replicate n ks).flatten)
        | false => none
      | none => none
    | _ => none

def KdFit : Kd → Int → Prop
  | .int k, n => k.min ≤ n ∧ n ≤ k.max
  | .bool, n => n = 0 ∨ n = 1

def RowFit (sh : List Kd) (row : List Int) : Prop := row.length = sh.length ∧ ∀ (j : Nat) k n, sh[j]? = some k → row[j]? = some n → KdFit k n

/-- A slice's cells stand in the world. -/
def SlcIn (w : World) (sh : List Kd) (l : List (List Int)) (v : Value) : Prop :=
  ∃ a cap, v = .slice a l.length cap ∧ l.length ≤ cap ∧
    (l = [] ∨ ∃ r o arr ty fz, a = some ⟨r, o, none⟩ ∧ w.heap[r]? = some (.cells arr ty fz) ∧ RowsIn arr o ⟨0, sh, l, none⟩)

def CF (w : World) : Kc → Value → Prop
  | .one k, v => ∃ x : At, FitAt k x ∧ x.rel (fun _ => none) v
  | .slc sh, v => ∃ l : List (List Int), (∀ row ∈ l, RowFit sh row) ∧ l.length ≤ maxLen ∧ SlcIn w sh l v

theorem pick_list {α : Type} {p : Nat → α → Prop} : ∀ (n : Nat), (∀ i, i < n → ∃ x, p i x) → ∃ l : List α, l.length = n ∧ ∀ i x, l[i]? = some x → p i x
  | 0, _ => ⟨[], rfl, fun i x h => by simp at h⟩
  | n + 1, h => by
    obtain ⟨l, l1, l2⟩ := pick_list n fun i hi => h i (by omega)
    obtain ⟨x, hx⟩ := h n (by omega)
    refine ⟨l ++ [x], by simp [l1], fun i y hy => ?_⟩
    rw [List.getElem?_append] at hy
    split at hy
    · exact l2 i y hy
    · rename_i hi
      have e : i = n := by
        rcases Nat.lt_or_ge (i - l.length) 1 with h1 | h1
        · omega
        · rw [List.getElem?_eq_none (by simpa using h1)] at hy; cases hy
      subst e
      rw [l1, Nat.sub_self] at hy
      simp only [List.getElem?_cons_zero, Option.some.injEq] at hy
      subst hy; exact hx

theorem All2.get2 {α β : Type} {R : α → β → Prop} : ∀ {l : List α} {m : List β}, All2 R l m → ∀ {i : Nat} {x : α} {y : β}, l[i]? = some x → m[i]? = some y → R x y
  | _, _, .cons r _, 0, _, _, h, g => by simp at h g; subst h g; exact r
  | _, _, .cons _ a, i + 1, _, _, h, g => a.get2 (i := i) (by simpa using h) (by simpa using g)

/-- Cells of an element as a row. -/
theorem row_of {w : World} : ∀ {ks : List Kc} {sh : List Kd} {cs : List Value}, kdsKc ks = some sh → All2 (CF w) ks cs →
    ∃ row : List Int, RowFit sh row ∧ cs.length = sh.length ∧ ∀ (j : Nat) k n, sh[j]? = some k → row[j]? = some n → cs[j]? = some (k.val n)
  | [], sh, cs, h, hl => by
    simp only [kdsKc, Option.some.injEq] at h; subst h
    cases hl
    exact ⟨[], ⟨rfl, fun j k n h => by simp at h⟩, rfl, fun j k n h => by simp at h⟩
  | .one (.int kk) :: ks, sh, cs, h, hl => by
    unfold kdsKc at h
    split at h
    · rename_i l hk
      simp only [Option.some.injEq] at h; subst h
      cases hl with
      | cons a b =>
        obtain ⟨x, ⟨n, rfl, h1, h2⟩, hv⟩ := a
        obtain ⟨row, ⟨r1, r2⟩, r3, r4⟩ := row_of hk b
        have hv' : _ = Value.int kk n := hv
        refine ⟨n :: row, ⟨by simp [r1], fun j k m g1 g2 => ?_⟩, by simp [r3], fun j k m g1 g2 => ?_⟩
        · cases j with
          | zero => simp at g1 g2; subst g1 g2; exact ⟨h1, h2⟩
          | succ j => exact r2 j k m (by simpa using g1) (by simpa using g2)
        · cases j with
          | zero => simp at g1 g2; subst g1 g2; simp [hv', Kd.val]
          | succ j => simpa using r4 j k m (by simpa using g1) (by simpa using g2)
    · cases h
  | .one .bool :: ks, sh, cs, h, hl => by
    unfold kdsKc at h
    split at h
    · rename_i l hk
      simp only [Option.some.injEq] at h; subst h
      cases hl with
      | cons a b =>
        obtain ⟨x, ⟨n, rfl⟩, hv⟩ := a
        obtain ⟨row, ⟨r1, r2⟩, r3, r4⟩ := row_of hk b
        have hv' : _ = Value.bool n := hv
        refine ⟨(bif n then 1 else 0) :: row, ⟨by simp [r1], fun j k m g1 g2 => ?_⟩, by simp [r3], fun j k m g1 g2 => ?_⟩
        · cases j with
          | zero => simp at g1 g2; subst g1 g2; cases n <;> simp [KdFit]
          | succ j => exact r2 j k m (by simpa using g1) (by simpa using g2)
        · cases j with
          | zero => simp at g1 g2; subst g1 g2; cases n <;> simp [hv', Kd.val]
          | succ j => simpa using r4 j k m (by simpa using g1) (by simpa using g2)
    · cases h
  | .one .str :: ks, sh, cs, h, hl => by simp [kdsKc] at h
  | .slc _ :: ks, sh, cs, h, hl => by simp [kdsKc] at h

theorem kcFs_all {P : Program} {w : World} {rec : TypeId → Option (List Kc)} {cs : List Value} : ∀ {fs : List Field} {off : Nat} {ks : List Kc}, kcFs P rec off fs = some ks →
    (∀ f ∈ fs, ∀ ks, rec f.type = some ks → ks.length = P.cellsOf f.type → All2 (CF w) ks ((cs.drop f.offset).take (P.cellsOf f.type))) →
    cs.length = off + ks.length → All2 (CF w) ks (cs.drop off)
  | [], off, ks, h, _, hl => by
    simp only [kcFs, Option.some.injEq] at h; subst h
    rw [List.drop_eq_nil_of_le (by simp at hl; omega)]; exact .nil
  | f :: fs, off, ks, h, hh, hl => by
    unfold kcFs at h
    split at h
    · rename_i k0 hk0
      split at h
      · rename_i r hb hr
        simp only [Option.some.injEq] at h; subst h
        simp only [Bool.and_eq_true] at hb
        have e1 := Nat.eq_of_beq_eq_true hb.1
        have e2 := Nat.eq_of_beq_eq_true hb.2
        have a := hh f (by simp) k0 hk0 e2
        have b := kcFs_all hr (fun g hg => hh g (by simp [hg])) (by simp at hl; omega)
        rw [e1, ← e2] at a
        have e : cs.drop off = (cs.drop off).take k0.length ++ cs.drop (off + k0.length) := by
          rw [← List.drop_drop]; exact (List.take_append_drop _ _).symm
        rw [e]
        exact a.append b
      · cases h
    · cases h

theorem rep_all {w : World} {ks : List Kc} {cs : List Value} {n : Nat} (hl : cs.length = n * ks.length) (h : ∀ i, i < n → All2 (CF w) ks ((cs.drop (i * ks.length)).take ks.length)) : ∀ m, m ≤ n → All2 (CF w) ((List.replicate m ks).flatten) (cs.drop ((n - m) * ks.length))
  | 0, _ => by
    rw [Nat.sub_zero, List.drop_eq_nil_of_le (by omega)]; exact .nil
  | m + 1, hm => by
    rw [List.replicate_succ, List.flatten_cons]
    have a := h (n - (m + 1)) (by omega)
    have b := rep_all hl h m (by omega)
    have e : cs.drop ((n - (m + 1)) * ks.length) = (cs.drop ((n - (m + 1)) * ks.length)).take ks.length ++ cs.drop ((n - m) * ks.length) := by
      have e' : (n - m) * ks.length = (n - (m + 1)) * ks.length + ks.length := by
        rw [← Nat.succ_mul]; congr 1; omega
      rw [e', ← List.drop_drop]; exact (List.take_append_drop _ _).symm
    rw [e]
    exact a.append b

section
variable {H : Type} {enc : TypeId × Value → H} {P : Program} {w : World}

theorem trod_kc : ∀ (d : Nat) {t : TypeId} {ks : List Kc} {fuel : Nat} {cs : List Value} {x : DataW H × List MemPlace}, kcT P d t = some ks → DataW.trod enc P w 0 (fun _ => true) true fuel t cs = some x → All2 (CF w) ks cs
  | 0, t, ks, fuel, cs, x, h, _ => by simp [kcT] at h
  | d + 1, t, ks, fuel, cs, x, h, hx => by
    unfold kcT at h
    split at h
    · rename_i hu
      simp only [Option.some.injEq] at h; subst h
      obtain ⟨b, rfl, _⟩ := DataW.trod_bool hu hx
      exact .cons ⟨.bool true b, ⟨b, rfl⟩, rfl⟩ .nil
    · rename_i k hu
      simp only [Option.some.injEq] at h; subst h
      obtain ⟨n, rfl, _, hw⟩ := DataW.trod_int hu hx
      have hn : k.min ≤ n ∧ n ≤ k.max := by simpa [Lit.wf, IntKind.has] using hw
      exact .cons ⟨.int true k n, ⟨n, rfl, hn.1, hn.2⟩, rfl⟩ .nil
    · rename_i hu
      simp only [Option.some.injEq] at h; subst h
      obtain ⟨s, rfl, _, hw⟩ := DataW.trod_string hu hx
      have hm : (maxLen : Int) ≤ IntKind.i64.max := by decide
      exact .cons ⟨.str true s, ⟨s, rfl, by omega⟩, rfl⟩ .nil
    · rename_i e hu
      split at h
      · rename_i sh hsh
        obtain ⟨kse, hk1, hk2⟩ := Option.bind_eq_some_iff.1 hsh
        split at h
        · rename_i hb
          simp only [Option.some.injEq] at h; subst h
          simp only [Bool.and_eq_true] at hb
          have p1 : 1 ≤ sh.length := Nat.le_of_ble_eq_true hb.1
          have p2 : sh.length = P.cellsOf e := Nat.eq_of_beq_eq_true hb.2
          rcases Go.Deep.open_slice hu hx with ⟨rfl, _⟩ | ⟨a, len, cap, m, n, D, Pl, rfl, _, h1, h2, h3, _, h4⟩
          · exact .cons ⟨[], nofun, by simp, none, 0, rfl, by simp, .inl rfl⟩ .nil
          · simp only [if_true] at h3
            subst h3
            obtain ⟨l, l1, l2⟩ := pick_list (p := fun i (row : List Int) => RowFit sh row ∧ ∀ (j : Nat) k n, sh[j]? = some k → row[j]? = some n → w.cell? ((a.add (i * sh.length)).add j) = some (k.val n)) len fun i hi => by
              obtain ⟨cs', c1, c2⟩ := h4 i (by omega)
              obtain ⟨_, q2, q3⟩ := World.cells?_some c1
              obtain ⟨row, r1, r2, r3⟩ := row_of hk2 (trod_kc d hk1 c2)
              refine ⟨row, r1, fun j k n g1 g2 => ?_⟩
              have hj : j < sh.length := (List.getElem?_eq_some_iff.1 g1).1
              rw [p2, q3 j (by omega)]
              exact r3 j k n g1 g2
            refine .cons ⟨l, fun row hrow => ?_, by omega, some a, _, by rw [l1], by omega, ?_⟩ .nil
            · obtain ⟨i, hi⟩ := List.getElem?_of_mem hrow
              exact (l2 i row hi).1
            · rcases Nat.eq_zero_or_pos len with h0 | h0
              · left; exact List.eq_nil_of_length_eq_zero (by omega)
              · right
                have get : ∀ i, i < len → ∃ row, l[i]? = some row := fun i hi => ⟨_, List.getElem?_eq_getElem (by omega)⟩
                have cell : ∀ i j, i < len → j < sh.length → ∃ row n k, l[i]? = some row ∧ row[j]? = some n ∧ sh[j]? = some k ∧ w.cell? ((a.add (i * sh.length)).add j) = some (k.val n) := fun i j hi hj => by
                  obtain ⟨row, hr⟩ := get i hi
                  obtain ⟨⟨q1, _⟩, q2⟩ := l2 i row hr
                  have hn : row[j]? = some row[j] := List.getElem?_eq_getElem (by omega)
                  have hk : sh[j]? = some sh[j] := List.getElem?_eq_getElem (by omega)
                  exact ⟨row, _, _, hr, hn, hk, q2 j _ _ hk hn⟩
                obtain ⟨r, o, spot⟩ := a
                obtain ⟨row0, n0, k0, _, _, _, hc0⟩ := cell 0 0 h0 p1
                have hspot : spot = none := by
                  have := World.cell?_spot hc0
                  simpa [Addr.add] using this
                subst hspot
                simp only [add_eq] at cell l2 hc0
                unfold World.cell? at hc0
                split at hc0
                · rename_i arr ty fz hheap
                  have ha : ∀ k, w.cell? ⟨r, k, none⟩ = arr[k]? := fun k => by
                    unfold World.cell?
                    simp only at hheap
                    simp only [hheap]
                    rfl
                  refine ⟨r, o, arr, ty, fz, rfl, hheap, fun p row hr => ⟨(l2 p row hr).1.1, fun j n k g1 g2 => ?_⟩, ?_⟩
                  · have := (l2 p row hr).2 j k n g2 g1
                    rw [ha] at this
                    rw [show o + (0 + p * sh.length + j) = o + p * sh.length + j by omega]
                    exact this
                  · obtain ⟨row, n, k, _, _, _, hc⟩ := cell (len - 1) (sh.length - 1) (by omega) (by omega)
                    rw [ha] at hc
                    have hlt := (Array.getElem?_eq_some_iff.1 hc).1
                    have e : len * sh.length = (len - 1) * sh.length + sh.length := by
                      rw [← Nat.succ_mul]; congr 1; omega
                    show 0 + l.length * sh.length + o ≤ arr.size
                    rw [l1, e]
                    omega
                · cases hc0
        · cases h
      · cases h
    · rename_i fs hu
      split at h
      · rename_i ks' hk
        split at h
        · rename_i hb
          simp only [Option.some.injEq] at h; subst h
          have hb' := Nat.eq_of_beq_eq_true hb
          obtain ⟨xs, n, rfl, _, hl, hxs, hf⟩ := DataW.trod_struct hu hx
          have := kcFs_all (w := w) (cs := cs) hk (fun f hf' ks0 h1 h2 => by
            obtain ⟨i, hi⟩ := List.getElem?_of_mem hf'
            have hi' : fs[i]? = some f := by simpa using hi
            have e := hf i f hi'
            have hlt : i < xs.length := by rw [hxs]; exact (Array.getElem?_eq_some_iff.1 hi').1
            rw [List.getElem?_eq_getElem hlt] at e
            exact trod_kc d h1 e) (by rw [hl, ← hb']; simp)
          simpa using this
        · cases h
      · cases h
    · rename_i n e hu
      split at h
      · rename_i ks' hk
        split at h
        · rename_i hb
          simp only [Option.some.injEq] at h; subst h
          simp only [Bool.and_eq_true] at hb
          have b1 := Nat.eq_of_beq_eq_true hb.1
          have b2 := Nat.eq_of_beq_eq_true hb.2
          obtain ⟨xs, m, rfl, _, hl, hxs, hf⟩ := DataW.trod_array hu hx
          have := rep_all (w := w) (ks := ks') (cs := cs) (n := n) (by rw [hl, ← b2]) (fun i hi => by
            have e := hf i hi
            rw [List.getElem?_eq_getElem (by omega)] at e
            rw [b1]
            exact trod_kc d hk e) n (Nat.le_refl _)
          simpa using this
        · cases h
      · cases h
    · cases h

end

/-- A slice that came in, as a block that is not written. -/
def roBC (sh : List Kd) (l : List (List Int)) : BC := ⟨⟨0, 0, true, some ⟨0, sh, l, none⟩⟩, []⟩

/-- For all cells of these kinds, and the blocks behind them. -/
def AllC : List Kc → List BC → (List At → List BC → Prop) → Prop
  | [], bs, Q => Q [] bs
  | .one (.int k) :: ks, bs, Q => ∀ n : Int, k.min ≤ n → n ≤ k.max → AllC ks bs fun l bs' => Q (.int true k n :: l) bs'
  | .one .bool :: ks, bs, Q => ∀ b : Bool, AllC ks bs fun l bs' => Q (.bool true b :: l) bs'
  | .one .str :: ks, bs, Q => ∀ s : ByteArray, (s.size : Int) ≤ IntKind.i64.max → AllC ks bs fun l bs' => Q (.str true s :: l) bs'
  | .slc sh :: ks, bs, Q => ∀ l : List (List Int), (∀ row ∈ l, RowFit sh row) → l.length ≤ maxLen → AllC ks (bs ++ [roBC sh l]) fun ags bs' => Q (.slc true bs.length 0 0 sh.length 0 l.length :: ags) bs'

/-- For all arguments of these shapes. -/
def AllB : List (Bool × List Kc) → List BC → (List LV → List BC → Prop) → Prop
  | [], bs, Q => Q [] bs
  | (true, ks) :: r, bs, Q => AllC ks bs fun l bs' => AllB r bs' fun ags bs'' => Q (.g l :: ags) bs''
  | (false, ks) :: r, bs, Q => AllC ks bs fun l bs' => match l with
    | [x] => AllB r bs' fun ags bs'' => Q (.a x :: ags) bs''
    | _ => True

/-- The blocks stand in the world, none of them written. -/
structure RoB (w : World) (φ : Phi) (bs : List BC) : Prop where
  at_ : ∀ (b : Nat) c, bs[b]? = some c → ∃ i sh l, φ b = some i ∧ c = roBC sh l ∧ i.v = 0 ∧ i.ro = true ∧ i.n = l.length ∧
    ((i.a = none ∧ l = []) ∨ ∃ r o arr ty fz, i.a = some (r, o) ∧ w.heap[r]? = some (.cells arr ty fz) ∧ RowsIn arr o ⟨0, sh, l, none⟩ ∧ l.length * sh.length ≤ i.z)
  dom : ∀ b, bs.length ≤ b → φ b = none

theorem RoB.nil (w : World) : RoB w (fun _ => none) [] := ⟨fun b c h => by simp at h, fun _ _ => rfl⟩

theorem memOf_ro {bs : List BC} (h : ∀ (b : Nat) c, bs[b]? = some c → c.cs = []) (k : Nat) : memOf bs k = none := by
  unfold memOf
  split
  · rename_i c hc
    unfold cellOf
    rw [h _ c hc]; rfl
  · rfl

theorem hdsIn_none {bs : List BC} {out : List (Option BC)} (ho : ∀ (b : Nat) c, bs[b]? = some c → c.h.ro = true) : hdsIn bs out = fun b => (bs[b]?).map (·.h) := by
  funext b
  unfold hdsIn
  split
  · rename_i c hc
    have e : roH c.h = c.h := by
      have := ho b c hc
      unfold roH
      rw [← this]
    split
    · rw [e, hc]; rfl
    · rw [hc]; rfl
  · rename_i hc
    rw [hc]; rfl

theorem RoB.mr {w : World} {φ : Phi} {bs : List BC} (h : RoB w φ bs) (out : List (Option BC)) : MR w (fun _ => False) φ (memOf bs) (hdsIn bs out) (fun b => bs.length ≤ b) w := by
  have lt : ∀ b i, φ b = some i → b < bs.length := fun b i hi => by
    rcases Nat.lt_or_ge b bs.length with h1 | h1
    · exact h1
    · rw [h.dom b h1] at hi; cases hi
  have get : ∀ b i, φ b = some i → i.ro = true ∧ ∀ r o, i.a = some (r, o) → r < w.heap.size := fun b i hi => by
    obtain ⟨j, sh, l, h1, _, _, h2, _, h3⟩ := h.at_ b _ (List.getElem?_eq_getElem (lt b i hi))
    rw [hi] at h1
    simp only [Option.some.injEq] at h1; subst h1
    refine ⟨h2, fun r o ha => ?_⟩
    rcases h3 with ⟨h3, _⟩ | ⟨r', o', arr, ty, fz, h3, h4, _⟩
    · rw [h3] at ha; cases ha
    · rw [h3] at ha
      simp only [Option.some.injEq, Prod.mk.injEq] at ha
      obtain ⟨rfl, _⟩ := ha
      exact (Array.getElem?_eq_some_iff.1 h4).1
  have hm : ∀ k, memOf bs k = none := memOf_ro fun b c hc => by
    obtain ⟨_, _, _, _, rfl, _⟩ := h.at_ b c hc; rfl
  have hh : hdsIn bs out = fun b => (bs[b]?).map (·.h) := hdsIn_none fun b c hc => by
    obtain ⟨_, _, _, _, rfl, _⟩ := h.at_ b c hc; rfl
  refine ⟨fun k x hk => ?_, fun b g hg => ?_, fun k x g hk => ?_, fun b b' i i' r o o' h1 h2 _ _ => ?_, fun b i r o h1 _ h3 => ?_, fun b i r o h1 h2 _ => ?_, fun b hb => h.dom b hb, fun b i r o h1 h2 => ?_, rfl, rfl, rfl, Nat.le_refl _, fun _ _ _ => rfl, fun _ => rfl⟩
  · rw [hm] at hk; cases hk
  · rw [hh] at hg
    obtain ⟨c, hc, rfl⟩ := Option.map_eq_some_iff.1 hg
    obtain ⟨i, sh, l, g1, rfl, g2, g3, g4, g5⟩ := h.at_ b c hc
    refine ⟨i, g1, g2, g3, nofun, fun R hR => ?_⟩
    have hR' : some (⟨0, sh, l, none⟩ : Rw) = some R := hR
    simp only [Option.some.injEq] at hR'; subst hR'
    refine ⟨g4.symm, fun N hN => (nomatch hN), ?_⟩
    rcases g5 with ⟨g5, g6⟩ | ⟨r, o, arr, ty, fz, g5, g6, g7, g8⟩
    · exact .inl ⟨g5, g6, rfl⟩
    · exact .inr ⟨r, o, arr, ty, fz, g5, g6, g7, by simpa using g8⟩
  · rw [hm] at hk; cases hk
  · exact .inr ⟨(get b i h1).1, (get b' i' h2).1⟩
  · rw [(get b i h1).1] at h3; cases h3
  · exact ⟨(get b i h1).2 r o h2, id⟩
  · exact (get b i h1).2 r o h2

/-- One slice more. -/
theorem RoB.add {w : World} {φ : Phi} {bs : List BC} (h : RoB w φ bs) {sh : List Kd} {l : List (List Int)} {v : Value} (hv : SlcIn w sh l v) :
    ∃ ψ, φ.le ψ ∧ RoB w ψ (bs ++ [roBC sh l]) ∧ At.rel ψ (.slc true bs.length 0 0 sh.length 0 l.length) v := by
  obtain ⟨a, cap, rfl, hc, hl⟩ := hv
  have hd := h.dom bs.length (Nat.le_refl _)
  have mk : ∀ j : Inf, j.v = 0 → j.ro = true → j.n = l.length → ((j.a = none ∧ l = []) ∨ ∃ r o arr ty fz, j.a = some (r, o) ∧ w.heap[r]? = some (.cells arr ty fz) ∧ RowsIn arr o ⟨0, sh, l, none⟩ ∧ l.length * sh.length ≤ j.z) →
      φ.le (setP φ bs.length j) ∧ RoB w (setP φ bs.length j) (bs ++ [roBC sh l]) := fun j j1 j2 j3 j4 => by
    refine ⟨phi_upd_le (.inl hd), ⟨fun b c hb => ?_, fun b hb => ?_⟩⟩
    · rw [List.getElem?_append] at hb
      split at hb
      · rename_i hlt
        obtain ⟨i, sh', l', g1, g2⟩ := h.at_ b c hb
        exact ⟨i, sh', l', by unfold setP; rw [if_neg (by omega)]; exact g1, g2⟩
      · rename_i hge
        have e : b = bs.length := by
          rcases Nat.lt_or_ge (b - bs.length) 1 with h1 | h1
          · omega
          · rw [List.getElem?_eq_none (by simpa using h1)] at hb; cases hb
        subst e
        rw [Nat.sub_self] at hb
        simp only [List.getElem?_cons_zero, Option.some.injEq] at hb
        exact ⟨j, sh, l, setP_same .., hb.symm, j1, j2, j3, j4⟩
    · unfold setP
      rw [List.length_append] at hb
      simp only [List.length_cons, List.length_nil] at hb
      rw [if_neg (by omega)]
      exact h.dom b (by omega)
  rcases hl with rfl | ⟨r, o, arr, ty, fz, rfl, h1, h2⟩
  · obtain ⟨m1, m2⟩ := mk ⟨0, none, 0, 0, 0, true⟩ rfl rfl rfl (.inl ⟨rfl, rfl⟩)
    refine ⟨_, m1, m2, ⟨rfl, rfl⟩, _, setP_same .., Nat.le_refl _, fun _ => ⟨Nat.le_refl _, a, cap, rfl, hc, .inl rfl⟩⟩
  · obtain ⟨m1, m2⟩ := mk ⟨ty, some (r, o), l.length * sh.length, l.length, 0, true⟩ rfl rfl rfl (.inr ⟨r, o, arr, ty, fz, rfl, h1, h2, Nat.le_refl _⟩)
    refine ⟨_, m1, m2, ⟨rfl, rfl⟩, _, setP_same .., Nat.le_refl _, fun _ => ⟨by simp, some ⟨r, o, none⟩, cap, rfl, hc, .inr ⟨r, o, rfl, by simp⟩⟩⟩

theorem AllC.use {w : World} : ∀ {ks : List Kc} {bs : List BC} {Q : List At → List BC → Prop} {cs : List Value} {φ : Phi}, AllC ks bs Q → All2 (CF w) ks cs → RoB w φ bs →
    ∃ ags bs' ψ, φ.le ψ ∧ RoB w ψ bs' ∧ All2 (At.rel ψ) ags cs ∧ Q ags bs'
  | [], bs, Q, cs, φ, h, hc, hb => by cases hc; exact ⟨[], bs, φ, φ.le_refl, hb, .nil, h⟩
  | .one (.int k) :: ks, bs, Q, cs, φ, h, hc, hb => by
    cases hc with
    | cons a b =>
      obtain ⟨x, ⟨n, rfl, h1, h2⟩, hv⟩ := a
      obtain ⟨ags, bs', ψ, p1, p2, p3, p4⟩ := (h n h1 h2).use b hb
      exact ⟨_ :: ags, bs', ψ, p1, p2, .cons (At.rel_mono (φ := fun _ => none) (fun _ _ h => nomatch h) hv) p3, p4⟩
  | .one .bool :: ks, bs, Q, cs, φ, h, hc, hb => by
    cases hc with
    | cons a b =>
      obtain ⟨x, ⟨n, rfl⟩, hv⟩ := a
      obtain ⟨ags, bs', ψ, p1, p2, p3, p4⟩ := (h n).use b hb
      exact ⟨_ :: ags, bs', ψ, p1, p2, .cons (At.rel_mono (φ := fun _ => none) (fun _ _ h => nomatch h) hv) p3, p4⟩
  | .one .str :: ks, bs, Q, cs, φ, h, hc, hb => by
    cases hc with
    | cons a b =>
      obtain ⟨x, ⟨n, rfl, h1⟩, hv⟩ := a
      obtain ⟨ags, bs', ψ, p1, p2, p3, p4⟩ := (h n h1).use b hb
      exact ⟨_ :: ags, bs', ψ, p1, p2, .cons (At.rel_mono (φ := fun _ => none) (fun _ _ h => nomatch h) hv) p3, p4⟩
  | .slc sh :: ks, bs, Q, cs, φ, h, hc, hb => by
    cases hc with
    | cons a b =>
      obtain ⟨l, h1, h2, h3⟩ := a
      obtain ⟨χ, q1, q2, q3⟩ := hb.add h3
      obtain ⟨ags, bs', ψ, p1, p2, p3, p4⟩ := (h l h1 h2).use b q2
      exact ⟨_ :: ags, bs', ψ, Phi.le_trans q1 p1, p2, .cons (At.rel_mono p1 q3) p3, p4⟩

/-- The shape of a parameter. -/
def kcShape (P : Program) (t : TypeId) : Option (Bool × List Kc) :=
  match P.underlying t with
  | some (.struct _) | some (.array _ _) => match kcT P 20 t with
    | some ks => some (true, ks)
    | none => none
  | some _ => match kcT P 20 t with
    | some [k] => some (false, [k])
    | _ => none
  | none => none

def kcShapes (P : Program) : List TypeId → Option (List (Bool × List Kc))
  | [] => some []
  | t :: ts => match kcShape P t, kcShapes P ts with
    | some s, some ss => some (s :: ss)
    | _, _ => none

theorem argsB_open {H : Type} {enc : TypeId × Value → H} {P : Program} {w : World} {r : Reach} {base : Nat} : ∀ {ts : List TypeId} {vs : List Value} {ds : List (DataW H)} {ps : List MemPlace} {ss : List (Bool × List Kc)} {bs : List BC} {Q : List LV → List BC → Prop} {φ : Phi}, kcShapes P ts = some ss →
    DataW.TrodAll enc P w 0 (fun _ => true) true ts vs ds ps → (∀ (j : Nat) t v, ts[j]? = some t → vs[j]? = some v → Value.okWide P w r base t v) → AllB ss bs Q → RoB w φ bs →
    ∃ ags bs' ψ, φ.le ψ ∧ RoB w ψ bs' ∧ All2 (LV.rel ψ) ags vs ∧ Q ags bs'
  | [], [], [], ps, ss, bs, Q, φ, hs, _, _, h, hb => by
    simp only [kcShapes, Option.some.injEq] at hs; subst hs
    exact ⟨[], bs, φ, φ.le_refl, hb, .nil, h⟩
  | [], [], _ :: _, ps, ss, bs, Q, φ, hs, ht, _, _, _ => ht.elim
  | [], _ :: _, _, ps, ss, bs, Q, φ, hs, ht, _, _, _ => ht.elim
  | t :: ts, [], _, ps, ss, bs, Q, φ, hs, ht, _, _, _ => ht.elim
  | t :: ts, v :: vs, [], ps, ss, bs, Q, φ, hs, ht, _, _, _ => ht.elim
  | t :: ts, v :: vs, d :: ds, ps, ss, bs, Q, φ, hs, ht, hw, h, hb => by
    obtain ⟨p, q, ⟨fuel, h1⟩, h2, rfl⟩ := ht
    unfold kcShapes at hs
    split at hs
    · rename_i s ss' k1 k2
      simp only [Option.some.injEq] at hs; subst hs
      obtain ⟨qq, ks⟩ := s
      have hw0 := hw 0 t v (by simp) (by simp)
      have rest := fun {Q'} {bs'} {ψ} => argsB_open (enc := enc) (Q := Q') (bs := bs') (φ := ψ) k2 h2 (fun j u x hj hx => hw (j + 1) u x (by simpa using hj) (by simpa using hx))
      have agg : (∃ cs, v = .agg cs) → kcT P 20 t = some ks → qq = true → ∃ ags bs' ψ, φ.le ψ ∧ RoB w ψ bs' ∧ All2 (LV.rel ψ) ags (v :: vs) ∧ Q ags bs' := fun ⟨cs, hv⟩ hk hq => by
        subst hq hv
        have hcf := trod_kc 20 hk h1
        obtain ⟨l, bs', ψ, p1, p2, p3, p4⟩ := AllC.use h hcf hb
        obtain ⟨ags, bs'', χ, r1, r2, r3, r4⟩ := rest p4 p2
        exact ⟨.g l :: ags, bs'', χ, Phi.le_trans p1 r1, r2, .cons ⟨cs, rfl, p3.mono fun _ _ => At.rel_mono r1⟩ r3, r4⟩
      unfold kcShape at k1
      unfold Value.okWide at hw0
      split at k1
      · rename_i hu
        simp only [hu] at hw0
        obtain ⟨cs, e, _, _⟩ := hw0
        split at k1
        · rename_i ks' hk
          simp only [Option.some.injEq, Prod.mk.injEq] at k1
          obtain ⟨rfl, rfl⟩ := k1
          exact agg ⟨cs, e⟩ hk rfl
        · cases k1
      · rename_i hu
        simp only [hu] at hw0
        obtain ⟨cs, e, _, _⟩ := hw0
        split at k1
        · rename_i ks' hk
          simp only [Option.some.injEq, Prod.mk.injEq] at k1
          obtain ⟨rfl, rfl⟩ := k1
          exact agg ⟨cs, e⟩ hk rfl
        · cases k1
      · rename_i dd hne1 hne2 hu
        simp only [hu] at hw0
        have hwc : Cell.okWide P w r base t v := by
          cases dd <;> first | exact hw0 | exact absurd rfl (hne1 _) | exact absurd rfl (hne2 _ _)
        split at k1
        · rename_i k hk
          simp only [Option.some.injEq, Prod.mk.injEq] at k1
          obtain ⟨rfl, rfl⟩ := k1
          have hone : v.cells = #[v] := by
            cases v with
            | agg cs =>
              exfalso
              unfold Cell.okWide at hwc
              unfold kcT at hk
              cases dd <;> simp only [hu, reduceCtorEq] at hk hwc <;> first | exact absurd rfl (hne1 _) | exact absurd rfl (hne2 _ _) | (unfold Cell.ok at hwc; simp [hu] at hwc)
            | _ => rfl
          have hcf := trod_kc 20 hk h1
          obtain ⟨l, bs', ψ, p1, p2, p3, p4⟩ := AllC.use h hcf hb
          have hlen := p3.length
          have hlen2 := hcf.length
          match l, hlen with
          | [x], hlen =>
            obtain ⟨ags, bs'', χ, r1, r2, r3, r4⟩ := rest p4 p2
            refine ⟨.a x :: ags, bs'', χ, Phi.le_trans p1 r1, r2, .cons ?_ r3, r4⟩
            rw [hone] at p3
            cases p3 with
            | cons p _ => exact At.rel_mono r1 p
          | [], hlen => simp at hlen hlen2; omega
          | _ :: _ :: _, hlen => simp at hlen hlen2; omega
        · cases k1
      · cases k1
    · cases hs

theorem trodAll_stays' {H : Type} {enc : TypeId × Value → H} {P : Program} (hl : laidOutB P = true) {W W' : World} (hb : Below W.heap.size W W') {sp : Nat → Bool} : ∀ {ts : List TypeId} {vs : List Value} {ds : List (DataW H)} {ps : List MemPlace},
    (ts.all fun t => P.readableRec t && decide (t < P.types.size)) = true → DataW.TrodAll enc P W 0 (fun _ => true) true ts vs ds ps → (∀ p ∈ ps, p.block < W.heap.size) → (∀ p ∈ ps, sp p.block = true) →
    DataW.TrodAll enc P W' 0 sp true ts vs ds ps
  | [], [], [], ps, _, h, _, _ => h
  | [], [], _ :: _, ps, _, h, _, _ => h.elim
  | [], _ :: _, _, ps, _, h, _, _ => h.elim
  | t :: ts, [], _, ps, _, h, _, _ => h.elim
  | t :: ts, v :: vs, [], ps, _, h, _, _ => h.elim
  | t :: ts, v :: vs, d :: ds, ps, hr, h, hlt, hs => by
    obtain ⟨p, q, h1, h2, rfl⟩ := h
    simp only [List.all_cons, Bool.and_eq_true] at hr
    exact ⟨p, q, WideElems.Trod_stays hl hr.1.1 (of_decide_eq_true hr.1.2) h1 (fun x hx => hb.same (hlt x (List.mem_append.2 (.inl hx)))) (fun x hx => hs x (List.mem_append.2 (.inl hx))),
      trodAll_stays' hl hb hr.2 h2 (fun x hx => hlt x (List.mem_append.2 (.inr hx))) (fun x hx => hs x (List.mem_append.2 (.inr hx))), rfl⟩

theorem trodAll_len {H : Type} {enc : TypeId × Value → H} {P : Program} {W : World} {sp : Nat → Bool} {hd : Bool} : ∀ {ts : List TypeId} {vs : List Value} {ds : List (DataW H)} {ps : List MemPlace},
    DataW.TrodAll enc P W 0 sp hd ts vs ds ps → ds.length = ts.length
  | [], [], [], ps, _ => rfl
  | [], [], _ :: _, ps, h => h.elim
  | [], _ :: _, _, ps, h => h.elim
  | t :: ts, [], _, ps, h => h.elim
  | t :: ts, v :: vs, [], ps, h => h.elim
  | t :: ts, v :: vs, d :: ds, ps, h => by
    obtain ⟨p, q, _, h2, _⟩ := h
    simp [trodAll_len h2]

/-- The row's step for a law whose arguments hold slices: whatever the arguments, it returns true. -/
theorem law_liftedB {C : Checked} {os : Os} (started : os.Started) {H : Type} (enc : TypeId × Value → H) {f : Nat} {fn : Func} {s : ChangeSpec} {ss : List (Bool × List Kc)} {tb : TypeId}
    (own : ownKnob C.prog.godebug = none) (hi : C.prog.inits.idxOf? f = none) (hf : C.prog.funcs[f]? = some fn) (hv : s.vars = [])
    (hfn : ∀ ds : List (DataW H), ds.length = fn.params.toList.length → s.fn H (ds ++ []) = { results := [.lit (.bool true)], args := ds })
    (hlo : laidOutB C.prog = true) (hp : (fn.params.toList.all fun t => C.prog.readableRec t && decide (t < C.prog.types.size)) = true) (hs : kcShapes C.prog fn.params.toList = some ss) (hr : fn.resultTypes = #[tb]) (htb : C.prog.underlying tb = some .bool)
    (wit : ∃ (w : World) (tape : Tape) (i : Input), w.os = os ∧ World.Shaped C.prog (w.forCall tape i) ∧ i.vars = [] ∧ Input.okWide C.prog (w.forCall tape i) Reach.any w.heap.size f i ∧
      ChangeSpec.pre6 enc C.prog fn s [] false (w.forCall tape i).memory i.args ∧ Assume.holds {} C.prog (lone (Frame.enter C.prog f i.args CallKind.normal) [] (w.forCall tape i)))
    (core : AllB ss [] fun ags bs => ∀ (vs : Array Value) (w : World) (φ : Phi), All2 (LV.rel φ) ags vs.toList → (∀ out, MR w (fun _ => False) φ (memOf bs) (hdsIn bs out) (fun b => bs.length ≤ b) w) → Calls C.prog f vs w fun e w' => e = .returned (.bool true) ∧ Grows w w') :
    ReturnsInHanded {} C os f .any (s.pre6 enc C.prog fn [] false) (s.post enc C.prog fn false true false false) := by
  refine returnsInHanded_of_change own started hi hf wit ?_
  intro W base args ds gs before hval hW hcnd _
  have hW' := hW
  obtain ⟨p, q, hA, hV, rfl, hfz, hnd⟩ := hW
  rw [hv] at hV
  obtain ⟨rfl, rfl⟩ := trodVars_none hV
  have hlt : ∀ x ∈ p, x.block < W.heap.size := fun x hx => by simpa using hW'.lt x (List.mem_append.2 (.inl hx))
  obtain ⟨ags, bs, φ, _, a0, a1, a2⟩ := argsB_open hs hA (fun j t v h1 h2 => hval j t v (by simpa using h1) (by simpa using h2)) core (RoB.nil W)
  have hdl : ds.length = fn.params.toList.length := trodAll_len hA
  refine (a2 args W φ a1 (fun out => a0.mr out)).mono fun e W' ⟨he, hg⟩ => ?_
  subst he
  have e1 := hfn ds hdl
  refine ⟨_, rfl, post_of_same (pa := p) (pv := []) hW' ?_ ?_ ?_ rfl (hg.below.frame _) hg.frz ?_⟩
  · intro b sp hd
    rw [e1, hr]
    exact trodAll_cons_mk (shut_bool htb _) trodAll_mk0
  · intro sp hsp
    rw [e1]
    exact trodAll_stays' hlo hg.below hp hA hlt (fun x hx => hsp x (List.mem_append.2 (.inl hx)))
  · intro sp _
    rw [hv, e1]
    exact rfl
  · exact ok_one hr rfl (okWide_bool_mk htb _)

theorem law_coreB {P : Program} {f : Nat} {c : Con} (hc : ConOK P f c) {args : List LV} {bs : List BC} {obs : List Prop} {m b : Bool} {out : List (Option BC)} (he : c args bs = some (obs, .a (.bool m b), out)) (ho : Alls obs) (hb : b = true) (vs : Array Value) (w : World) (φ : Phi)
    (h : All2 (LV.rel φ) args vs.toList) (hM : ∀ out, MR w (fun _ => False) φ (memOf bs) (hdsIn bs out) (fun b => bs.length ≤ b) w) : Calls P f vs w fun e w' => e = .returned (.bool true) ∧ Grows w w' := by
  refine (hc _ _ _ _ _ he ho φ vs w (fun _ => False) h (hM out)).mono fun e w' hh => ?_
  obtain ⟨v', φ', rfl, _, hv, hm⟩ := hh
  have hv' : v' = .bool b := hv
  exact ⟨by rw [hv', hb], ⟨hm.os, hm.tape, hm.output, hm.size, fun k hk => hm.block k hk id⟩, hm.frz⟩

end Go.Proofs.Ytcdejlgophpdjaa.V
end

section
namespace Go.Proofs.Ytcdejlgophpdjaa
open Go Go.RowKit Go.Proofs.Ytcdejlgophpdjaa.V
set_option linter.unusedVariables false
set_option linter.unusedSectionVars false

theorem bool_iff {a b : Bool} {p : Prop} (h : a = true ↔ p) (k : b = true ↔ p) : a = b := by
  cases a <;> cases b <;> simp_all

section
variable {w h : Nat} (w1 : w ≤ 64) (h1 : h ≤ 64) {l m : List (List Int)}
include w1 h1
theorem Eq6_iff (hl : l.length = w * h) (hm : m.length = w * h) (x y : Int) : Eq6 w h l m x y = true ↔ ∀ j, j < 6 → px w h l x y j = px w h m x y j := by
  unfold Eq6
  rw [px_0 w1 h1 hl, px_1 w1 h1 hl, px_2 w1 h1 hl, px_3 w1 h1 hl, px_4 w1 h1 hl, px_5 w1 h1 hl, px_0 w1 h1 hm, px_1 w1 h1 hm, px_2 w1 h1 hm, px_3 w1 h1 hm, px_4 w1 h1 hm, px_5 w1 h1 hm]
  simp only [Bool.and_eq_true, beq_iff_eq]
  constructor
  · intro ⟨⟨a, b, c, d⟩, e, f⟩ j hj
    match j, hj with
    | 0, _ => exact a
    | 1, _ => exact b
    | 2, _ => exact c
    | 3, _ => exact d
    | 4, _ => exact e
    | 5, _ => exact f
  · intro h
    exact ⟨⟨h 0 (by omega), h 1 (by omega), h 2 (by omega), h 3 (by omega)⟩, h 4 (by omega), h 5 (by omega)⟩
end

theorem r_len {w h : Nat} (w1 : w ≤ 64) (h1 : h ≤ 64) {l : List (List Int)} (g : Gd w h l) : l.length ≤ 4096 := by
  rw [g.1]; exact Nat.mul_le_mul w1 h1


theorem foldl_push_size {α : Type} (f : α → UInt8) : ∀ (l : List α) (r : ByteArray), (l.foldl (fun r n => r.push (f n)) r).size = r.size + l.length
  | [], r => rfl
  | a :: l, r => by
    rw [List.foldl_cons, foldl_push_size f l, List.length_cons, ByteArray.size_push]; omega
theorem bytesOf_size (l : List (List Int)) : (bytesOf l).size = l.length := by
  unfold bytesOf
  rw [foldl_push_size (fun n : Int => UInt8.ofNat n.toNat), List.length_map]
  show 0 + l.length = _
  omega

def sO (l : List (List Int)) : Nat → List (List Int)
  | 0 => []
  | i + 1 => sO l i ++ [[rget l i 0], [rget l i 1], [rget l i 2], [rget l i 3]] ++ [[IntKind.wrap IntKind.u8 (Int.fdiv (rget l i 4) (2 ^ min (Int.toNat 8) (IntKind.bits IntKind.i64)))], [IntKind.wrap IntKind.u8 (rget l i 4)], [rget l i 5]]
theorem sO_len (l : List (List Int)) : ∀ i, (sO l i).length = 7 * i
  | 0 => rfl
  | i + 1 => by
    rw [sO, List.length_append, List.length_append, sO_len l i]
    show 7 * i + 4 + 3 = _
    omega
theorem sO_congr {l m : List (List Int)} : ∀ {n : Nat}, (∀ i, i < n → eq6 l m i = true) → sO l n = sO m n
  | 0, _ => rfl
  | n + 1, h => by
    have k := eq6_iff.1 (h n (by omega))
    rw [sO, sO, sO_congr (fun i hi => h i (by omega)), k 0 (by omega), k 1 (by omega), k 2 (by omega), k 3 (by omega), k 4 (by omega), k 5 (by omega)]

def sS (l : List (List Int)) (i : Nat) : fSum_l29_T := .mk 0 (Int.ofNat l.length) (i : Int) l (sO l i)
section
variable {l : List (List Int)} (hL : l.length ≤ 4096)
theorem s_s0 (i : Nat) : fSum_l29_s0 (sS l i) = decide (i < l.length) := by
  unfold fSum_l29_s0
  exact decide_eq_decide.2 Int.ofNat_lt
theorem s_s2 (i : Nat) : fSum_l29_s2 (sS l i) = sO l (i + 1) := rfl
include hL
theorem s_step (i : Nat) (hi : i < l.length) : pick1 (fSum_l29_st (sS l i)).2 = some (.n, sS l (i + 1)) := by
  unfold fSum_l29_st
  rw [s_s0, decide_eq_true hi, s_s2]
  have : IntKind.wrap .i64 ((sS l i).a2 + 1) = ((i + 1 : Nat) : Int) := by
    show IntKind.wrap .i64 ((i : Int) + 1) = _
    rw [w64_in (by omega) (by omega)]; omega
  rw [this]; rfl
omit hL in
theorem s_end : pick1 (fSum_l29_st (sS l l.length)).2 = some (.e 0, sS l l.length) := by
  unfold fSum_l29_st
  rw [s_s0, decide_eq_false (Nat.lt_irrefl _)]; rfl
theorem s_obs (i : Nat) : Alls (fSum_l29_st (sS l i)).1 := by
  unfold fSum_l29_st
  rw [s_s0]
  refine ⟨fun g => ⟨Int.natCast_nonneg i, Int.ofNat_lt.2 (of_decide_eq_true g)⟩, fun g => ?_, fun g => ?_, trivial⟩
  · have := of_decide_eq_true g
    have e : (fSum_l29_s1 (sS l i)).length = 7 * i + 4 := by
      show (sO l i ++ _).length = _
      rw [List.length_append, sO_len]; rfl
    rw [e]; omega
  · have := of_decide_eq_true g
    rw [s_s2, sO_len]; omega
theorem sum_run : fSum_s0 l = some (.e 0, sS l l.length) := by
  unfold fSum_s0
  exact lx_run (s := sS l) (s_step hL) s_end nofun (by omega)
theorem sum_lok : lok fSum_l29_st 18446744073709551616 (.mk 0 (Int.ofNat l.length) 0 l []) :=
  lx_lok (s := sS l) (s_step hL) s_end nofun (fun i _ => s_obs hL i) (by omega)
theorem sum_a4 : (V.valOf (fSum_s0 l)).a4 = sO l l.length := by rw [sum_run hL]; rfl
end
theorem sum_eq {l m : List (List Int)} (hL : l.length ≤ 4096) (hm : m.length = l.length) (h : ∀ i, i < l.length → eq6 l m i = true) : fSum_0 l = fSum_0 m := by
  unfold fSum_0
  rw [sum_a4 hL, sum_a4 (by omega), hm, sO_congr h]

/-! The sum of 32 bits: its loops end. -/
def kI (c n i : Int) (l : List (List Int)) (k : Nat) (v : cSum_l14951_T) : Prop := ∃ a, v = .mk 0 a c n i true (k : Int) l
def kO (l : List (List Int)) (i : Nat) (v : cSum_l29_T) : Prop := ∃ a, v = .mk 0 a (Int.ofNat l.length) (i : Int) l
theorem k_in (c n i : Int) (l : List (List Int)) {v : cSum_l14951_T} (hv : kI c n i l 0 v) : (∃ v', lrun cSum_l14951_st 18446744073709551616 v = some (.e 2, v') ∧ kI c n i l 8 v') ∧ lok cSum_l14951_st 18446744073709551616 v := by
  refine inv_run (I := kI c n i l) (x := .e 2) (n := 8) nofun ?_ ?_ ?_ 8 0 v (by omega) hv _ (by omega)
  · rintro k v hk ⟨a, rfl⟩
    have e0 : cSum_l14951_s0 (.mk 0 a c n i true (k : Int) l) = true := by
      unfold cSum_l14951_s0
      exact decide_eq_true (show (k : Int) < 8 by omega)
    have e1 : IntKind.wrap .i64 ((k : Int) + 1) = ((k + 1 : Nat) : Int) := by
      rw [w64_in (by omega) (by omega)]; omega
    unfold cSum_l14951_st
    rw [e0]
    refine ⟨_, rfl, ?_⟩
    unfold kI
    rw [← e1]
    exact ⟨_, rfl⟩
  · rintro v ⟨a, rfl⟩
    rfl
  · rintro k v hk ⟨a, rfl⟩
    trivial
theorem k_s0 (l : List (List Int)) (i : Nat) (a : Int) : cSum_l29_s0 (.mk 0 a (Int.ofNat l.length) (i : Int) l) = decide (i < l.length) := by
  unfold cSum_l29_s0
  exact decide_eq_decide.2 Int.ofNat_lt
theorem crc_lok {l : List (List Int)} (hL : l.length ≤ 100000) : lok cSum_l29_st 18446744073709551616 (.mk 0 4294967295 (Int.ofNat l.length) 0 l) := by
  refine (inv_run (I := kO l) (x := .e 0) (n := l.length) nofun ?_ ?_ ?_ l.length 0 _ (by omega) ⟨_, rfl⟩ _ (by omega)).2
  · rintro i v hi ⟨a, rfl⟩
    obtain ⟨⟨v', r, b, e⟩, _⟩ := k_in (rget l i 0) (Int.ofNat l.length) (i : Int) l (v := .mk 0 _ (rget l i 0) (Int.ofNat l.length) (i : Int) true 0 l) ⟨_, rfl⟩
    have e2 : cSum_l29_s2 (.mk 0 a (Int.ofNat l.length) (i : Int) l) = some (.e 2, v') := by
      unfold cSum_l29_s2
      rw [k_s0, decide_eq_true hi]
      exact r
    have e1 : IntKind.wrap .i64 ((i : Int) + 1) = ((i + 1 : Nat) : Int) := by
      rw [w64_in (by omega) (by omega)]; omega
    unfold cSum_l29_st
    rw [k_s0, decide_eq_true hi, e2]
    subst e
    refine ⟨_, rfl, b, ?_⟩
    rw [← e1]; rfl
  · rintro v ⟨a, rfl⟩
    unfold cSum_l29_st
    rw [k_s0, decide_eq_false (Nat.lt_irrefl _)]; rfl
  · rintro i v hi ⟨a, rfl⟩
    unfold cSum_l29_st
    rw [k_s0]
    refine ⟨fun g => ⟨Int.natCast_nonneg i, Int.ofNat_lt.2 (of_decide_eq_true g)⟩, fun g => ?_, trivial⟩
    rw [g]
    exact (k_in (rget l i 0) (Int.ofNat l.length) (i : Int) l ⟨_, rfl⟩).2


def Gc (w h : Nat) (l : List (List Int)) : Prop := Gd w h l ∧ ∀ k j, j ≠ 4 → 0 ≤ rget l k j ∧ rget l k j ≤ 255
theorem Gc_set {w h : Nat} {l : List (List Int)} (g : Gc w h l) (k : Nat) {p0 p1 p2 p3 p4 p5 : Int} (d0 : 0 ≤ p4) (d1 : p4 ≤ 65535) (c0 : 0 ≤ p0 ∧ p0 ≤ 255) (c1 : 0 ≤ p1 ∧ p1 ≤ 255) (c2 : 0 ≤ p2 ∧ p2 ≤ 255) (c3 : 0 ≤ p3 ∧ p3 ≤ 255) (c5 : 0 ≤ p5 ∧ p5 ≤ 255) : Gc w h (l.set k [p0, p1, p2, p3, p4, p5]) := by
  refine ⟨Gd_set g.1 k d0 d1, fun i j hj => ?_⟩
  by_cases e : i = k
  · subst e
    by_cases hi : i < l.length
    · rw [rget_lset_eq _ hi]
      match j, hj with
      | 0, _ => exact c0
      | 1, _ => exact c1
      | 2, _ => exact c2
      | 3, _ => exact c3
      | 5, _ => exact c5
      | j + 6, _ => exact (show (0 : Int) ≤ 0 ∧ (0 : Int) ≤ 255 by decide)
    · rw [List.set_eq_of_length_le (by omega)]
      exact g.2 i j hj
  · rw [rget_lset_ne _ e]
    exact g.2 i j hj

section
variable {w h : Nat} (ww : 1 ≤ w) (w1 : w ≤ 64) (hh : 1 ≤ h) (h1 : h ≤ 64) {sw sh : Int} {ns : Nat} {s : List (List Int)} (hd : ∀ i, 0 ≤ rget s i 4 ∧ rget s i 4 ≤ 65535) (hc : ∀ i j, j ≠ 4 → 0 ≤ rget s i j ∧ rget s i j ≤ 255) (n0 : ns ≤ 1000)

def yI (w h : Nat) (sw sh : Int) (ns : Nat) (s : List (List Int)) (y x : Nat) (v : fSized_l7475_T) : Prop := ∃ l, Gc w h l ∧ v = .mk (w : Int) (y : Int) (h : Int) (y : Int) true (w : Int) (x : Int) sw sh ns s 0 0 (w : Int) (h : Int) l
def yO (w h : Nat) (sw sh : Int) (ns : Nat) (s : List (List Int)) (y : Nat) (v : fSized_l29_T) : Prop := ∃ l, Gc w h l ∧ v = .mk (w : Int) (h : Int) (y : Int) sw sh ns s 0 0 (w : Int) (h : Int) l

include w1 h1 hd hc in
theorem y_step (y : Nat) : ∀ x v, x < w → yI w h sw sh ns s y x v → ∃ v', pick1 (fSized_l7475_st v).2 = some (.n, v') ∧ yI w h sw sh ns s y (x + 1) v' := by
  rintro x v hx ⟨l, g, rfl⟩
  have e0 : fSized_l7475_s0 (.mk (w : Int) (y : Int) (h : Int) (y : Int) true (w : Int) (x : Int) sw sh ns s 0 0 (w : Int) (h : Int) l) = true := by
    unfold fSized_l7475_s0
    exact decide_eq_true (Int.ofNat_lt.2 hx)
  have e1 : IntKind.wrap .i64 ((x : Int) + 1) = ((x + 1 : Nat) : Int) := by
    rw [w64_in (by omega) (by omega)]; omega
  unfold fSized_l7475_st
  rw [e0]
  refine ⟨_, rfl, ?_⟩
  refine ⟨_, ?_, by rw [show IntKind.wrap .i64 ((fSized_l7475_T.mk (w : Int) (y : Int) (h : Int) (y : Int) true (w : Int) (x : Int) sw sh ns s 0 0 (w : Int) (h : Int) l).a6 + 1) = ((x + 1 : Nat) : Int) from e1]⟩
  cases fSized_l7475_s1 _
  · exact g
  · show Gc w h (fSet_0 (w : Int) (h : Int) (x : Int) (y : Int) _ _ _ _ _ _ l)
    rw [set_eq w1 h1 g.1.1]
    cases inn w h (x : Int) (y : Int)
    · exact g
    · refine Gc_set g _ ?_ ?_ (hc _ 0 (by omega)) (hc _ 1 (by omega)) (hc _ 2 (by omega)) (hc _ 3 (by omega)) (hc _ 5 (by omega))
      · rw [w64_in (by have := (hd (0 + Int.toNat (fSized_l7475_s2 (.mk (w : Int) (y : Int) (h : Int) (y : Int) true (w : Int) (x : Int) sw sh ns s 0 0 (w : Int) (h : Int) l)))).1; exact Int.le_trans (by decide) this) (by have := (hd (0 + Int.toNat (fSized_l7475_s2 (.mk (w : Int) (y : Int) (h : Int) (y : Int) true (w : Int) (x : Int) sw sh ns s 0 0 (w : Int) (h : Int) l)))).2; exact Int.le_trans this (by decide))]
        exact (hd _).1
      · rw [w64_in (by have := (hd (0 + Int.toNat (fSized_l7475_s2 (.mk (w : Int) (y : Int) (h : Int) (y : Int) true (w : Int) (x : Int) sw sh ns s 0 0 (w : Int) (h : Int) l)))).1; exact Int.le_trans (by decide) this) (by have := (hd (0 + Int.toNat (fSized_l7475_s2 (.mk (w : Int) (y : Int) (h : Int) (y : Int) true (w : Int) (x : Int) sw sh ns s 0 0 (w : Int) (h : Int) l)))).2; exact Int.le_trans this (by decide))]
        exact (hd _).2
theorem y_end (y : Nat) : ∀ v, yI w h sw sh ns s y w v → pick1 (fSized_l7475_st v).2 = some (.e 2, v) := by
  rintro v ⟨l, g, rfl⟩
  have e0 : fSized_l7475_s0 (.mk (w : Int) (y : Int) (h : Int) (y : Int) true (w : Int) (w : Int) sw sh ns s 0 0 (w : Int) (h : Int) l) = false := by
    unfold fSized_l7475_s0
    exact decide_eq_false (Int.lt_irrefl _)
  unfold fSized_l7475_st
  rw [e0]; rfl
include w1 h1 in
theorem y_obs {y : Nat} (hy : y < h) : ∀ x v, x ≤ w → yI w h sw sh ns s y x v → Alls (fSized_l7475_st v).1 := by
  rintro x v hx ⟨l, g, rfl⟩
  have hyw : y * w ≤ 63 * 64 := Nat.mul_le_mul (by omega) (by omega)
  have c1 : (y : Int) * (w : Int) = ((y * w : Nat) : Int) := by simp
  have e2 : fSized_l7475_s2 (.mk (w : Int) (y : Int) (h : Int) (y : Int) true (w : Int) (x : Int) sw sh ns s 0 0 (w : Int) (h : Int) l) = Int.tmod ((y * w + x : Nat) : Int) (ns : Int) := by
    unfold fSized_l7475_s2
    show Int.tmod (IntKind.wrap .i64 (IntKind.wrap .i64 ((y : Int) * (w : Int)) + (x : Int))) (ns : Int) = _
    rw [c1, w64_in (n := ((y * w : Nat) : Int)) (by omega) (by omega), w64_in (by omega) (by omega)]; rfl
  refine ⟨fun _ g1 => ?_, fun _ g1 => ?_, fun _ _ g2 => set_ob w1 h1 g.1.1 g2, trivial⟩
  · have : (0 : Int) < (ns : Int) := of_decide_eq_true g1
    show (ns : Int) ≠ 0
    omega
  · have : (0 : Int) < (ns : Int) := of_decide_eq_true g1
    rw [e2, Int.tmod_eq_emod_of_nonneg (by omega)]
    exact ⟨Int.emod_nonneg _ (by omega), Int.emod_lt_of_pos _ this⟩
include w1 h1 hd hc in
theorem y_in {y : Nat} (hy : y < h) {v : fSized_l7475_T} (hv : yI w h sw sh ns s y 0 v) : (∃ v', lrun fSized_l7475_st 18446744073709551616 v = some (.e 2, v') ∧ yI w h sw sh ns s y w v') ∧ lok fSized_l7475_st 18446744073709551616 v :=
  inv_run (I := yI w h sw sh ns s y) (x := .e 2) nofun (y_step w1 h1 hd hc y) (y_end y) (y_obs w1 h1 hy) w 0 v (by omega) hv _ (by omega)

theorem yo_s0 {y : Nat} {l : List (List Int)} : fSized_l29_s0 (.mk (w : Int) (h : Int) (y : Int) sw sh ns s 0 0 (w : Int) (h : Int) l) = decide (y < h) := by
  unfold fSized_l29_s0
  exact decide_eq_decide.2 Int.ofNat_lt
include w1 h1 hd hc in
theorem yo_step : ∀ y v, y < h → yO w h sw sh ns s y v → ∃ v', pick1 (fSized_l29_st v).2 = some (.n, v') ∧ yO w h sw sh ns s (y + 1) v' := by
  rintro y v hy ⟨l, g, rfl⟩
  obtain ⟨⟨v', r, l', g', e'⟩, _⟩ := y_in (sw := sw) (sh := sh) (ns := ns) w1 h1 hd hc hy ⟨l, g, rfl⟩
  have e1 : fSized_l29_s1 (.mk (w : Int) (h : Int) (y : Int) sw sh ns s 0 0 (w : Int) (h : Int) l) = some (.e 2, v') := by
    unfold fSized_l29_s1
    rw [yo_s0, decide_eq_true hy]
    exact r
  unfold fSized_l29_st
  rw [yo_s0, decide_eq_true hy, e1]
  subst e'
  refine ⟨_, rfl, l', g', ?_⟩
  have e2 : IntKind.wrap .i64 ((y : Int) + 1) = ((y + 1 : Nat) : Int) := by
    rw [w64_in (by omega) (by omega)]; omega
  rw [← e2]; rfl
theorem yo_end : ∀ v, yO w h sw sh ns s h v → pick1 (fSized_l29_st v).2 = some (.e 0, v) := by
  rintro v ⟨l, g, rfl⟩
  unfold fSized_l29_st
  rw [yo_s0, decide_eq_false (Nat.lt_irrefl _)]; rfl
include w1 h1 hd hc in
theorem yo_obs : ∀ y v, y ≤ h → yO w h sw sh ns s y v → Alls (fSized_l29_st v).1 := by
  rintro y v hy ⟨l, g, rfl⟩
  unfold fSized_l29_st
  rw [yo_s0]
  refine ⟨fun k => ?_, trivial⟩
  rw [k]
  exact (y_in w1 h1 hd hc (of_decide_eq_true k) ⟨l, g, rfl⟩).2
end

theorem sizedC {x1 x2 : Int} (a1 : 1 ≤ x1) (b1 : x1 ≤ 64) (a2 : 1 ≤ x2) (b2 : x2 ≤ 64) (sw sh : Int) (ns : Nat) {s : List (List Int)} (hd : ∀ i, 0 ≤ rget s i 4 ∧ rget s i 4 ≤ 65535) (hc : ∀ i j, j ≠ 4 → 0 ≤ rget s i j ∧ rget s i j ≤ 255) :
    (fSized_0 sw sh ns x1 x2 s = (cl x1 : Int) ∧ fSized_1 sw sh ns x1 x2 s = (cl x2 : Int) ∧ Gc (cl x1) (cl x2) (fSized_2 sw sh ns x1 x2 s)) ∧ lok fSized_l29_st 18446744073709551616 (.mk x1 x2 0 sw sh ns s 0 0 (fNew_s2 x1) (fNew_s5 x2) (fNew_0 x1 x2 0 0 0 0 65535 0)) := by
  have e : fSized_l29_T.mk x1 x2 0 sw sh ns s 0 0 (fNew_s2 x1) (fNew_s5 x2) (fNew_0 x1 x2 0 0 0 0 65535 0) = .mk (cl x1 : Int) (cl x2 : Int) ((0 : Nat) : Int) sw sh ns s 0 0 (cl x1 : Int) (cl x2 : Int) (List.replicate (cl x1 * cl x2) [0, 0, 0, 0, 65535, 0]) := by
    rw [n_s2, n_s5, new_eq, cl_in a1 b1, cl_in a2 b2]; rfl
  have g : Gc (cl x1) (cl x2) (List.replicate (cl x1 * cl x2) [0, 0, 0, 0, 65535, 0]) := by
    refine ⟨⟨by rw [List.length_replicate], fun i hi => ?_⟩, fun i j hj => ?_⟩
    · unfold dOK
      rw [rget_rep hi]
      exact ⟨by decide, by decide⟩
    · have e : rget (List.replicate (cl x1 * cl x2) [0, 0, 0, 0, 65535, 0]) i j = 0 := by
        by_cases hi : i < cl x1 * cl x2
        · rw [rget_rep hi]
          match j, hj with
          | 0, _ => rfl
          | 1, _ => rfl
          | 2, _ => rfl
          | 3, _ => rfl
          | 5, _ => rfl
          | j + 6, _ => rfl
        · unfold rget
          rw [List.getD_eq_getElem?_getD (l := List.replicate _ _), List.getElem?_replicate, if_neg hi]; rfl
      rw [e]; decide
  obtain ⟨⟨v', r, l', g', e'⟩, k⟩ := inv_run (I := yO (cl x1) (cl x2) sw sh ns s) (x := .e 0) nofun (yo_step (cl_64 x1) (cl_64 x2) hd hc) yo_end (yo_obs (cl_64 x1) (cl_64 x2) hd hc) (cl x2) 0 _ (by omega) ⟨_, g, rfl⟩ 18446744073709551616 (by have := cl_64 x2; omega)
  refine ⟨⟨?_, ?_, ?_⟩, by rw [e]; exact k⟩
  · unfold fSized_0; rw [e, r, e']; rfl
  · unfold fSized_1; rw [e, r, e']; rfl
  · unfold fSized_2; rw [e, r, e']; exact g'


theorem tiles_eq {w : Nat} (w1 : w ≤ 64) : bTiles_0 (w : Int) = (((w + 7) / 8 : Nat) : Int) := by
  unfold bTiles_0 bTiles_s0
  rw [if_neg (show ¬ (w : Int) < 0 by omega), if_neg (show ¬ 64 < (w : Int) by omega), w64_in (n := (w : Int) + 8) (by omega) (by omega), w64_in (n := (w : Int) + 8 - 1) (by omega) (by omega), Int.tdiv_eq_ediv_of_nonneg (by omega), w64_in (by omega) (by omega)]
  omega
theorem tl_le {w : Nat} (w1 : w ≤ 64) : (w + 7) / 8 ≤ 8 := by omega
theorem gt_eq {w h : Nat} (w1 : w ≤ 64) (h1 : h ≤ 64) : bGTiles_0 (w : Int) (h : Int) = (((w + 7) / 8 * ((h + 7) / 8) : Nat) : Int) := by
  have : (w + 7) / 8 * ((h + 7) / 8) ≤ 8 * 8 := Nat.mul_le_mul (tl_le w1) (tl_le h1)
  unfold bGTiles_0
  rw [tiles_eq w1, tiles_eq h1, ← Int.natCast_mul, w64_in (by omega) (by omega)]

theorem ixp_eq {w h : Nat} (w1 : w ≤ 64) (h1 : h ≤ 64) {a b : Nat} (ha : a < w) (hb : b < h) : ixp w a b = b * w + a := by
  unfold ixp
  rw [(at_in (l := List.replicate (w * h) []) w1 h1 (by simp) ha hb).1]; rfl
theorem ixp_inj {w h : Nat} (w1 : w ≤ 64) (h1 : h ≤ 64) {a b c d : Nat} (ha : a < w) (hb : b < h) (hc : c < w) (hd : d < h) (e : ixp w a b = ixp w c d) : a = c ∧ b = d := by
  rw [ixp_eq w1 h1 ha hb, ixp_eq w1 h1 hc hd] at e
  have m : (b * w + a) % w = (d * w + c) % w := by rw [e]
  rw [Nat.mul_comm b, Nat.mul_comm d, Nat.mul_add_mod, Nat.mul_add_mod, Nat.mod_eq_of_lt ha, Nat.mod_eq_of_lt hc] at m
  subst m
  refine ⟨rfl, ?_⟩
  have : b * w = d * w := by omega
  exact Nat.eq_of_mul_eq_mul_right (by omega) this
theorem inn_nat {w h a b : Nat} : inn w h a b = decide (a < w ∧ b < h) := by
  unfold inn
  exact decide_eq_decide.2 ⟨fun k => by omega, fun k => by omega⟩

section
variable {w h : Nat} (ww : 1 ≤ w) (w1 : w ≤ 64) (hh : 1 ≤ h) (h1 : h ≤ 64) {l : List (List Int)} (hl : l.length = w * h) {X Y : Nat} (hX : X < w) (hY : Y < h) (P : List Int)
include w1 h1 hl hX hY
theorem Eq6_ne {x y : Nat} (ne : ¬ (x = X ∧ y = Y)) : Eq6 w h l (l.set (ixp w X Y) P) x y = true := by
  refine (Eq6_iff w1 h1 hl (by rw [List.length_set]; exact hl) x y).2 fun j hj => ?_
  unfold px
  rw [inn_nat]
  by_cases k : x < w ∧ y < h
  · rw [decide_eq_true k]
    show rget l (ixp w x y) j = rget (l.set _ _) (ixp w x y) j
    rw [rget_lset_ne _ fun e => ne (ixp_inj w1 h1 k.1 k.2 hX hY e)]
  · rw [decide_eq_false k]; rfl
end

/-- Tile t, by its column and its row. -/
structure Tl (w h t r q : Nat) : Prop where
  e : t = (w + 7) / 8 * q + r
  r1 : r < (w + 7) / 8
  q1 : q < (h + 7) / 8
theorem tl_of {w h t : Nat} (ww : 1 ≤ w) (ht : t < (w + 7) / 8 * ((h + 7) / 8)) : Tl w h t (t % ((w + 7) / 8)) (t / ((w + 7) / 8)) :=
  ⟨(Nat.div_add_mod t _).symm, Nat.mod_lt _ (by omega), Nat.div_lt_of_lt_mul ht⟩
theorem tl_n {w h t r q : Nat} (T : Tl w h t r q) {a b : Nat} (ha : a < (w + 7) / 8) : t = (w + 7) / 8 * b + a ↔ r = a ∧ q = b := by
  have e := T.e
  have r1 := T.r1
  constructor
  · intro k
    rw [e] at k
    have m : ((w + 7) / 8 * q + r) % ((w + 7) / 8) = ((w + 7) / 8 * b + a) % ((w + 7) / 8) := by rw [k]
    rw [Nat.mul_add_mod, Nat.mul_add_mod, Nat.mod_eq_of_lt r1, Nat.mod_eq_of_lt ha] at m
    subst m
    have k' : (w + 7) / 8 * q = (w + 7) / 8 * b := by omega
    exact ⟨rfl, Nat.eq_of_mul_eq_mul_left (by omega) k'⟩
  · rintro ⟨rfl, rfl⟩; exact e

section
variable {w h : Nat} (ww : 1 ≤ w) (w1 : w ≤ 64) (hh : 1 ≤ h) (h1 : h ≤ 64) {t r q : Nat} (T : Tl w h t r q) (er : r = t % ((w + 7) / 8)) (eq : q = t / ((w + 7) / 8)) (ht : t < (w + 7) / 8 * ((h + 7) / 8))
include w1 h1 T er eq ht
theorem box_s0 : bBox_s0 (w : Int) (h : Int) (t : Int) = false := by
  unfold bBox_s0
  rw [gt_eq w1 h1, decide_eq_false (show ¬ (t : Int) < 0 by omega), decide_eq_false (show ¬ (((w + 7) / 8 * ((h + 7) / 8) : Nat) : Int) ≤ (t : Int) by omega)]; rfl
theorem box_s1 : bBox_s1 (w : Int) (t : Int) = ((r * 8 : Nat) : Int) := by
  have r1 := T.r1
  have e : ((t : Int) % (((w + 7) / 8 : Nat) : Int)) = (r : Int) := by rw [er]; exact (Int.natCast_emod t _).symm
  unfold bBox_s1
  rw [tiles_eq w1, Int.tmod_eq_emod_of_nonneg (by omega), e, w64_in (by omega) (by omega)]; omega
theorem box_s2 : bBox_s2 (w : Int) (t : Int) = ((q * 8 : Nat) : Int) := by
  have q1 := T.q1
  have e : ((t : Int) / (((w + 7) / 8 : Nat) : Int)) = (q : Int) := by rw [eq]; exact (Int.natCast_ediv t _).symm
  unfold bBox_s2
  rw [tiles_eq w1, Int.tdiv_eq_ediv_of_nonneg (by omega), e, w64_in (n := (q : Int)) (by omega) (by omega), w64_in (by omega) (by omega)]; omega
theorem box_0 : bBox_0 (w : Int) (h : Int) (t : Int) = ((r * 8 : Nat) : Int) := by
  unfold bBox_0
  rw [box_s0 w1 h1 T er eq ht, box_s1 w1 h1 T er eq ht]; rfl
theorem box_1 : bBox_1 (w : Int) (h : Int) (t : Int) = ((q * 8 : Nat) : Int) := by
  unfold bBox_1
  rw [box_s0 w1 h1 T er eq ht, box_s2 w1 h1 T er eq ht]; rfl
theorem box_2 : bBox_2 (w : Int) (h : Int) (t : Int) = ((min w (r * 8 + 8) : Nat) : Int) := by
  have r1 := T.r1
  unfold bBox_2 bBox_s3
  rw [box_s0 w1 h1 T er eq ht, box_s1 w1 h1 T er eq ht, w64_in (by omega) (by omega)]
  show (if (w : Int) < ((r * 8 : Nat) : Int) + 8 then (w : Int) else ((r * 8 : Nat) : Int) + 8) = _
  split <;> omega
theorem box_3 : bBox_3 (w : Int) (h : Int) (t : Int) = ((min h (q * 8 + 8) : Nat) : Int) := by
  have q1 := T.q1
  unfold bBox_3 bBox_s4
  rw [box_s0 w1 h1 T er eq ht, box_s2 w1 h1 T er eq ht, w64_in (by omega) (by omega)]
  show (if (h : Int) < ((q * 8 : Nat) : Int) + 8 then (h : Int) else ((q * 8 : Nat) : Int) + 8) = _
  split <;> omega
end

theorem row_dep {s : List (List Int)} (p : ∀ row ∈ s, RowFit [.int .u8, .int .u8, .int .u8, .int .u8, .int .u16, .int .u8] row) (i : Nat) : 0 ≤ rget s i 4 ∧ rget s i 4 ≤ 65535 := by
  unfold rget
  rw [List.getD_eq_getElem?_getD (l := s)]
  cases h : s[i]? with
  | none => exact ⟨by decide, by decide⟩
  | some row =>
    obtain ⟨a, b⟩ := p row (List.mem_of_getElem? h)
    have hr : row.length = 6 := a
    have e : row[4]? = some row[4] := List.getElem?_eq_getElem (by omega)
    obtain ⟨k1, k2⟩ : IntKind.min .u16 ≤ row[4] ∧ row[4] ≤ IntKind.max .u16 := b 4 (.int .u16) _ rfl e
    show 0 ≤ row.getD 4 0 ∧ row.getD 4 0 ≤ 65535
    rw [List.getD_eq_getElem?_getD, e]
    exact bd_u16 k1 k2
theorem row_col {s : List (List Int)} (p : ∀ row ∈ s, RowFit [.int .u8, .int .u8, .int .u8, .int .u8, .int .u16, .int .u8] row) (i j : Nat) (hj : j ≠ 4) : 0 ≤ rget s i j ∧ rget s i j ≤ 255 := by
  unfold rget
  rw [List.getD_eq_getElem?_getD (l := s)]
  cases h : s[i]? with
  | none => exact (show 0 ≤ ([] : List Int).getD j 0 ∧ ([] : List Int).getD j 0 ≤ 255 from ⟨by simp, by simp⟩)
  | some row =>
    obtain ⟨a, b⟩ := p row (List.mem_of_getElem? h)
    have hr : row.length = 6 := a
    show 0 ≤ row.getD j 0 ∧ row.getD j 0 ≤ 255
    rw [List.getD_eq_getElem?_getD]
    by_cases h6 : j < 6
    · have e : row[j]? = some row[j] := List.getElem?_eq_getElem (by omega)
      obtain ⟨k1, k2⟩ : IntKind.min .u8 ≤ row[j] ∧ row[j] ≤ IntKind.max .u8 := b j (.int .u8) _ (by match j, hj, h6 with | 0, _, _ => rfl | 1, _, _ => rfl | 2, _, _ => rfl | 3, _, _ => rfl | 5, _, _ => rfl) e
      rw [e]
      exact bd_u8 k1 k2
    · rw [List.getElem?_eq_none (by omega)]
      exact (show (0 : Int) ≤ 0 ∧ (0 : Int) ≤ 255 by decide)

theorem sm_0 {x : Int} (a : 0 ≤ x) (b : x ≤ 255) : 1 ≤ fSmF_s0 x ∧ fSmF_s0 x ≤ 20 := by
  unfold fSmF_s0
  rw [Int.tmod_eq_emod_of_nonneg a, w64_in (n := x % 20) (by omega) (by omega), w64_in (by omega) (by omega)]
  omega
theorem sm_1 {x : Int} (a : 0 ≤ x) (b : x ≤ 255) : 1 ≤ fSmF_s1 x ∧ fSmF_s1 x ≤ 20 := by
  unfold fSmF_s1
  rw [Int.tmod_eq_emod_of_nonneg a, w64_in (n := x % 20) (by omega) (by omega), w64_in (by omega) (by omega)]
  omega

theorem tm_nat {x : Int} {w : Nat} (a : 0 ≤ x) (b : x ≤ 255) (ww : 1 ≤ w) : Int.tmod (IntKind.wrap .i64 x) (w : Int) = ((x.toNat % w : Nat) : Int) := by
  rw [w64_in (by omega) (by omega), Int.tmod_eq_emod_of_nonneg a, Int.natCast_emod, Int.toNat_of_nonneg a]

section
variable {w h : Nat} (ww : 1 ≤ w) (w1 : w ≤ 64) (hh : 1 ≤ h) (h1 : h ≤ 64) {l : List (List Int)} (g : Gc w h l) {X Y : Nat} (hX : X < w) (hY : Y < h)
include w1 h1 hX hY
theorem n_eq : IntKind.wrap .i64 (IntKind.wrap .i64 (bTiles_0 (w : Int) * IntKind.wrap .i64 (Int.tdiv (Y : Int) 8)) + IntKind.wrap .i64 (Int.tdiv (X : Int) 8)) = (((w + 7) / 8 * (Y / 8) + X / 8 : Nat) : Int) := by
  have : (w + 7) / 8 * (Y / 8) ≤ 8 * 8 := Nat.mul_le_mul (tl_le w1) (by omega)
  have e1 : Int.tdiv (Y : Int) 8 = ((Y / 8 : Nat) : Int) := by rw [Int.tdiv_eq_ediv_of_nonneg (by omega)]; omega
  have e2 : Int.tdiv (X : Int) 8 = ((X / 8 : Nat) : Int) := by rw [Int.tdiv_eq_ediv_of_nonneg (by omega)]; omega
  rw [e1, e2, tiles_eq w1, w64_in (n := ((Y / 8 : Nat) : Int)) (by omega) (by omega), w64_in (n := ((X / 8 : Nat) : Int)) (by omega) (by omega), ← Int.natCast_mul, w64_in (n := (((w + 7) / 8 * (Y / 8) : Nat) : Int)) (by omega) (by omega), w64_in (by omega) (by omega)]
  omega
include g in
theorem set_in (p0 p1 p2 p3 p4 p5 : Int) : fSet_0 (w : Int) (h : Int) (X : Int) (Y : Int) p0 p1 p2 p3 p4 p5 (sClone_s0 l) = l.set (ixp w X Y) [p0, p1, p2, p3, p4, p5] := by
  show fSet_0 (w : Int) (h : Int) (X : Int) (Y : Int) p0 p1 p2 p3 p4 p5 l = _
  rw [set_eq w1 h1 g.1.1, inn_nat, decide_eq_true ⟨hX, hY⟩]; rfl
end

end Go.Proofs.Ytcdejlgophpdjaa
end

section
namespace Go.Proofs.Ytcdejlgophpdjaa
open Go Go.RowKit Go.Proofs.Ytcdejlgophpdjaa.V
set_option linter.unusedVariables false
set_option linter.unusedSectionVars false

namespace Crc
def poly : BitVec 32 := 0x04c11db7#32
def stp (s : BitVec 32) (d : Bool) : BitVec 32 := (s <<< 1) ^^^ (bif s.msb ^^ d then poly else 0#32)
def cst (n : BitVec 32) : BitVec 32 := bif n.msb then (n <<< 1) ^^^ poly else n <<< 1

theorem cst_stp (s m : BitVec 32) : cst (s ^^^ m) = stp s m.msb ^^^ (m <<< 1) := by
  unfold cst stp
  rw [BitVec.msb_xor]
  cases s.msb ^^ m.msb
  · simp [BitVec.shiftLeft_xor_distrib]
  · simp only [cond_true, BitVec.shiftLeft_xor_distrib]
    rw [BitVec.xor_assoc, BitVec.xor_assoc, BitVec.xor_comm (m <<< 1)]

def byteBits (c : Nat) : List Bool := [c.testBit 7, c.testBit 6, c.testBit 5, c.testBit 4, c.testBit 3, c.testBit 2, c.testBit 1, c.testBit 0]

theorem msb_at (c j : Nat) (h : j < 8) : ((BitVec.ofNat 32 c <<< 24) <<< j).msb = c.testBit (7 - j) := by
  rw [BitVec.msb_eq_getLsbD_last, BitVec.getLsbD_shiftLeft, BitVec.getLsbD_shiftLeft, BitVec.getLsbD_ofNat]
  match j, h with
  | 0, _ => simp
  | 1, _ => simp
  | 2, _ => simp
  | 3, _ => simp
  | 4, _ => simp
  | 5, _ => simp
  | 6, _ => simp
  | 7, _ => simp

def cstN (n : BitVec 32) : Nat → BitVec 32
  | 0 => n
  | k + 1 => cst (cstN n k)

theorem cst8 (s : BitVec 32) (c : Nat) : cstN (s ^^^ (BitVec.ofNat 32 c <<< 24)) 8 = (byteBits c).foldl stp s := by
  have e : ∀ j, (BitVec.ofNat 32 c <<< 24) <<< j = BitVec.ofNat 32 c <<< (24 + j) := fun j => by rw [BitVec.shiftLeft_add]
  have k : ∀ s' j, cst (s' ^^^ ((BitVec.ofNat 32 c <<< 24) <<< j)) = stp s' ((BitVec.ofNat 32 c <<< 24) <<< j).msb ^^^ ((BitVec.ofNat 32 c <<< 24) <<< (j + 1)) := fun s' j => by
    rw [cst_stp, BitVec.shiftLeft_add (BitVec.ofNat 32 c <<< 24) j 1]
  have h0 : (BitVec.ofNat 32 c <<< 24) = (BitVec.ofNat 32 c <<< 24) <<< 0 := by simp
  have z : (BitVec.ofNat 32 c <<< 24) <<< 8 = 0#32 := by
    rw [e]
    apply BitVec.eq_of_toNat_eq
    simp
  unfold cstN cstN cstN cstN cstN cstN cstN cstN cstN
  rw [h0, k, k, k, k, k, k, k, k, z, BitVec.xor_zero, msb_at c 0 (by omega), msb_at c 1 (by omega), msb_at c 2 (by omega), msb_at c 3 (by omega), msb_at c 4 (by omega), msb_at c 5 (by omega), msb_at c 6 (by omega), msb_at c 7 (by omega)]
  rfl

/-! The register's side. -/
def byt (l : List (List Int)) (i : Nat) : Nat := (rget l i 0).toNat
def bitsTo (l : List (List Int)) : Nat → List Bool
  | 0 => []
  | i + 1 => bitsTo l i ++ byteBits (byt l i)
def reg (l : List (List Int)) (i : Nat) : BitVec 32 := (bitsTo l i).foldl stp (BitVec.allOnes 32)
theorem reg_succ (l : List (List Int)) (i : Nat) : reg l (i + 1) = (byteBits (byt l i)).foldl stp (reg l i) := by
  unfold reg; rw [bitsTo, List.foldl_append]

theorem wu32 (n : Nat) : IntKind.wrap .u32 (n : Int) = ((n % 4294967296 : Nat) : Int) := by
  unfold IntKind.wrap
  simp only [IntKind.bits, IntKind.signed, Bool.false_and, Bool.false_eq_true, if_false]
  have : (2 : Int) ^ 32 = 4294967296 := by decide
  rw [this]; omega

theorem bv_dbl (x : BitVec 32) : IntKind.wrap .u32 ((x.toNat : Int) * 2 ^ min (Int.toNat 1) (IntKind.bits .u32)) = (((x <<< 1).toNat : Nat) : Int) := by
  have : (2 : Int) ^ min (Int.toNat 1) (IntKind.bits .u32) = 2 := by decide
  rw [this, show (x.toNat : Int) * 2 = ((x.toNat * 2 : Nat) : Int) by omega, wu32, BitVec.toNat_shiftLeft, Nat.shiftLeft_eq]

theorem bv_xor (x y : BitVec 32) : IntKind.wrap .u32 (Int.ofNat (Int.toNat ((x.toNat : Int) % Int.ofNat (2 ^ IntKind.bits .u32)) ^^^ Int.toNat ((y.toNat : Int) % Int.ofNat (2 ^ IntKind.bits .u32)))) = (((x ^^^ y).toNat : Nat) : Int) := by
  have e : Int.ofNat (2 ^ IntKind.bits .u32) = 4294967296 := by decide
  have hx := x.isLt
  have hy := y.isLt
  rw [e, show (x.toNat : Int) % 4294967296 = (x.toNat : Int) by omega, show (y.toNat : Int) % 4294967296 = (y.toNat : Int) by omega]
  show IntKind.wrap .u32 ((x.toNat ^^^ y.toNat : Nat) : Int) = _
  rw [wu32, ← BitVec.toNat_xor, Nat.mod_eq_of_lt (x ^^^ y).isLt]

theorem bv_msb (x : BitVec 32) : (Int.fdiv (x.toNat : Int) (2 ^ min (Int.toNat 31) (IntKind.bits .u32)) == 1) = x.msb := by
  have e : (2 : Int) ^ min (Int.toNat 31) (IntKind.bits .u32) = 2147483648 := by decide
  have hx := x.isLt
  rw [e, Int.fdiv_eq_ediv_of_nonneg _ (by omega), BitVec.msb_eq_decide]
  by_cases h : 2 ^ (32 - 1) ≤ x.toNat
  · rw [decide_eq_true h, show (x.toNat : Int) / 2147483648 = 1 by omega]; rfl
  · rw [decide_eq_false h, show (x.toNat : Int) / 2147483648 = 0 by omega]; rfl

def qS (c n i : Int) (l : List (List Int)) (x : BitVec 32) (k : Nat) : cSum_l14951_T := .mk 0 ((cstN x k).toNat : Int) c n i true (k : Int) l
theorem q_step (c n i : Int) (l : List (List Int)) (x : BitVec 32) (k : Nat) (hk : k < 8) : pick1 (cSum_l14951_st (qS c n i l x k)).2 = some (.n, qS c n i l x (k + 1)) := by
  have e0 : cSum_l14951_s0 (qS c n i l x k) = true := by
    unfold cSum_l14951_s0
    exact decide_eq_true (show (k : Int) < 8 by omega)
  have e1 : IntKind.wrap .i64 ((k : Int) + 1) = ((k + 1 : Nat) : Int) := by
    rw [w64_in (by omega) (by omega)]; omega
  have es : cSum_l14951_s1 (qS c n i l x k) = ((cstN x k <<< 1).toNat : Int) := by
    unfold cSum_l14951_s1
    exact bv_dbl (cstN x k)
  have e2 : (bif Int.fdiv (qS c n i l x k).a1 (2 ^ min (Int.toNat 31) (IntKind.bits .u32)) == 1 then IntKind.wrap .u32 (Int.ofNat (Int.toNat (cSum_l14951_s1 (qS c n i l x k) % cSum_l14951_s2) ^^^ Int.toNat (79764919 % cSum_l14951_s2))) else cSum_l14951_s1 (qS c n i l x k)) = ((cstN x (k + 1)).toNat : Int) := by
    rw [es]
    have hm : (Int.fdiv (qS c n i l x k).a1 (2 ^ min (Int.toNat 31) (IntKind.bits .u32)) == 1) = (cstN x k).msb := bv_msb _
    rw [hm]
    have hx : IntKind.wrap .u32 (Int.ofNat (Int.toNat (((cstN x k <<< 1).toNat : Int) % cSum_l14951_s2) ^^^ Int.toNat (79764919 % cSum_l14951_s2))) = (((cstN x k <<< 1) ^^^ poly).toNat : Int) := bv_xor (cstN x k <<< 1) poly
    rw [hx, cstN, cst]
    cases (cstN x k).msb <;> rfl
  unfold cSum_l14951_st
  rw [e0, e2]
  have : IntKind.wrap .i64 ((qS c n i l x k).a6 + 1) = ((k + 1 : Nat) : Int) := e1
  rw [this]; rfl
theorem q_end (c n i : Int) (l : List (List Int)) (x : BitVec 32) : pick1 (cSum_l14951_st (qS c n i l x 8)).2 = some (.e 2, qS c n i l x 8) := rfl
theorem q_run (c n i : Int) (l : List (List Int)) (x : BitVec 32) : lrun cSum_l14951_st 18446744073709551616 (qS c n i l x 0) = some (.e 2, qS c n i l x 8) :=
  lx_run (s := qS c n i l x) (q_step c n i l x) (q_end c n i l x) nofun (by omega)

def oS (l : List (List Int)) (i : Nat) : cSum_l29_T := .mk 0 ((reg l i).toNat : Int) (Int.ofNat l.length) (i : Int) l
theorem o_s2 {l : List (List Int)} (hb : ∀ i, 0 ≤ rget l i 0 ∧ rget l i 0 ≤ 255) (i : Nat) (hi : i < l.length) : cSum_l29_s2 (oS l i) = some (.e 2, qS (rget l i 0) (Int.ofNat l.length) (i : Int) l (reg l i ^^^ (BitVec.ofNat 32 (byt l i) <<< 24)) 8) := by
  have hb' := hb i
  have hB : (rget l i 0 : Int) = ((byt l i : Nat) : Int) := (Int.toNat_of_nonneg hb'.1).symm
  have h8 : byt l i ≤ 255 := by omega
  have e0 : cSum_l29_s0 (oS l i) = true := by
    unfold cSum_l29_s0
    exact decide_eq_true (Int.ofNat_lt.2 hi)
  have e1 : IntKind.wrap .u32 (IntKind.wrap .u32 (rget l i 0) * 2 ^ min (Int.toNat 24) (IntKind.bits .u32)) = (((BitVec.ofNat 32 (byt l i) <<< 24).toNat : Nat) : Int) := by
    have : (2 : Int) ^ min (Int.toNat 24) (IntKind.bits .u32) = 16777216 := by decide
    rw [this, hB, wu32, Nat.mod_eq_of_lt (by omega), show ((byt l i : Nat) : Int) * 16777216 = ((byt l i * 16777216 : Nat) : Int) by omega, wu32, BitVec.toNat_shiftLeft, BitVec.toNat_ofNat, Nat.shiftLeft_eq, Nat.mod_eq_of_lt (show byt l i < 2 ^ 32 by omega)]
  have e2 : IntKind.wrap .u32 (Int.ofNat (Int.toNat (((reg l i).toNat : Int) % cSum_l29_s1) ^^^ Int.toNat (IntKind.wrap .u32 (IntKind.wrap .u32 (rget l i 0) * 2 ^ min (Int.toNat 24) (IntKind.bits .u32)) % cSum_l29_s1))) = (((reg l i ^^^ (BitVec.ofNat 32 (byt l i) <<< 24)).toNat : Nat) : Int) := by
    rw [e1]; exact bv_xor _ _
  unfold cSum_l29_s2
  show lrun _ _ (cSum_l14951_T.mk 0 (IntKind.wrap .u32 (Int.ofNat (Int.toNat (((reg l i).toNat : Int) % cSum_l29_s1) ^^^ Int.toNat (IntKind.wrap .u32 (IntKind.wrap .u32 (rget l i 0) * 2 ^ min (Int.toNat 24) (IntKind.bits .u32)) % cSum_l29_s1)))) (rget l i 0) (Int.ofNat l.length) (i : Int) (cSum_l29_s0 (oS l i)) 0 l) = _
  rw [e2, e0]
  exact q_run _ _ _ _ _
theorem o_step {l : List (List Int)} (hb : ∀ i, 0 ≤ rget l i 0 ∧ rget l i 0 ≤ 255) (hL : l.length ≤ 100000) (i : Nat) (hi : i < l.length) : pick1 (cSum_l29_st (oS l i)).2 = some (.n, oS l (i + 1)) := by
  have e0 : cSum_l29_s0 (oS l i) = true := by
    unfold cSum_l29_s0
    exact decide_eq_true (Int.ofNat_lt.2 hi)
  have e1 : IntKind.wrap .i64 ((i : Int) + 1) = ((i + 1 : Nat) : Int) := by
    rw [w64_in (by omega) (by omega)]; omega
  unfold cSum_l29_st
  rw [e0, o_s2 hb i hi]
  show some (X.n, cSum_l29_T.mk 0 ((cstN (reg l i ^^^ (BitVec.ofNat 32 (byt l i) <<< 24)) 8).toNat : Int) (Int.ofNat l.length) (IntKind.wrap .i64 ((i : Int) + 1)) l) = _
  rw [e1, cst8, ← reg_succ]; rfl
theorem o_end (l : List (List Int)) : pick1 (cSum_l29_st (oS l l.length)).2 = some (.e 0, oS l l.length) := by
  have e0 : cSum_l29_s0 (oS l l.length) = false := by
    unfold cSum_l29_s0
    exact decide_eq_false (Int.lt_irrefl _)
  unfold cSum_l29_st
  rw [e0]; rfl
theorem cSum_eq {l : List (List Int)} (hb : ∀ i, 0 ≤ rget l i 0 ∧ rget l i 0 ≤ 255) (hL : l.length ≤ 100000) : cSum_0 l = (((BitVec.allOnes 32 ^^^ reg l l.length).toNat : Nat) : Int) := by
  have r : lrun cSum_l29_st 18446744073709551616 (cSum_l29_T.mk 0 4294967295 (Int.ofNat l.length) 0 l) = some (.e 0, oS l l.length) :=
    lx_run (s := oS l) (o_step hb hL) (o_end l) nofun (by omega)
  unfold cSum_0
  rw [r]
  exact bv_xor (BitVec.allOnes 32) (reg l l.length)

/-! The reference's side. -/
def Bi (b : Bool) : Int := bif b then 1 else 0
def raw (bs : List Bool) (j : Nat) : Bool := bs.getD j false
def regB (bs : List Bool) (i : Nat) : BitVec 32 := (bs.take i).foldl stp (BitVec.allOnes 32)
theorem regB_succ (bs : List Bool) {i : Nat} (hi : i < bs.length) : regB bs (i + 1) = stp (regB bs i) (raw bs i) := by
  unfold regB raw
  rw [List.take_succ_eq_append_getElem hi, List.foldl_append, List.getD_eq_getElem?_getD, List.getElem?_eq_getElem hi]; rfl

theorem regB_0 (bs : List Bool) : regB bs 0 = BitVec.allOnes 32 := by unfold regB; rw [List.take_zero, List.foldl_nil]

/-- The bits that are left, from place i on. -/
def Win (bs : List Bool) (L : List (List Int)) (i : Nat) (s : BitVec 32) : Prop := L.length = bs.length + 32 ∧ ∀ t, i + t < bs.length + 32 → rget L (i + t) 0 = Bi (s.getMsbD t ^^ raw bs (i + t))

def flip1 (L : List (List Int)) (p : Nat) : List (List Int) := L.set p [IntKind.wrap .u8 (1 - rget L p 0)]
def flips (L : List (List Int)) (i : Nat) (ts : List Nat) : List (List Int) := ts.foldl (fun L t => flip1 L (i + t)) L
theorem flip1_len (L : List (List Int)) (p : Nat) : (flip1 L p).length = L.length := List.length_set
theorem flips_len (i : Nat) : ∀ (ts : List Nat) (L : List (List Int)), (flips L i ts).length = L.length
  | [], L => rfl
  | t :: ts, L => by
    show (flips (flip1 L (i + t)) i ts).length = _
    rw [flips_len i ts, flip1_len]
theorem flips_get (i j : Nat) : ∀ (ts : List Nat) (L : List (List Int)), ts.Nodup → i + j < L.length → rget (flips L i ts) (i + j) 0 = if j ∈ ts then IntKind.wrap .u8 (1 - rget L (i + j) 0) else rget L (i + j) 0
  | [], L, _, _ => by simp [flips]
  | t :: ts, L, hn, hj => by
    rw [List.nodup_cons] at hn
    show rget (flips (flip1 L (i + t)) i ts) (i + j) 0 = _
    rw [flips_get i j ts _ hn.2 (by rw [flip1_len]; exact hj)]
    unfold flip1
    by_cases e : j = t
    · subst e
      rw [if_neg hn.1, rget_lset_eq _ hj, if_pos (by simp)]; rfl
    · rw [rget_lset_ne _ (show i + j ≠ i + t by omega)]
      simp [e]
theorem flip_B (b : Bool) : IntKind.wrap .u8 (1 - Bi b) = Bi (!b) := by cases b <;> rfl

def terms : List Nat := [0, 6, 9, 10, 16, 20, 21, 22, 24, 25, 27, 28, 30, 31, 32]
theorem poly_terms : ∀ t : Nat, t < 32 → poly.getMsbD t = decide (t + 1 ∈ terms) := by decide +kernel

theorem stp_get (s : BitVec 32) (d : Bool) (t : Nat) (ht : t < 32) : (stp s d).getMsbD t = (s.getMsbD (t + 1) ^^ ((s.msb ^^ d) && poly.getMsbD t)) := by
  unfold stp
  rw [BitVec.getMsbD_xor, BitVec.getMsbD_shiftLeft]
  cases s.msb ^^ d <;> simp

theorem win_step {bs : List Bool} {L : List (List Int)} {i : Nat} {s : BitVec 32} (w : Win bs L i s) (hi : i < bs.length) :
    rget L i 0 = Bi (s.msb ^^ raw bs i) ∧ ((s.msb ^^ raw bs i) = false → Win bs L (i + 1) (stp s (raw bs i))) ∧ ((s.msb ^^ raw bs i) = true → Win bs (flips L i terms) (i + 1) (stp s (raw bs i))) := by
  obtain ⟨hl, w⟩ := w
  have g32 : ∀ t, 32 ≤ t → s.getMsbD t = false := fun t h => by simp [BitVec.getMsbD]; omega
  have gst : ∀ t, 32 ≤ t → (stp s (raw bs i)).getMsbD t = false := fun t h => by simp [BitVec.getMsbD]; omega
  refine ⟨?_, fun h => ⟨hl, fun t ht => ?_⟩, fun h => ⟨by rw [flips_len]; exact hl, fun t ht => ?_⟩⟩
  · have := w 0 (by omega)
    rw [Nat.add_zero] at this
    rw [this]; rfl
  · have e := w (t + 1) (by omega)
    rw [show i + 1 + t = i + (t + 1) by omega, e]
    by_cases h32 : t < 32
    · rw [stp_get _ _ _ h32, h]; simp
    · rw [g32 _ (by omega), gst _ (by omega)]
  · have e := w (t + 1) (by omega)
    rw [show i + 1 + t = i + (t + 1) by omega, flips_get i (t + 1) terms L (by decide) (by rw [hl]; omega), e, flip_B]
    by_cases h32 : t < 32
    · rw [stp_get _ _ _ h32, h, poly_terms t h32]
      by_cases m : t + 1 ∈ terms
      · rw [if_pos m, decide_eq_true m]
        cases s.getMsbD (t + 1) <;> cases raw bs (i + (t + 1)) <;> rfl
      · rw [if_neg m, decide_eq_false m]; simp
    · rw [g32 _ (by omega), gst _ (by omega), if_neg]
      intro m
      have : ∀ x ∈ terms, x ≤ 32 := by decide
      have := this _ m
      omega

def rows (bs : List Bool) : List (List Int) := bs.map fun b => [Bi b]
theorem rows_len (bs : List Bool) : (rows bs).length = bs.length := by simp [rows]
theorem rows_get (bs : List Bool) (j : Nat) : rget (rows bs) j 0 = Bi (raw bs j) := by
  unfold rget rows raw
  rw [List.getD_eq_getElem?_getD (l := List.map _ _), List.getElem?_map, List.getD_eq_getElem?_getD (l := bs)]
  cases bs[j]? <;> rfl

/-- The first so many are turned. -/
def turn (L : List (List Int)) (k : Nat) : List (List Int) := (List.range k).foldl flip1 L
theorem turn_succ (L : List (List Int)) (k : Nat) : turn L (k + 1) = flip1 (turn L k) k := by
  unfold turn; rw [List.range_succ, List.foldl_append]; rfl
theorem turn_len (L : List (List Int)) : ∀ k, (turn L k).length = L.length
  | 0 => rfl
  | k + 1 => by rw [turn_succ, flip1_len, turn_len L k]
theorem turn_get (L : List (List Int)) (j : Nat) (hj : j < L.length) : ∀ k, rget (turn L k) j 0 = if j < k then IntKind.wrap .u8 (1 - rget L j 0) else rget L j 0
  | 0 => by simp [turn]
  | k + 1 => by
    rw [turn_succ]
    unfold flip1
    by_cases e : j = k
    · subst e
      rw [rget_lset_eq _ (by rw [turn_len]; exact hj), turn_get L j hj j, if_neg (by omega), if_pos (by omega)]; rfl
    · rw [rget_lset_ne _ e, turn_get L j hj k]
      by_cases h : j < k
      · rw [if_pos h, if_pos (by omega)]
      · rw [if_neg h, if_neg (by omega)]

theorem win_0 (bs : List Bool) : Win bs (turn (rows bs ++ List.replicate 32 [0]) 32) 0 (BitVec.allOnes 32) := by
  have hl : (rows bs ++ List.replicate 32 [0]).length = bs.length + 32 := by rw [List.length_append, rows_len, List.length_replicate]
  refine ⟨by rw [turn_len, hl], fun t ht => ?_⟩
  rw [Nat.zero_add] at ht ⊢
  have e : rget (rows bs ++ List.replicate 32 [0]) t 0 = Bi (raw bs t) := by
    by_cases h : t < bs.length
    · rw [← rows_get]
      unfold rget
      rw [List.getD_eq_getElem?_getD (l := rows bs ++ _), List.getElem?_append_left (by rw [rows_len]; exact h), List.getD_eq_getElem?_getD (l := rows bs)]
    · unfold rget raw
      rw [List.getD_eq_getElem?_getD (l := rows bs ++ _), List.getElem?_append_right (by rw [rows_len]; omega), List.getElem?_replicate, rows_len, if_pos (by omega), List.getD_eq_getElem?_getD (l := bs), List.getElem?_eq_none (by omega)]; rfl
  rw [turn_get _ _ (by rw [hl]; exact ht), e, flip_B]
  by_cases h : t < 32
  · rw [if_pos h]
    have : (BitVec.allOnes 32).getMsbD t = true := by
      have : ∀ t : Nat, t < 32 → (BitVec.allOnes 32).getMsbD t = true := by decide +kernel
      exact this t h
    rw [this]; simp
  · rw [if_neg h]
    have : (BitVec.allOnes 32).getMsbD t = false := by
      unfold BitVec.getMsbD
      rw [decide_eq_false h]; rfl
    rw [this]; simp

/-! The reference's loops. -/
def bI (l : List (List Int)) (i : Nat) (k : Nat) : rSum_l1865_T := .mk 0 (i : Int) (7 - (k : Int)) true l (rows (bitsTo l i ++ (byteBits (byt l i)).take k))
theorem bb_get (c k : Nat) (h : k < 8) : (byteBits c).take (k + 1) = (byteBits c).take k ++ [c.testBit (7 - k)] := by
  match k, h with
  | 0, _ => rfl
  | 1, _ => rfl
  | 2, _ => rfl
  | 3, _ => rfl
  | 4, _ => rfl
  | 5, _ => rfl
  | 6, _ => rfl
  | 7, _ => rfl
theorem bit_of (c k : Nat) (h : k < 8) : Int.tmod (Int.fdiv (c : Int) (2 ^ min (Int.toNat (7 - (k : Int))) (IntKind.bits .u8))) 2 = Bi (c.testBit (7 - k)) := by
  have e : (2 : Int) ^ min (Int.toNat (7 - (k : Int))) (IntKind.bits .u8) = ((2 ^ (7 - k) : Nat) : Int) := by
    have : min (Int.toNat (7 - (k : Int))) (IntKind.bits .u8) = 7 - k := by
      show min (Int.toNat (7 - (k : Int))) 8 = _
      omega
    rw [this, Int.natCast_pow]; rfl
  rw [e, Int.fdiv_eq_ediv_of_nonneg _ (Int.natCast_nonneg _), ← Int.natCast_ediv, Int.tmod_eq_emod_of_nonneg (Int.natCast_nonneg _), Nat.testBit_eq_decide_div_mod_eq]
  have : c / 2 ^ (7 - k) % 2 < 2 := Nat.mod_lt _ (by omega)
  by_cases h1 : c / 2 ^ (7 - k) % 2 = 1
  · rw [decide_eq_true h1]
    show _ = (1 : Int)
    omega
  · rw [decide_eq_false h1]
    show _ = (0 : Int)
    omega
theorem bitsTo_len (l : List (List Int)) : ∀ i, (bitsTo l i).length = 8 * i
  | 0 => rfl
  | i + 1 => by rw [bitsTo, List.length_append, bitsTo_len l i]; rfl

section
variable {l : List (List Int)} (hb : ∀ i, 0 ≤ rget l i 0 ∧ rget l i 0 ≤ 255) (hL : l.length ≤ 100000)
theorem b_s0 (i k : Nat) : rSum_l1865_s0 (bI l i k) = decide (k < 8) := by
  unfold rSum_l1865_s0
  exact decide_eq_decide.2 (show (0 : Int) ≤ 7 - (k : Int) ↔ k < 8 by omega)
include hb in
theorem b_s1 (i k : Nat) (hk : k < 8) : rSum_l1865_s1 (bI l i k) = rows (bitsTo l i ++ (byteBits (byt l i)).take (k + 1)) := by
  unfold rSum_l1865_s1
  show rows (bitsTo l i ++ (byteBits (byt l i)).take k) ++ [[Int.tmod (Int.fdiv (rget l ((i : Int)).toNat 0) (2 ^ min (Int.toNat (7 - (k : Int))) (IntKind.bits .u8))) 2]] = _
  have hB : (rget l i 0 : Int) = ((byt l i : Nat) : Int) := (Int.toNat_of_nonneg (hb i).1).symm
  rw [Int.toNat_natCast, hB, bit_of _ _ hk, bb_get _ _ hk]
  unfold rows
  simp
include hb in
theorem b_step (i k : Nat) (hk : k < 8) : pick1 (rSum_l1865_st (bI l i k)).2 = some (.n, bI l i (k + 1)) := by
  unfold rSum_l1865_st
  rw [b_s0, decide_eq_true hk, b_s1 hb i k hk]
  have e : IntKind.wrap .i64 ((bI l i k).a2 - 1) = 7 - ((k + 1 : Nat) : Int) := by
    show IntKind.wrap .i64 (7 - (k : Int) - 1) = _
    rw [w64_in (by omega) (by omega)]; omega
  rw [e]; rfl
theorem b_end (i : Nat) : pick1 (rSum_l1865_st (bI l i 8)).2 = some (.e 2, bI l i 8) := by
  unfold rSum_l1865_st
  rw [b_s0]; rfl
include hb hL in
theorem b_obs (i : Nat) (hi : i < l.length) (k : Nat) : Alls (rSum_l1865_st (bI l i k)).1 := by
  unfold rSum_l1865_st
  rw [b_s0]
  refine ⟨fun _ => ⟨Int.natCast_nonneg i, Int.ofNat_lt.2 hi⟩, fun g => ?_, fun g => ?_, trivial⟩
  · have := of_decide_eq_true g
    show (0 : Int) ≤ 7 - (k : Int)
    omega
  · have := of_decide_eq_true g
    rw [b_s1 hb i k this, rows_len, List.length_append, bitsTo_len]
    have : ((byteBits (byt l i)).take (k + 1)).length ≤ 8 := by rw [List.length_take]; exact Nat.min_le_right _ _
    omega

def dS (l : List (List Int)) (i : Nat) : rSum_l29_T := .mk 0 (i : Int) l (rows (bitsTo l i))
theorem d_s0 (i : Nat) : rSum_l29_s0 (dS l i) = decide (i < l.length) := by
  unfold rSum_l29_s0
  exact decide_eq_decide.2 Int.ofNat_lt
theorem b_zero (i : Nat) (hi : i < l.length) : rSum_l1865_T.mk (dS l i).a0 (dS l i).a1 7 (rSum_l29_s0 (dS l i)) (dS l i).a2 (dS l i).a3 = bI l i 0 := by
  rw [d_s0, decide_eq_true hi]
  unfold bI dS
  simp
include hb in
theorem d_s1 (i : Nat) (hi : i < l.length) : rSum_l29_s1 (dS l i) = some (.e 2, bI l i 8) := by
  unfold rSum_l29_s1
  rw [b_zero i hi]
  exact lx_run (s := bI l i) (b_step hb i) (b_end i) nofun (by omega)
include hb hL in
theorem d_step (i : Nat) (hi : i < l.length) : pick1 (rSum_l29_st (dS l i)).2 = some (.n, dS l (i + 1)) := by
  unfold rSum_l29_st
  rw [d_s1 hb i hi, d_s0, decide_eq_true hi]
  have e : IntKind.wrap .i64 ((bI l i 8).a1 + 1) = ((i + 1 : Nat) : Int) := by
    show IntKind.wrap .i64 ((i : Int) + 1) = _
    rw [w64_in (by omega) (by omega)]; omega
  show some (X.n, rSum_l29_T.mk 0 (IntKind.wrap .i64 ((bI l i 8).a1 + 1)) l (rows (bitsTo l i ++ (byteBits (byt l i)).take 8))) = _
  rw [e]; rfl
theorem d_end : pick1 (rSum_l29_st (dS l l.length)).2 = some (.e 0, dS l l.length) := by
  unfold rSum_l29_st
  rw [d_s0, decide_eq_false (Nat.lt_irrefl _)]; rfl
include hb hL in
theorem d_obs (i : Nat) : Alls (rSum_l29_st (dS l i)).1 := by
  unfold rSum_l29_st
  refine ⟨fun g => ?_, trivial⟩
  rw [d_s0] at g
  have hi := of_decide_eq_true g
  rw [b_zero i hi]
  exact lx_lok (s := bI l i) (b_step hb i) (b_end i) nofun (fun k _ => b_obs hb hL i hi k) (by omega)
include hb hL in
theorem d_run : rSum_s0 l = some (.e 0, dS l l.length) := by
  unfold rSum_s0
  exact lx_run (s := dS l) (d_step hb hL) d_end nofun (by omega)
include hb hL in
theorem d_lok : lok rSum_l29_st 18446744073709551616 (.mk 0 0 l []) :=
  lx_lok (s := dS l) (d_step hb hL) d_end nofun (fun i _ => d_obs hb hL i) (by omega)
end

/-! .. over bits. -/
section
variable {bs : List Bool} (hN : bs.length ≤ 1000000)
def R0 (bs : List Bool) : List (List Int) := rows bs ++ List.replicate 32 [0]
theorem R0_len : (R0 bs).length = bs.length + 32 := by unfold R0; rw [List.length_append, rows_len, List.length_replicate]
def fS (bs : List Bool) (i : Nat) : rSum_l125_T12 := .mk 0 (i : Int) (turn (R0 bs) i)
theorem fS_a2 (i : Nat) : rSum_l125_T12.a2 (V.valOf (some (X.e 4, fS bs i))) = turn (R0 bs) i := rfl
theorem f_s0 (i : Nat) : rSum_l125_s0 (fS bs i) = decide (i < 32) := by
  unfold rSum_l125_s0
  exact decide_eq_decide.2 (show (i : Int) < 32 ↔ i < 32 by omega)
theorem f_step (i : Nat) (hi : i < 32) : pick1 (rSum_l125_st (fS bs i)).2 = some (.n, fS bs (i + 1)) := by
  unfold rSum_l125_st
  rw [f_s0, decide_eq_true hi]
  have e : IntKind.wrap .i64 ((fS bs i).a1 + 1) = ((i + 1 : Nat) : Int) := by
    show IntKind.wrap .i64 ((i : Int) + 1) = _
    rw [w64_in (by omega) (by omega)]; omega
  rw [e]
  show some (X.n, rSum_l125_T12.mk 0 ((i + 1 : Nat) : Int) (flip1 (turn (R0 bs) i) i)) = _
  rw [← turn_succ]; rfl
theorem f_end : pick1 (rSum_l125_st (fS bs 32)).2 = some (.e 4, fS bs 32) := by
  have : ∀ L : List (List Int), pick1 (rSum_l125_st (.mk 0 ((32 : Nat) : Int) L)).2 = some (.e 4, .mk 0 ((32 : Nat) : Int) L) := fun L => rfl
  exact this _
theorem f_obs (i : Nat) : Alls (rSum_l125_st (fS bs i)).1 := by
  have hl : (fS bs i).a2.length = bs.length + 32 := by
    show (turn _ _).length = _
    rw [turn_len, R0_len]
  have k : rSum_l125_s0 (fS bs i) = true → (0 : Int) ≤ (fS bs i).a1 ∧ (fS bs i).a1 < Int.ofNat (fS bs i).a2.length := fun g => by
    rw [f_s0] at g
    have hi := of_decide_eq_true g
    rw [hl]
    exact ⟨Int.natCast_nonneg i, Int.ofNat_lt.2 (by omega)⟩
  exact ⟨k, k, trivial⟩
theorem f_run : lrun rSum_l125_st 18446744073709551616 (.mk 0 0 (R0 bs)) = some (.e 4, fS bs 32) :=
  lx_run (s := fS bs) f_step f_end nofun (by omega)
theorem f_lok : lok rSum_l125_st 18446744073709551616 (.mk 0 0 (R0 bs)) :=
  lx_lok (s := fS bs) f_step f_end nofun (fun i _ => f_obs i) (by omega)

def tR : List (List Int) := [[0], [6], [9], [10], [16], [20], [21], [22], [24], [25], [27], [28], [30], [31], [32]]
def gS (L : List (List Int)) (i k : Nat) : rSum_l130341_T10 := .mk 0 (i : Int) (k : Int) true true (flips L i (terms.take k)) tR
theorem tR_get : ∀ k : Nat, k < 15 → rget tR k 0 = ((terms.getD k 0 : Nat) : Int) := by decide
theorem terms_le : ∀ k : Nat, k < 15 → terms.getD k 0 ≤ 32 := by decide
theorem terms_take : ∀ k : Nat, k < 15 → terms.take (k + 1) = terms.take k ++ [terms.getD k 0] := by decide
theorem g_s0 (L : List (List Int)) (i k : Nat) : rSum_l130341_s0 (gS L i k) = decide (k < 15) := by
  unfold rSum_l130341_s0
  exact decide_eq_decide.2 (show (k : Int) < Int.ofNat tR.length ↔ k < 15 from Int.ofNat_lt)
theorem g_s1 {L : List (List Int)} {i k : Nat} (hi : i ≤ 1000000) (hk : k < 15) : rSum_l130341_s1 (gS L i k) = ((i + terms.getD k 0 : Nat) : Int) := by
  unfold rSum_l130341_s1
  show IntKind.wrap .i64 ((i : Int) + rget tR ((k : Int)).toNat 0) = _
  have := terms_le k hk
  rw [Int.toNat_natCast, tR_get k hk, w64_in (by omega) (by omega)]; omega
theorem g_step {L : List (List Int)} {i : Nat} (hi : i ≤ 1000000) (k : Nat) (hk : k < 15) : pick1 (rSum_l130341_st (gS L i k)).2 = some (.n, gS L i (k + 1)) := by
  unfold rSum_l130341_st
  rw [g_s0, decide_eq_true hk, g_s1 hi hk]
  have e : IntKind.wrap .i64 ((gS L i k).a2 + 1) = ((k + 1 : Nat) : Int) := by
    show IntKind.wrap .i64 ((k : Int) + 1) = _
    rw [w64_in (by omega) (by omega)]; omega
  rw [e, Int.toNat_natCast]
  show some (X.n, rSum_l130341_T10.mk 0 (i : Int) ((k + 1 : Nat) : Int) true true (flip1 (flips L i (terms.take k)) (i + terms.getD k 0)) tR) = _
  have : flip1 (flips L i (terms.take k)) (i + terms.getD k 0) = flips L i (terms.take (k + 1)) := by
    rw [terms_take k hk]
    unfold flips
    rw [List.foldl_append]; rfl
  rw [this]; rfl
theorem g_end (L : List (List Int)) (i : Nat) : pick1 (rSum_l130341_st (gS L i 15)).2 = some (.e 8, gS L i 15) := by
  unfold rSum_l130341_st
  rw [g_s0]; rfl
theorem g_obs {L : List (List Int)} {i : Nat} (hi : i ≤ 1000000) (hL : i + 32 < L.length) (k : Nat) : Alls (rSum_l130341_st (gS L i k)).1 := by
  have hl : (gS L i k).a5.length = L.length := flips_len _ _ _
  have a : rSum_l130341_s0 (gS L i k) = true → (0 : Int) ≤ (gS L i k).a2 ∧ (gS L i k).a2 < Int.ofNat (gS L i k).a6.length := fun g => by
    rw [g_s0] at g
    exact ⟨Int.natCast_nonneg k, Int.ofNat_lt.2 (of_decide_eq_true g)⟩
  have b : rSum_l130341_s0 (gS L i k) = true → (0 : Int) ≤ rSum_l130341_s1 (gS L i k) ∧ rSum_l130341_s1 (gS L i k) < Int.ofNat (gS L i k).a5.length := fun g => by
    rw [g_s0] at g
    have hk := of_decide_eq_true g
    have := terms_le k hk
    rw [g_s1 hi hk, hl]
    exact ⟨Int.natCast_nonneg _, Int.ofNat_lt.2 (by omega)⟩
  exact ⟨a, a, b, b, trivial⟩

def hI (bs : List Bool) (i : Nat) (v : rSum_l509_T9) : Prop := ∃ L, Win bs L i (regB bs i) ∧ v = .mk 0 (i : Int) L tR
include hN in
theorem h_run {v : rSum_l509_T9} (hv : hI bs 0 v) : (∃ v', lrun rSum_l509_st 18446744073709551616 v = some (.e 6, v') ∧ hI bs bs.length v') ∧ lok rSum_l509_st 18446744073709551616 v := by
  have s1 : ∀ (i : Nat) (L : List (List Int)), i ≤ bs.length → L.length = bs.length + 32 → rSum_l509_s1 (.mk 0 (i : Int) L tR) = decide (i < bs.length) := fun i L hi hl => by
    unfold rSum_l509_s1 rSum_l509_s0
    show decide (IntKind.wrap .i64 ((i : Int) + 32) < Int.ofNat L.length) = _
    rw [w64_in (by omega) (by omega), hl]
    refine decide_eq_decide.2 ?_
    show (i : Int) + 32 < ((bs.length + 32 : Nat) : Int) ↔ _
    omega
  have s3 : ∀ (i : Nat) (L : List (List Int)), i < bs.length → L.length = bs.length + 32 → rSum_l509_s2 (.mk 0 (i : Int) L tR) = true → rSum_l130341_T10.mk 0 (i : Int) 0 (rSum_l509_s1 (.mk 0 (i : Int) L tR)) (rSum_l509_s2 (.mk 0 (i : Int) L tR)) L tR = gS L i 0 := fun i L hi hl h2 => by
    rw [s1 i L (by omega) hl, decide_eq_true hi, h2]; rfl
  refine inv_run (I := hI bs) (x := .e 6) (n := bs.length) nofun ?_ ?_ ?_ bs.length 0 v (by omega) hv _ (by omega)
  · rintro i v hi ⟨L, hw, rfl⟩
    obtain ⟨e, no, yes⟩ := win_step hw hi
    have e2 : rSum_l509_s2 (.mk 0 (i : Int) L tR) = ((regB bs i).msb ^^ raw bs i) := by
      unfold rSum_l509_s2
      show (rget L ((i : Int)).toNat 0 == 1) = _
      rw [Int.toNat_natCast, e]
      cases ((regB bs i).msb ^^ raw bs i) <;> rfl
    have e1 : IntKind.wrap .i64 ((i : Int) + 1) = ((i + 1 : Nat) : Int) := by
      rw [w64_in (by omega) (by omega)]; omega
    cases hc : ((regB bs i).msb ^^ raw bs i)
    · rw [hc] at e2
      unfold rSum_l509_st
      rw [s1 i L (by omega) hw.1, decide_eq_true hi, e2]
      refine ⟨_, rfl, L, ?_, ?_⟩
      · rw [regB_succ bs hi]; exact no hc
      · rw [← e1]; rfl
    · rw [hc] at e2
      have r : rSum_l509_s3 (.mk 0 (i : Int) L tR) = some (.e 8, gS L i 15) := by
        unfold rSum_l509_s3
        show lrun _ _ (rSum_l130341_T10.mk 0 (i : Int) 0 (rSum_l509_s1 (.mk 0 (i : Int) L tR)) (rSum_l509_s2 (.mk 0 (i : Int) L tR)) L tR) = _
        rw [s3 i L hi hw.1 e2]
        exact lx_run (s := gS L i) (g_step (by omega)) (g_end L i) nofun (by omega)
      unfold rSum_l509_st
      rw [s1 i L (by omega) hw.1, decide_eq_true hi, e2, r]
      refine ⟨_, rfl, flips L i terms, ?_, ?_⟩
      · rw [regB_succ bs hi]; exact yes hc
      · rw [← e1]; rfl
  · rintro v ⟨L, hw, rfl⟩
    unfold rSum_l509_st
    rw [s1 _ L (by omega) hw.1, decide_eq_false (Nat.lt_irrefl _)]; rfl
  · rintro i v hi ⟨L, hw, rfl⟩
    unfold rSum_l509_st
    rw [s1 i L hi hw.1]
    refine ⟨fun g => ?_, fun g g2 => ?_, trivial⟩
    · have := of_decide_eq_true g
      exact ⟨Int.natCast_nonneg i, Int.ofNat_lt.2 (by show i < L.length; rw [hw.1]; omega)⟩
    · have hi' := of_decide_eq_true g
      show lok _ _ (rSum_l130341_T10.mk 0 (i : Int) 0 (decide (i < bs.length)) (rSum_l509_s2 (.mk 0 (i : Int) L tR)) L tR)
      rw [← s1 i L hi hw.1, s3 i L hi' hw.1 g2]
      exact lx_lok (s := gS L i) (g_step (by omega)) (g_end L i) nofun (fun k _ => g_obs (by omega) (by rw [hw.1]; omega) k) (by omega)

theorem xbit (s : BitVec 32) (t : Nat) (ht : t < 32) : ((BitVec.allOnes 32 ^^^ s).toNat >>> (32 - (t + 1))) % 2 = (bif !s.getMsbD t then 1 else 0) := by
  have h : (BitVec.allOnes 32 ^^^ s).toNat.testBit (31 - t) = !s.getMsbD t := by
    have : (BitVec.allOnes 32 ^^^ s).getLsbD (31 - t) = !s.getMsbD t := by
      rw [BitVec.getLsbD_xor, BitVec.getLsbD_allOnes, BitVec.getMsbD]
      rw [show decide (31 - t < 32) = true from decide_eq_true (by omega), decide_eq_true ht, show 32 - 1 - t = 31 - t from rfl]; simp
    exact this
  rw [show 32 - (t + 1) = 31 - t by omega, Nat.shiftRight_eq_div_pow]
  rw [Nat.testBit_eq_decide_div_mod_eq] at h
  rw [← h]
  have := Nat.mod_lt ((BitVec.allOnes 32 ^^^ s).toNat / 2 ^ (31 - t)) (show 2 > 0 by omega)
  by_cases g : (BitVec.allOnes 32 ^^^ s).toNat / 2 ^ (31 - t) % 2 = 1
  · rw [decide_eq_true g, g]; rfl
  · rw [decide_eq_false g]
    show _ = 0
    omega

/-- The number out of the last 32 bits. -/
def zS (bs : List Bool) (L : List (List Int)) (x : BitVec 32) (t : Nat) : rSum_l2045_T4 := .mk 0 ((x >>> (32 - t)).toNat : Int) ((bs.length + t : Nat) : Int) L
include hN in
theorem z_run {L : List (List Int)} (hw : Win bs L bs.length (regB bs bs.length)) : lrun rSum_l2045_st 18446744073709551616 (.mk 0 0 (bs.length : Int) L) = some (.e 10, zS bs L (BitVec.allOnes 32 ^^^ regB bs bs.length) 32) ∧ lok rSum_l2045_st 18446744073709551616 (.mk 0 0 (bs.length : Int) L) := by
  generalize hs : regB bs bs.length = s at hw
  obtain ⟨hl, hw⟩ := hw
  have s0 : ∀ t, rSum_l2045_s0 (zS bs L (BitVec.allOnes 32 ^^^ s) t) = decide (t < 32) := fun t => by
    unfold rSum_l2045_s0
    refine decide_eq_decide.2 ?_
    show ((bs.length + t : Nat) : Int) < Int.ofNat L.length ↔ _
    rw [hl]
    show ((bs.length + t : Nat) : Int) < ((bs.length + 32 : Nat) : Int) ↔ _
    omega
  have bit : ∀ t, t < 32 → IntKind.wrap .u8 (1 - rget L (bs.length + t) 0) = Bi (!s.getMsbD t) := fun t ht => by
    rw [hw t (by omega)]
    have : raw bs (bs.length + t) = false := by
      unfold raw
      rw [List.getD_eq_getElem?_getD, List.getElem?_eq_none (by omega)]; rfl
    rw [this, Bool.xor_false, flip_B]
  have st : ∀ t, t < 32 → pick1 (rSum_l2045_st (zS bs L (BitVec.allOnes 32 ^^^ s) t)).2 = some (.n, zS bs L (BitVec.allOnes 32 ^^^ s) (t + 1)) := fun t ht => by
    unfold rSum_l2045_st
    rw [s0, decide_eq_true ht]
    have e1 : IntKind.wrap .i64 (((bs.length + t : Nat) : Int) + 1) = ((bs.length + (t + 1) : Nat) : Int) := by
      rw [w64_in (by omega) (by omega)]; omega
    have hx : ((BitVec.allOnes 32 ^^^ s) >>> (32 - t)).toNat < 2147483648 := by
      rw [BitVec.toNat_ushiftRight, Nat.shiftRight_eq_div_pow]
      have := (BitVec.allOnes 32 ^^^ s).isLt
      have h2 : (2 : Nat) ^ 32 = 2 ^ (32 - t) * 2 ^ t := by rw [← Nat.pow_add]; congr 1; omega
      have h3 : (BitVec.allOnes 32 ^^^ s).toNat / 2 ^ (32 - t) < 2 ^ t := Nat.div_lt_of_lt_mul (by omega)
      have h4 : (2 : Nat) ^ t ≤ 2 ^ 31 := Nat.pow_le_pow_right (by omega) (by omega)
      omega
    have e2 : ((BitVec.allOnes 32 ^^^ s) >>> (32 - (t + 1))).toNat = ((BitVec.allOnes 32 ^^^ s) >>> (32 - t)).toNat * 2 + (bif !s.getMsbD t then 1 else 0) := by
      rw [BitVec.toNat_ushiftRight, BitVec.toNat_ushiftRight, show 32 - t = (32 - (t + 1)) + 1 by omega, Nat.shiftRight_succ]
      have : (BitVec.allOnes 32 ^^^ s).toNat >>> (32 - (t + 1)) % 2 = (bif !s.getMsbD t then 1 else 0) := by
        exact xbit s t ht
      omega
    have e3 : IntKind.wrap .u32 (IntKind.wrap .u32 ((((BitVec.allOnes 32 ^^^ s) >>> (32 - t)).toNat : Int) * 2) + IntKind.wrap .u32 (IntKind.wrap .u8 (1 - rget L (((bs.length + t : Nat) : Int)).toNat 0))) = (((BitVec.allOnes 32 ^^^ s) >>> (32 - (t + 1))).toNat : Int) := by
      rw [Int.toNat_natCast, bit t ht, e2]
      generalize ((BitVec.allOnes 32 ^^^ s) >>> (32 - t)).toNat = y at hx
      rw [show (y : Int) * 2 = ((y * 2 : Nat) : Int) by omega, wu32]
      cases s.getMsbD t
      · show IntKind.wrap .u32 (_ + IntKind.wrap .u32 ((1 : Nat) : Int)) = _
        rw [wu32, ← Int.natCast_add, wu32]
        simp only [Bool.not_false, cond_true]; omega
      · show IntKind.wrap .u32 (_ + IntKind.wrap .u32 ((0 : Nat) : Int)) = _
        rw [wu32, ← Int.natCast_add, wu32]
        simp only [Bool.not_true, cond_false]; omega
    show some (X.n, rSum_l2045_T4.mk 0 (IntKind.wrap .u32 (IntKind.wrap .u32 ((((BitVec.allOnes 32 ^^^ s) >>> (32 - t)).toNat : Int) * 2) + IntKind.wrap .u32 (IntKind.wrap .u8 (1 - rget L (((bs.length + t : Nat) : Int)).toNat 0)))) (IntKind.wrap .i64 (((bs.length + t : Nat) : Int) + 1)) L) = _
    rw [e1, e3]; rfl
  have en : pick1 (rSum_l2045_st (zS bs L (BitVec.allOnes 32 ^^^ s) 32)).2 = some (.e 10, zS bs L (BitVec.allOnes 32 ^^^ s) 32) := by
    unfold rSum_l2045_st
    rw [s0]; rfl
  have ob : ∀ t, Alls (rSum_l2045_st (zS bs L (BitVec.allOnes 32 ^^^ s) t)).1 := fun t => by
    unfold rSum_l2045_st
    refine ⟨fun g => ?_, trivial⟩
    rw [s0] at g
    have := of_decide_eq_true g
    exact ⟨Int.natCast_nonneg _, Int.ofNat_lt.2 (by show bs.length + t < L.length; omega)⟩
  have z0 : rSum_l2045_T4.mk 0 0 (bs.length : Int) L = zS bs L (BitVec.allOnes 32 ^^^ s) 0 := by
    unfold zS
    have : ((BitVec.allOnes 32 ^^^ s) >>> (32 - 0)).toNat = 0 := by
      rw [BitVec.toNat_ushiftRight, Nat.shiftRight_eq_div_pow]
      exact Nat.div_eq_of_lt (BitVec.allOnes 32 ^^^ s).isLt
    rw [this]; rfl
  rw [z0]
  exact ⟨lx_run (s := zS bs L _) st en nofun (by omega), lx_lok (s := zS bs L _) st en nofun (fun t _ => ob t) (by omega)⟩
end

theorem bitsTo_reg (l : List (List Int)) : regB (bitsTo l l.length) (bitsTo l l.length).length = reg l l.length := by
  unfold regB reg; rw [List.take_length]

section
variable {l : List (List Int)} (hb : ∀ i, 0 ≤ rget l i 0 ∧ rget l i 0 ≤ 255) (hL : l.length ≤ 100000)
include hb hL
theorem r_s1 : rSum_s1 l = R0 (bitsTo l l.length) := by
  unfold rSum_s1
  rw [d_run hb hL]; rfl
theorem r_s2 : rSum_s2 l = some (.e 4, fS (bitsTo l l.length) 32) := by
  unfold rSum_s2
  rw [r_s1 hb hL, d_run hb hL]
  exact f_run
theorem r_a2 : rSum_l125_T12.a2 (V.valOf (rSum_s2 l)) = turn (R0 (bitsTo l l.length)) 32 := by rw [r_s2 hb hL]; exact fS_a2 32
theorem r_a0 : rSum_l125_T12.a0 (V.valOf (rSum_s2 l)) = 0 := by rw [r_s2 hb hL]; rfl
theorem r_s3 : ∃ L, rSum_s3 l = some (.e 6, .mk 0 ((bitsTo l l.length).length : Int) L tR) ∧ Win (bitsTo l l.length) L (bitsTo l l.length).length (reg l l.length) ∧ lok rSum_l509_st 18446744073709551616 (.mk (rSum_l125_T12.a0 (V.valOf (rSum_s2 l))) 0 (rSum_l125_T12.a2 (V.valOf (rSum_s2 l))) tR) := by
  have hN : (bitsTo l l.length).length ≤ 1000000 := by rw [bitsTo_len]; omega
  have W0 := win_0 (bitsTo l l.length)
  rw [← regB_0 (bitsTo l l.length)] at W0
  have e3 : rSum_s3 l = lrun rSum_l509_st 18446744073709551616 (.mk (rSum_l125_T12.a0 (V.valOf (rSum_s2 l))) 0 (rSum_l125_T12.a2 (V.valOf (rSum_s2 l))) tR) := rfl
  rw [e3, r_a2 hb hL, r_a0 hb hL]
  clear e3
  unfold R0
  generalize turn (rows (bitsTo l l.length) ++ List.replicate 32 [0]) 32 = L0 at W0 ⊢
  have hv : hI (bitsTo l l.length) 0 (.mk 0 0 L0 tR) := Exists.intro L0 (And.intro W0 rfl)
  have H := h_run (bs := bitsTo l l.length) hN hv
  have k := H.2
  obtain ⟨v', r, Hv⟩ := H.1
  unfold hI at Hv
  obtain ⟨L, w, e⟩ := Hv
  rw [e] at r
  rw [bitsTo_reg] at w
  exact Exists.intro L (And.intro r (And.intro w k))
theorem rSum_all (r0 : Bool) : rSum_0 l = cSum_0 l ∧ Alls (rSum_o r0 l) := by
  obtain ⟨L, e3, w, k3⟩ := r_s3 hb hL
  have hN : (bitsTo l l.length).length ≤ 1000000 := by rw [bitsTo_len]; omega
  rw [← bitsTo_reg] at w
  obtain ⟨z, zk⟩ := z_run hN w
  have hW : IntKind.wrap .i64 (Int.ofNat L.length - 32) = ((bitsTo l l.length).length : Int) := by
    rw [w.1]
    show IntKind.wrap .i64 (((bitsTo l l.length).length + 32 : Nat) - (32 : Int)) = _
    rw [w64_in (by omega) (by omega)]; omega
  refine ⟨?_, ?_⟩
  · unfold rSum_0
    rw [e3]
    show rSum_l2045_T4.a1 (V.valOf (lrun rSum_l2045_st 18446744073709551616 (.mk 0 0 (IntKind.wrap .i64 (Int.ofNat L.length - 32)) L))) = _
    rw [hW, z, cSum_eq hb hL, bitsTo_reg]
    show (((BitVec.allOnes 32 ^^^ reg l l.length) >>> (32 - 32)).toNat : Int) = _
    simp
  · refine ⟨d_lok hb hL, fun _ => by decide, fun _ => ?_, fun _ => ?_, fun _ _ => k3, fun _ _ _ => ?_, trivial⟩
    · rw [r_s1 hb hL, R0_len]; omega
    · rw [d_run hb hL, r_s1 hb hL]
      exact f_lok
    · rw [e3]
      show lok rSum_l2045_st 18446744073709551616 (.mk 0 0 (IntKind.wrap .i64 (Int.ofNat L.length - 32)) L)
      rw [hW]
      exact zk
end

end Crc
end Go.Proofs.Ytcdejlgophpdjaa
end

section
namespace Go.Proofs.Ytcdejlgophpdjaa
open Go Go.RowKit Go.Proofs.Ytcdejlgophpdjaa.V
set_option linter.unusedVariables false
set_option linter.unusedSectionVars false

theorem ba_push (a : ByteArray) (c : UInt8) : a ++ ByteArray.mk #[c] = a.push c := by
  apply ByteArray.ext
  rw [ByteArray.data_append]; rfl
theorem bytesOf_snoc (l : List (List Int)) (c : Int) : bytesOf (l ++ [[c]]) = (bytesOf l).push (UInt8.ofNat c.toNat) := by
  unfold bytesOf
  rw [List.map_append, List.foldl_append]; rfl
theorem tel_ch : ∀ n : Nat, n < 10 → ByteArray.extract lFrTel_l260709_s5 n (n + 1) = ByteArray.mk #[UInt8.ofNat (byteAt fText_l31333_s2 n).toNat] := by decide +kernel
theorem tel_push (a : ByteArray) (l : List (List Int)) (n : Nat) (hn : n < 10) : bytesOf l ++ ByteArray.extract lFrTel_l260709_s5 n (n + 1) = bytesOf (l ++ [[byteAt fText_l31333_s2 n]]) := by
  rw [tel_ch n hn, ba_push, bytesOf_snoc]

theorem sO_bytes {l : List (List Int)} (hc : ∀ k j, j ≠ 4 → 0 ≤ rget l k j ∧ rget l k j ≤ 255) : ∀ n i, 0 ≤ rget (sO l n) i 0 ∧ rget (sO l n) i 0 ≤ 255
  | 0, i => by
    have : rget (sO l 0) i 0 = 0 := by unfold rget sO; simp
    rw [this]; decide
  | n + 1, i => by
    have w8 : ∀ x : Int, 0 ≤ IntKind.wrap .u8 x ∧ IntKind.wrap .u8 x ≤ 255 := fun x => by rw [wu8]; omega
    have e : sO l (n + 1) = sO l n ++ [[rget l n 0], [rget l n 1], [rget l n 2], [rget l n 3], [IntKind.wrap IntKind.u8 (Int.fdiv (rget l n 4) (2 ^ min (Int.toNat 8) (IntKind.bits IntKind.i64)))], [IntKind.wrap IntKind.u8 (rget l n 4)], [rget l n 5]] := by
      rw [sO, List.append_assoc]; rfl
    by_cases h : i < (sO l n).length
    · have : rget (sO l (n + 1)) i 0 = rget (sO l n) i 0 := by
        rw [e]; unfold rget
        rw [List.getD_eq_getElem?_getD (l := sO l n ++ _), List.getElem?_append_left h, List.getD_eq_getElem?_getD (l := sO l n)]
      rw [this]; exact sO_bytes hc n i
    · have : ∀ k, i = (sO l n).length + k → rget (sO l (n + 1)) i 0 = rget [[rget l n 0], [rget l n 1], [rget l n 2], [rget l n 3], [IntKind.wrap IntKind.u8 (Int.fdiv (rget l n 4) (2 ^ min (Int.toNat 8) (IntKind.bits IntKind.i64)))], [IntKind.wrap IntKind.u8 (rget l n 4)], [rget l n 5]] k 0 := fun k hk => by
        rw [e, hk]; unfold rget
        rw [List.getD_eq_getElem?_getD (l := sO l n ++ _), List.getElem?_append_right (by omega), List.getD_eq_getElem?_getD (l := _ :: _), Nat.add_sub_cancel_left]
      obtain ⟨k, hk⟩ : ∃ k, i = (sO l n).length + k := ⟨i - (sO l n).length, by omega⟩
      rw [this k hk]
      match k with
      | 0 => exact hc n 0 (by omega)
      | 1 => exact hc n 1 (by omega)
      | 2 => exact hc n 2 (by omega)
      | 3 => exact hc n 3 (by omega)
      | 4 => exact w8 _
      | 5 => exact w8 _
      | 6 => exact hc n 5 (by omega)
      | k + 7 => exact (show (0 : Int) ≤ 0 ∧ (0 : Int) ≤ 255 by decide)

section
variable {w h : Nat} (w1 : w ≤ 64) (h1 : h ≤ 64) {l : List (List Int)} (g : Gc w h l)

def eI (w h y : Nat) (l : List (List Int)) (x : Nat) : lFrTel_l260709_T := .mk false (bytesOf (tO w h y l (uO w h l y) x)) (y : Int) (h : Int) (y : Int) true (w : Int) (x : Int) (w : Int) (h : Int) l (sO l (y * w + x))
theorem ee_s0 (y x : Nat) : lFrTel_l260709_s0 (eI w h y l x) = decide (x < w) := by
  unfold lFrTel_l260709_s0
  exact decide_eq_decide.2 Int.ofNat_lt
include w1 h1 g in
theorem ee_at {x y : Nat} (hx : x < w) (hy : y < h) : fAt_0 (w : Int) (h : Int) (x : Int) (y : Int) l = rget l (y * w + x) 0 ∧ fAt_1 (w : Int) (h : Int) (x : Int) (y : Int) l = rget l (y * w + x) 1 ∧ fAt_2 (w : Int) (h : Int) (x : Int) (y : Int) l = rget l (y * w + x) 2 ∧ fAt_3 (w : Int) (h : Int) (x : Int) (y : Int) l = rget l (y * w + x) 3 ∧ fAt_4 (w : Int) (h : Int) (x : Int) (y : Int) l = rget l (y * w + x) 4 ∧ fAt_5 (w : Int) (h : Int) (x : Int) (y : Int) l = rget l (y * w + x) 5 := by
  have hi : inn w h (x : Int) (y : Int) = true := by rw [inn_nat]; exact decide_eq_true ⟨hx, hy⟩
  have e : ∀ j, px w h l (x : Int) (y : Int) j = rget l (y * w + x) j := fun j => by
    unfold px
    rw [hi, ixp_eq w1 h1 hx hy]; rfl
  rw [px_0 w1 h1 g.1.1, px_1 w1 h1 g.1.1, px_2 w1 h1 g.1.1, px_3 w1 h1 g.1.1, px_4 w1 h1 g.1.1, px_5 w1 h1 g.1.1]
  exact ⟨e 0, e 1, e 2, e 3, e 4, e 5⟩
include w1 h1 g in
theorem ee_s2 {x y : Nat} (hx : x < w) (hy : y < h) : lFrTel_l260709_s2 (eI w h y l x) = sO l (y * w + (x + 1)) := by
  obtain ⟨a0, a1, a2, a3, a4, a5⟩ := ee_at w1 h1 g hx hy
  have hi : y * w + x < w * h := by
    have := (at_in w1 h1 g.1.1 hx hy).2
    rw [g.1.1] at this; exact this
  have hd := g.1.2 (y * w + x) hi
  unfold lFrTel_l260709_s2 lFrTel_l260709_s1
  show sO l (y * w + x) ++ [[fAt_0 (w : Int) (h : Int) (x : Int) (y : Int) l], [fAt_1 (w : Int) (h : Int) (x : Int) (y : Int) l], [fAt_2 (w : Int) (h : Int) (x : Int) (y : Int) l], [fAt_3 (w : Int) (h : Int) (x : Int) (y : Int) l]] ++ [[IntKind.wrap .u8 (IntKind.wrap .i64 (Int.tdiv (fAt_4 (w : Int) (h : Int) (x : Int) (y : Int) l) 256))], [IntKind.wrap .u8 (Int.tmod (fAt_4 (w : Int) (h : Int) (x : Int) (y : Int) l) 256)], [fAt_5 (w : Int) (h : Int) (x : Int) (y : Int) l]] = _
  rw [a0, a1, a2, a3, a4, a5, show y * w + (x + 1) = (y * w + x) + 1 by omega, sO]
  obtain ⟨d0, d1⟩ := hd
  have e2 : (2 : Int) ^ min (Int.toNat 8) (IntKind.bits .i64) = 256 := by decide
  have q1 : IntKind.wrap .i64 (Int.tdiv (rget l (y * w + x) 4) 256) = Int.fdiv (rget l (y * w + x) 4) (2 ^ min (Int.toNat 8) (IntKind.bits .i64)) := by
    rw [e2, Int.tdiv_eq_ediv_of_nonneg d0, Int.fdiv_eq_ediv_of_nonneg _ (by omega), w64_in (by omega) (by omega)]
  have q2 : IntKind.wrap .u8 (Int.tmod (rget l (y * w + x) 4) 256) = IntKind.wrap .u8 (rget l (y * w + x) 4) := by
    rw [Int.tmod_eq_emod_of_nonneg d0, wu8, wu8, Int.emod_emod]
  rw [q1, q2]
include w1 h1 g in
theorem ee_s3 {x y : Nat} (hx : x < w) (hy : y < h) : lFrTel_l260709_s3 (eI w h y l x) = fText_l31333_s1 (tI w h y l x []) := rfl
include g in
theorem ee_n (y x : Nat) : ∃ n : Nat, fText_l31333_s1 (tI w h y l x []) = (n : Int) ∧ n < 10 := by
  have := t_s1 (w := w) (h := h) (fun k j hj => g.2 k j (by omega)) y x []
  exact ⟨(fText_l31333_s1 (tI w h y l x [])).toNat, by omega, by omega⟩
include w1 h1 g in
theorem ee_text {x y : Nat} (hx : x < w) (hy : y < h) : bytesOf (tO w h y l (uO w h l y) x) ++ ByteArray.extract lFrTel_l260709_s5 (Int.toNat (lFrTel_l260709_s3 (eI w h y l x))) (Int.toNat (lFrTel_l260709_s4 (eI w h y l x))) = bytesOf (tO w h y l (uO w h l y) (x + 1)) := by
  obtain ⟨n, e, hn⟩ := ee_n g y x
  have e3 : lFrTel_l260709_s3 (eI w h y l x) = (n : Int) := (ee_s3 w1 h1 g hx hy).trans e
  have e4 : lFrTel_l260709_s4 (eI w h y l x) = ((n + 1 : Nat) : Int) := by
    unfold lFrTel_l260709_s4
    rw [e3, w64_in (by omega) (by omega)]; omega
  rw [e3, e4, Int.toNat_natCast, Int.toNat_natCast, tel_push ⟨#[]⟩ _ n hn, tO_succ]
  unfold tC
  rw [e, Int.toNat_natCast]
include w1 h1 g in
theorem ee_step {y : Nat} (hy : y < h) (x : Nat) (hx : x < w) : pick1 (lFrTel_l260709_st (eI w h y l x)).2 = some (.n, eI w h y l (x + 1)) := by
  unfold lFrTel_l260709_st
  rw [ee_s0, decide_eq_true hx, ee_s2 w1 h1 g hx hy]
  have e1 : IntKind.wrap .i64 ((eI w h y l x).a7 + 1) = ((x + 1 : Nat) : Int) := by
    show IntKind.wrap .i64 ((x : Int) + 1) = _
    rw [w64_in (by omega) (by omega)]; omega
  have e2 : (eI w h y l x).a1 ++ ByteArray.extract lFrTel_l260709_s5 (Int.toNat (lFrTel_l260709_s3 (eI w h y l x))) (Int.toNat (lFrTel_l260709_s4 (eI w h y l x))) = bytesOf (tO w h y l (uO w h l y) (x + 1)) := ee_text w1 h1 g hx hy
  rw [e1, e2]; rfl
theorem ee_end (y : Nat) : pick1 (lFrTel_l260709_st (eI w h y l w)).2 = some (.e 2, eI w h y l w) := by
  unfold lFrTel_l260709_st
  rw [ee_s0, decide_eq_false (Nat.lt_irrefl _)]; rfl
include w1 h1 g in
theorem ee_obs {y : Nat} (hy : y < h) (x : Nat) (hx : x ≤ w) : Alls (lFrTel_l260709_st (eI w h y l x)).1 := by
  have hyw : y * w ≤ 63 * 64 := Nat.mul_le_mul (by omega) (by omega)
  have hyu : y * (w + 1) ≤ 63 * 65 := Nat.mul_le_mul (by omega) (by omega)
  obtain ⟨n, e, hn⟩ := ee_n g y x
  unfold lFrTel_l260709_st
  rw [ee_s0]
  refine ⟨fun _ k => at_ob w1 h1 g.1.1 k, fun _ => ?_, fun k => ?_, fun k => ?_, fun k => ?_, trivial⟩
  · have e1 : (lFrTel_l260709_s1 (eI w h y l x)).length = 7 * (y * w + x) + 4 := by
      unfold lFrTel_l260709_s1
      show (sO l (y * w + x) ++ _).length = _
      rw [List.length_append, sO_len]; rfl
    rw [e1]; omega
  · rw [ee_s2 w1 h1 g (of_decide_eq_true k) hy, sO_len]; omega
  · have e3 : lFrTel_l260709_s3 (eI w h y l x) = (n : Int) := (ee_s3 w1 h1 g (of_decide_eq_true k) hy).trans e
    have e4 : lFrTel_l260709_s4 (eI w h y l x) = ((n + 1 : Nat) : Int) := by
      unfold lFrTel_l260709_s4
      rw [e3, w64_in (by omega) (by omega)]; omega
    rw [e3, e4]
    have : ByteArray.size lFrTel_l260709_s5 = 10 := rfl
    rw [this]
    show (0 : Int) ≤ (n : Int) ∧ (n : Int) ≤ ((n + 1 : Nat) : Int) ∧ ((n + 1 : Nat) : Int) ≤ ((10 : Nat) : Int)
    omega
  · have e1 := congrArg ByteArray.size (ee_text w1 h1 g (of_decide_eq_true k) hy)
    rw [ByteArray.size_append, bytesOf_size (tO w h y l (uO w h l y) (x + 1)), tO_len, uO_len] at e1
    show Int.ofNat (ByteArray.size (bytesOf (tO w h y l (uO w h l y) x)) + _) ≤ _
    rw [e1]
    show ((y * (w + 1) + (x + 1) : Nat) : Int) ≤ 9223372036854775807
    omega

def eO (w h : Nat) (l : List (List Int)) (y : Nat) : lFrTel_l509_T := .mk false (bytesOf (uO w h l y)) (h : Int) (y : Int) (w : Int) (h : Int) l (sO l (y * w))
theorem eo_s0 (y : Nat) : lFrTel_l509_s0 (eO w h l y) = decide (y < h) := by
  unfold lFrTel_l509_s0
  exact decide_eq_decide.2 Int.ofNat_lt
theorem eo_in {y : Nat} (hy : y < h) : lFrTel_l260709_T.mk (eO w h l y).a0 (eO w h l y).a1 (eO w h l y).a3 (eO w h l y).a2 (eO w h l y).a3 (lFrTel_l509_s0 (eO w h l y)) (eO w h l y).a4 0 (eO w h l y).a4 (eO w h l y).a5 (eO w h l y).a6 (eO w h l y).a7 = eI w h y l 0 := by
  rw [eo_s0, decide_eq_true hy]
  unfold eI
  rw [show tO w h y l (uO w h l y) 0 = uO w h l y by simp [tO]]; rfl
include w1 h1 g in
theorem eo_s1 (y : Nat) (hy : y < h) : lFrTel_l509_s1 (eO w h l y) = some (.e 2, eI w h y l w) := by
  unfold lFrTel_l509_s1
  rw [eo_in hy]
  exact lx_run (s := eI w h y l) (ee_step w1 h1 g hy) (ee_end y) nofun (by omega)
include w1 h1 g in
theorem eo_step (y : Nat) (hy : y < h) : pick1 (lFrTel_l509_st (eO w h l y)).2 = some (.n, eO w h l (y + 1)) := by
  unfold lFrTel_l509_st
  rw [eo_s0, decide_eq_true hy, eo_s1 w1 h1 g y hy]
  have e1 : IntKind.wrap .i64 ((y : Int) + 1) = ((y + 1 : Nat) : Int) := by
    rw [w64_in (by omega) (by omega)]; omega
  have e2 : bytesOf (tO w h y l (uO w h l y) w) ++ lFrTel_l509_s2 = bytesOf (uO w h l (y + 1)) := by
    rw [show lFrTel_l509_s2 = ByteArray.mk #[10] from rfl, ba_push, uO, bytesOf_snoc]; rfl
  have e3 : y * w + w = (y + 1) * w := by rw [Nat.succ_mul]
  show some (X.n, lFrTel_l509_T.mk false (bytesOf (tO w h y l (uO w h l y) w) ++ lFrTel_l509_s2) (h : Int) (IntKind.wrap .i64 ((y : Int) + 1)) (w : Int) (h : Int) l (sO l (y * w + w))) = _
  rw [e1, e2, e3]; rfl
theorem eo_end : pick1 (lFrTel_l509_st (eO w h l h)).2 = some (.e 0, eO w h l h) := by
  unfold lFrTel_l509_st
  rw [eo_s0, decide_eq_false (Nat.lt_irrefl _)]; rfl
include w1 h1 g in
theorem eo_obs (y : Nat) : Alls (lFrTel_l509_st (eO w h l y)).1 := by
  unfold lFrTel_l509_st
  rw [eo_s0]
  refine ⟨fun k => ?_, fun k _ => ?_, trivial⟩
  · have hy := of_decide_eq_true k
    have := eo_in (w := w) (l := l) hy
    rw [eo_s0] at this
    rw [this]
    exact lx_lok (s := eI w h y l) (ee_step w1 h1 g hy) (ee_end y) nofun (fun x hx => ee_obs w1 h1 g hy x hx) (by omega)
  · have hy := of_decide_eq_true k
    have hyu : y * (w + 1) ≤ 63 * 65 := Nat.mul_le_mul (by omega) (by omega)
    rw [eo_s1 w1 h1 g y hy]
    show Int.ofNat (ByteArray.size (bytesOf (tO w h y l (uO w h l y) w)) + 1) ≤ _
    rw [bytesOf_size, tO_len, uO_len]
    show ((y * (w + 1) + w + 1 : Nat) : Int) ≤ 9223372036854775807
    omega
include w1 h1 g in
theorem eo_run : lrun lFrTel_l509_st 18446744073709551616 (.mk false (ByteArray.mk (Array.mk [])) (h : Int) 0 (w : Int) (h : Int) l []) = some (.e 0, eO w h l h) ∧ lok lFrTel_l509_st 18446744073709551616 (.mk false (ByteArray.mk (Array.mk [])) (h : Int) 0 (w : Int) (h : Int) l []) := by
  have e : lFrTel_l509_T.mk false (ByteArray.mk (Array.mk [])) (h : Int) 0 (w : Int) (h : Int) l [] = eO w h l 0 := by
    unfold eO
    rw [Nat.zero_mul]; rfl
  rw [e]
  exact ⟨lx_run (s := eO w h l) (eo_step w1 h1 g) eo_end nofun (by omega), lx_lok (s := eO w h l) (eo_step w1 h1 g) eo_end nofun (fun y _ => eo_obs w1 h1 g y) (by omega)⟩
end

theorem FrameTells_true (x0_0 : Int) (a0_0 : IntKind.min .u8 ≤ x0_0) (b0_0 : x0_0 ≤ IntKind.max .u8) (x0_1 : Int) (a0_1 : IntKind.min .u8 ≤ x0_1) (b0_1 : x0_1 ≤ IntKind.max .u8) (y0_2 : List (List Int)) (p0_2 : ∀ row ∈ y0_2, RowFit [.int .u8, .int .u8, .int .u8, .int .u8, .int .u16, .int .u8] row) (q0_2 : y0_2.length ≤ maxLen) : lFrTel_0 x0_0 x0_1 (List.length y0_2) y0_2 = true := by
  obtain ⟨l0_0, g0_0⟩ := bd_u8 a0_0 b0_0
  have w0_0 : IntKind.wrap .i64 x0_0 = x0_0 := w64_in (by omega) (by omega)
  obtain ⟨l0_1, g0_1⟩ := bd_u8 a0_1 b0_1
  have w0_1 : IntKind.wrap .i64 x0_1 = x0_1 := w64_in (by omega) (by omega)
  have hd := row_dep p0_2
  have hc := row_col p0_2
  have s0 := sm_0 l0_0 g0_0
  have s1 := sm_1 l0_1 g0_1
  obtain ⟨e0, e1, g⟩ := (sizedC (x1 := fSmF_s0 x0_0) (x2 := fSmF_s1 x0_1) (by omega) (by omega) (by omega) (by omega) x0_0 x0_1 y0_2.length hd hc).1
  have w1 := cl_1 (fSmF_s0 x0_0)
  have w2 := cl_64 (fSmF_s0 x0_0)
  have h1 := cl_1 (fSmF_s1 x0_1)
  have h2 := cl_64 (fSmF_s1 x0_1)
  unfold lFrTel_0 lFrTel_s2 lFrTel_s1 fSmF_0 fSmF_1 fSmF_2
  rw [awake, e0, e1]
  generalize fSized_2 x0_0 x0_1 y0_2.length (fSmF_s0 x0_0) (fSmF_s1 x0_1) y0_2 = l at *
  generalize cl (fSmF_s0 x0_0) = w at *
  generalize cl (fSmF_s1 x0_1) = h at *
  have hM := r_len w2 h2 g.1
  have hr := (eo_run w2 h2 g).1
  have hchk := c_good (w := (w : Int)) (h := (h : Int)) hM (chk_sz w1 w2 h1 h2 g.1.1) (fun i hi => g.1.2 i (by have := g.1.1; omega))
  rw [hr, text_eq w2 h2 hchk]
  have hb := sO_bytes g.2 l.length
  have hl : (sO l l.length).length ≤ 100000 := by rw [sO_len]; omega
  have hsum : fSum_0 l = rSum_0 (sO l l.length) := by
    rw [(Crc.rSum_all hb hl false).1]
    unfold fSum_0
    rw [sum_a4 hM]
  have hwh : h * w = l.length := by rw [g.1.1, Nat.mul_comm]
  have hz : lFrTel_l509_T.a7 (V.valOf (some (X.e 0, eO w h l h))) = sO l l.length := by
    show sO l (h * w) = _
    rw [hwh]
  have ht : lFrTel_l509_T.a1 (V.valOf (some (X.e 0, eO w h l h))) = bytesOf (uO w h l h) := rfl
  rw [hz, ht, hsum, beq_self_eq_true, beq_self_eq_true]
  cases lFrTel_s0 (List.length y0_2) <;> rfl

theorem FrameTells_obs (x0_0 : Int) (a0_0 : IntKind.min .u8 ≤ x0_0) (b0_0 : x0_0 ≤ IntKind.max .u8) (x0_1 : Int) (a0_1 : IntKind.min .u8 ≤ x0_1) (b0_1 : x0_1 ≤ IntKind.max .u8) (y0_2 : List (List Int)) (p0_2 : ∀ row ∈ y0_2, RowFit [.int .u8, .int .u8, .int .u8, .int .u8, .int .u16, .int .u8] row) (q0_2 : y0_2.length ≤ maxLen) : Alls (lFrTel_o x0_0 x0_1 (List.length y0_2) y0_2) := by
  obtain ⟨l0_0, g0_0⟩ := bd_u8 a0_0 b0_0
  have w0_0 : IntKind.wrap .i64 x0_0 = x0_0 := w64_in (by omega) (by omega)
  obtain ⟨l0_1, g0_1⟩ := bd_u8 a0_1 b0_1
  have w0_1 : IntKind.wrap .i64 x0_1 = x0_1 := w64_in (by omega) (by omega)
  have hd := row_dep p0_2
  have hc := row_col p0_2
  have s0 := sm_0 l0_0 g0_0
  have s1 := sm_1 l0_1 g0_1
  obtain ⟨⟨e0, e1, g⟩, zk⟩ := sizedC (x1 := fSmF_s0 x0_0) (x2 := fSmF_s1 x0_1) (by omega) (by omega) (by omega) (by omega) x0_0 x0_1 y0_2.length hd hc
  have w1 := cl_1 (fSmF_s0 x0_0)
  have w2 := cl_64 (fSmF_s0 x0_0)
  have h1 := cl_1 (fSmF_s1 x0_1)
  have h2 := cl_64 (fSmF_s1 x0_1)
  have hN := cl_N (fSmF_s0 x0_0) (fSmF_s1 x0_1)
  obtain ⟨q1, q2, q3, q4, _⟩ := rep_obs (p0 := 0) (p1 := 0) (p2 := 0) (p3 := 0) (p4 := 65535) (p5 := 0) hN.1 hN.2 false
  rw [← n_s6] at q1 q2 q3 q4
  obtain ⟨a1', a2', a3', a4', a5', a6', a7', _⟩ := aw_obs
  refine ⟨a1', a2', a3', a4', a5', a6', a7', fun _ _ => q1, fun _ _ => q2, fun _ _ => q3, fun _ _ => q4, fun _ _ => zk, ?_⟩
  unfold lFrTel_s3 lFrTel_s2 lFrTel_s1 fSmF_0 fSmF_1 fSmF_2
  rw [e0, e1]
  clear q1 q2 q3 q4 zk
  generalize fSized_2 x0_0 x0_1 y0_2.length (fSmF_s0 x0_0) (fSmF_s1 x0_1) y0_2 = l at *
  generalize cl (fSmF_s0 x0_0) = w at *
  generalize cl (fSmF_s1 x0_1) = h at *
  have hM := r_len w2 h2 g.1
  obtain ⟨hr, hk⟩ := eo_run w2 h2 g
  have hwh : h * w = l.length := by rw [g.1.1, Nat.mul_comm]
  have hz : lFrTel_l509_T.a7 (V.valOf (some (X.e 0, eO w h l h))) = sO l l.length := by
    show sO l (h * w) = _
    rw [hwh]
  rw [hr, hz]
  have hb := sO_bytes g.2 l.length
  have hl : (sO l l.length).length ≤ 100000 := by rw [sO_len]; omega
  obtain ⟨k1, k2, k3, k4, k5, k6, _⟩ := (Crc.rSum_all hb hl false).2
  refine ⟨fun _ _ => hk, fun _ _ _ => sum_lok hM, fun _ _ _ _ => ?_, fun _ _ _ => k1, fun _ _ _ => k2, fun _ _ _ => k3, fun _ _ _ => k4, fun _ _ _ => k5, fun _ _ _ => k6, fun _ _ _ _ _ => c_lok hM, fun _ _ _ _ _ => text_lok w2 h2 g.1.1 (fun k j hj => g.2 k j (by omega)), trivial⟩
  rw [sum_a4 hM]
  exact crc_lok hl

end Go.Proofs.Ytcdejlgophpdjaa
end

