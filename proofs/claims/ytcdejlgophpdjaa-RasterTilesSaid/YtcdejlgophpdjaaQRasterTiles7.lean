/-
  From a contract of a law to the row's step, for laws whose arguments hold slices of numbers, bools, and structs and arrays of these.
-/
import Derived.Carry
import Derived.Deep.Slices
import Derived.Test.YtcdejlgophpdjaaQRasterTiles6
section
namespace Go.Proofs.Ytcdejlgophpdjaa.V
open Go Go.RowKit Go.ChangeShapes Go.WideShapes Go.ChangeAt

/-- A cell's kind: a plain one's; a slice's, by the kinds of its elements' cells. -/
inductive Kc where
  | one (k : Kn)
  | slc (sh : List Kd)

def kdsKc : List Kc → Option (List Kd)
  | [] => some []
  | .one (.int k) :: r => match kdsKc r with
    | some l => some (.int k :: l)
    | none => none
  | .one .bool :: r => match kdsKc r with
    | some l => some (.bool :: l)
    | none => none
  | _ => none

def kcFs (P : Program) (rec : TypeId → Option (List Kc)) : Nat → List Field → Option (List Kc)
  | _, [] => some []
  | off, f :: fs => match rec f.type with
    | some ks => match Nat.beq f.offset off && Nat.beq ks.length (P.cellsOf f.type), kcFs P rec (off + ks.length) fs with
      | true, some r => some (ks ++ r)
      | _, _ => none
    | none => none

/-- A type's cells. -/
def kcT (P : Program) : Nat → TypeId → Option (List Kc)
  | 0, _ => none
  | d + 1, t => match P.underlying t with
    | some .bool => some [.one .bool]
    | some (.int k) => some [.one (.int k)]
    | some .string => some [.one .str]
    | some (.slice e) => match (kcT P d e).bind kdsKc with
      | some sh => match Nat.ble 1 sh.length && Nat.beq sh.length (P.cellsOf e) with
        | true => some [.slc sh]
        | false => none
      | none => none
    | some (.struct fs) => match kcFs P (kcT P d) 0 fs.toList with
      | some ks => match Nat.beq ks.length (P.cellsOf t) with
        | true => some ks
        | false => none
      | none => none
    | some (.array n e) => match kcT P d e with
      | some ks => match Nat.beq ks.length (P.cellsOf e) && Nat.beq (n * ks.length) (P.cellsOf t) with
        | true => some ((List.replicate n ks).flatten)
        | false => none
      | none => none
    | _ => none

def KdFit : Kd → Int → Prop
  | .int k, n => k.min ≤ n ∧ n ≤ k.max
  | .bool, n => n = 0 ∨ n = 1

def RowFit (sh : List Kd) (row : List Int) : Prop := row.length = sh.length ∧ ∀ (j : Nat) k n, sh[j]? = some k → row[j]? = some n → KdFit k n

/-- A slice's cells stand in the world. -/
def SlcIn (w : World) (sh : List Kd) (l : List (List Int)) (v : Value) : Prop :=
  ∃ a cap, v = .slice a l.length cap ∧ l.length ≤ cap ∧ cap ≤ maxLen ∧
    (l = [] ∨ ∃ r o arr ty fz, a = some ⟨r, o, none⟩ ∧ w.heap[r]? = some (.cells arr ty fz) ∧ RowsIn arr o ⟨0, sh, l, none⟩)

def CF (w : World) : Kc → Value → Prop
  | .one k, v => ∃ x : At, FitAt k x ∧ x.rel (fun _ => none) v
  | .slc sh, v => ∃ l : List (List Int), (∀ row ∈ l, RowFit sh row) ∧ l.length ≤ maxLen ∧ SlcIn w sh l v

theorem pick_list {α : Type} {p : Nat → α → Prop} : ∀ (n : Nat), (∀ i, i < n → ∃ x, p i x) → ∃ l : List α, l.length = n ∧ ∀ i x, l[i]? = some x → p i x
  | 0, _ => ⟨[], rfl, fun i x h => by simp at h⟩
  | n + 1, h => by
    obtain ⟨l, l1, l2⟩ := pick_list n fun i hi => h i (by omega)
    obtain ⟨x, hx⟩ := h n (by omega)
    refine ⟨l ++ [x], by simp [l1], fun i y hy => ?_⟩
    rw [List.getElem?_append] at hy
    split at hy
    · exact l2 i y hy
    · rename_i hi
      have e : i = n := by
        rcases Nat.lt_or_ge (i - l.length) 1 with h1 | h1
        · omega
        · rw [List.getElem?_eq_none (by simpa using h1)] at hy; cases hy
      subst e
      rw [l1, Nat.sub_self] at hy
      simp only [List.getElem?_cons_zero, Option.some.injEq] at hy
      subst hy; exact hx

theorem All2.get2 {α β : Type} {R : α → β → Prop} : ∀ {l : List α} {m : List β}, All2 R l m → ∀ {i : Nat} {x : α} {y : β}, l[i]? = some x → m[i]? = some y → R x y
  | _, _, .cons r _, 0, _, _, h, g => by simp at h g; subst h g; exact r
  | _, _, .cons _ a, i + 1, _, _, h, g => a.get2 (i := i) (by simpa using h) (by simpa using g)

/-- Cells of an element as a row. -/
theorem row_of {w : World} : ∀ {ks : List Kc} {sh : List Kd} {cs : List Value}, kdsKc ks = some sh → All2 (CF w) ks cs →
    ∃ row : List Int, RowFit sh row ∧ cs.length = sh.length ∧ ∀ (j : Nat) k n, sh[j]? = some k → row[j]? = some n → cs[j]? = some (k.val n)
  | [], sh, cs, h, hl => by
    simp only [kdsKc, Option.some.injEq] at h; subst h
    cases hl
    exact ⟨[], ⟨rfl, fun j k n h => by simp at h⟩, rfl, fun j k n h => by simp at h⟩
  | .one (.int kk) :: ks, sh, cs, h, hl => by
    unfold kdsKc at h
    split at h
    · rename_i l hk
      simp only [Option.some.injEq] at h; subst h
      cases hl with
      | cons a b =>
        obtain ⟨x, ⟨n, rfl, h1, h2⟩, hv⟩ := a
        obtain ⟨row, ⟨r1, r2⟩, r3, r4⟩ := row_of hk b
        have hv' : _ = Value.int kk n := hv
        refine ⟨n :: row, ⟨by simp [r1], fun j k m g1 g2 => ?_⟩, by simp [r3], fun j k m g1 g2 => ?_⟩
        · cases j with
          | zero => simp at g1 g2; subst g1 g2; exact ⟨h1, h2⟩
          | succ j => exact r2 j k m (by simpa using g1) (by simpa using g2)
        · cases j with
          | zero => simp at g1 g2; subst g1 g2; simp [hv', Kd.val]
          | succ j => simpa using r4 j k m (by simpa using g1) (by simpa using g2)
    · cases h
  | .one .bool :: ks, sh, cs, h, hl => by
    unfold kdsKc at h
    split at h
    · rename_i l hk
      simp only [Option.some.injEq] at h; subst h
      cases hl with
      | cons a b =>
        obtain ⟨x, ⟨n, rfl⟩, hv⟩ := a
        obtain ⟨row, ⟨r1, r2⟩, r3, r4⟩ := row_of hk b
        have hv' : _ = Value.bool n := hv
        refine ⟨(bif n then 1 else 0) :: row, ⟨by simp [r1], fun j k m g1 g2 => ?_⟩, by simp [r3], fun j k m g1 g2 => ?_⟩
        · cases j with
          | zero => simp at g1 g2; subst g1 g2; cases n <;> simp [KdFit]
          | succ j => exact r2 j k m (by simpa using g1) (by simpa using g2)
        · cases j with
          | zero => simp at g1 g2; subst g1 g2; cases n <;> simp [hv', Kd.val]
          | succ j => simpa using r4 j k m (by simpa using g1) (by simpa using g2)
    · cases h
  | .one .str :: ks, sh, cs, h, hl => by simp [kdsKc] at h
  | .slc _ :: ks, sh, cs, h, hl => by simp [kdsKc] at h

theorem kcFs_all {P : Program} {w : World} {rec : TypeId → Option (List Kc)} {cs : List Value} : ∀ {fs : List Field} {off : Nat} {ks : List Kc}, kcFs P rec off fs = some ks →
    (∀ f ∈ fs, ∀ ks, rec f.type = some ks → ks.length = P.cellsOf f.type → All2 (CF w) ks ((cs.drop f.offset).take (P.cellsOf f.type))) →
    cs.length = off + ks.length → All2 (CF w) ks (cs.drop off)
  | [], off, ks, h, _, hl => by
    simp only [kcFs, Option.some.injEq] at h; subst h
    rw [List.drop_eq_nil_of_le (by simp at hl; omega)]; exact .nil
  | f :: fs, off, ks, h, hh, hl => by
    unfold kcFs at h
    split at h
    · rename_i k0 hk0
      split at h
      · rename_i r hb hr
        simp only [Option.some.injEq] at h; subst h
        simp only [Bool.and_eq_true] at hb
        have e1 := Nat.eq_of_beq_eq_true hb.1
        have e2 := Nat.eq_of_beq_eq_true hb.2
        have a := hh f (by simp) k0 hk0 e2
        have b := kcFs_all hr (fun g hg => hh g (by simp [hg])) (by simp at hl; omega)
        rw [e1, ← e2] at a
        have e : cs.drop off = (cs.drop off).take k0.length ++ cs.drop (off + k0.length) := by
          rw [← List.drop_drop]; exact (List.take_append_drop _ _).symm
        rw [e]
        exact a.append b
      · cases h
    · cases h

theorem rep_all {w : World} {ks : List Kc} {cs : List Value} {n : Nat} (hl : cs.length = n * ks.length) (h : ∀ i, i < n → All2 (CF w) ks ((cs.drop (i * ks.length)).take ks.length)) : ∀ m, m ≤ n → All2 (CF w) ((List.replicate m ks).flatten) (cs.drop ((n - m) * ks.length))
  | 0, _ => by
    rw [Nat.sub_zero, List.drop_eq_nil_of_le (by omega)]; exact .nil
  | m + 1, hm => by
    rw [List.replicate_succ, List.flatten_cons]
    have a := h (n - (m + 1)) (by omega)
    have b := rep_all hl h m (by omega)
    have e : cs.drop ((n - (m + 1)) * ks.length) = (cs.drop ((n - (m + 1)) * ks.length)).take ks.length ++ cs.drop ((n - m) * ks.length) := by
      have e' : (n - m) * ks.length = (n - (m + 1)) * ks.length + ks.length := by
        rw [← Nat.succ_mul]; congr 1; omega
      rw [e', ← List.drop_drop]; exact (List.take_append_drop _ _).symm
    rw [e]
    exact a.append b

section
variable {H : Type} {enc : TypeId × Value → H} {P : Program} {w : World}

theorem trod_kc : ∀ (d : Nat) {t : TypeId} {ks : List Kc} {fuel : Nat} {cs : List Value} {x : DataW H × List MemPlace}, kcT P d t = some ks → DataW.trod enc P w 0 (fun _ => true) true fuel t cs = some x → All2 (CF w) ks cs
  | 0, t, ks, fuel, cs, x, h, _ => by simp [kcT] at h
  | d + 1, t, ks, fuel, cs, x, h, hx => by
    unfold kcT at h
    split at h
    · rename_i hu
      simp only [Option.some.injEq] at h; subst h
      obtain ⟨b, rfl, _⟩ := DataW.trod_bool hu hx
      exact .cons ⟨.bool true b, ⟨b, rfl⟩, rfl⟩ .nil
    · rename_i k hu
      simp only [Option.some.injEq] at h; subst h
      obtain ⟨n, rfl, _, hw⟩ := DataW.trod_int hu hx
      have hn : k.min ≤ n ∧ n ≤ k.max := by simpa [Lit.wf, IntKind.has] using hw
      exact .cons ⟨.int true k n, ⟨n, rfl, hn.1, hn.2⟩, rfl⟩ .nil
    · rename_i hu
      simp only [Option.some.injEq] at h; subst h
      obtain ⟨s, rfl, _, hw⟩ := DataW.trod_string hu hx
      have hm : (maxLen : Int) ≤ IntKind.i64.max := by decide
      exact .cons ⟨.str true s, ⟨s, rfl, by omega⟩, rfl⟩ .nil
    · rename_i e hu
      split at h
      · rename_i sh hsh
        obtain ⟨kse, hk1, hk2⟩ := Option.bind_eq_some_iff.1 hsh
        split at h
        · rename_i hb
          simp only [Option.some.injEq] at h; subst h
          simp only [Bool.and_eq_true] at hb
          have p1 : 1 ≤ sh.length := Nat.le_of_ble_eq_true hb.1
          have p2 : sh.length = P.cellsOf e := Nat.eq_of_beq_eq_true hb.2
          rcases Go.Deep.open_slice hu hx with ⟨rfl, _⟩ | ⟨a, len, cap, m, n, D, Pl, rfl, _, h1, h2, h3, _, h4⟩
          · exact .cons ⟨[], nofun, by simp, none, 0, rfl, by simp, by simp, .inl rfl⟩ .nil
          · simp only [if_true] at h3
            subst h3
            obtain ⟨l, l1, l2⟩ := pick_list (p := fun i (row : List Int) => RowFit sh row ∧ ∀ (j : Nat) k n, sh[j]? = some k → row[j]? = some n → w.cell? ((a.add (i * sh.length)).add j) = some (k.val n)) len fun i hi => by
              obtain ⟨cs', c1, c2⟩ := h4 i (by omega)
              obtain ⟨_, q2, q3⟩ := World.cells?_some c1
              obtain ⟨row, r1, r2, r3⟩ := row_of hk2 (trod_kc d hk1 c2)
              refine ⟨row, r1, fun j k n g1 g2 => ?_⟩
              have hj : j < sh.length := (List.getElem?_eq_some_iff.1 g1).1
              rw [p2, q3 j (by omega)]
              exact r3 j k n g1 g2
            refine .cons ⟨l, fun row hrow => ?_, by omega, some a, _, by rw [l1], by omega, h2, ?_⟩ .nil
            · obtain ⟨i, hi⟩ := List.getElem?_of_mem hrow
              exact (l2 i row hi).1
            · rcases Nat.eq_zero_or_pos len with h0 | h0
              · left; exact List.eq_nil_of_length_eq_zero (by omega)
              · right
                have get : ∀ i, i < len → ∃ row, l[i]? = some row := fun i hi => ⟨_, List.getElem?_eq_getElem (by omega)⟩
                have cell : ∀ i j, i < len → j < sh.length → ∃ row n k, l[i]? = some row ∧ row[j]? = some n ∧ sh[j]? = some k ∧ w.cell? ((a.add (i * sh.length)).add j) = some (k.val n) := fun i j hi hj => by
                  obtain ⟨row, hr⟩ := get i hi
                  obtain ⟨⟨q1, _⟩, q2⟩ := l2 i row hr
                  have hn : row[j]? = some row[j] := List.getElem?_eq_getElem (by omega)
                  have hk : sh[j]? = some sh[j] := List.getElem?_eq_getElem (by omega)
                  exact ⟨row, _, _, hr, hn, hk, q2 j _ _ hk hn⟩
                obtain ⟨r, o, spot⟩ := a
                obtain ⟨row0, n0, k0, _, _, _, hc0⟩ := cell 0 0 h0 p1
                have hspot : spot = none := by
                  have := World.cell?_spot hc0
                  simpa [Addr.add] using this
                subst hspot
                simp only [add_eq] at cell l2 hc0
                unfold World.cell? at hc0
                split at hc0
                · rename_i arr ty fz hheap
                  have ha : ∀ k, w.cell? ⟨r, k, none⟩ = arr[k]? := fun k => by
                    unfold World.cell?
                    simp only at hheap
                    simp only [hheap]
                    rfl
                  refine ⟨r, o, arr, ty, fz, rfl, hheap, fun p row hr => ⟨(l2 p row hr).1.1, fun j n k g1 g2 => ?_⟩, ?_⟩
                  · have := (l2 p row hr).2 j k n g2 g1
                    rw [ha] at this
                    rw [show o + (0 + p * sh.length + j) = o + p * sh.length + j by omega]
                    exact this
                  · obtain ⟨row, n, k, _, _, _, hc⟩ := cell (len - 1) (sh.length - 1) (by omega) (by omega)
                    rw [ha] at hc
                    have hlt := (Array.getElem?_eq_some_iff.1 hc).1
                    have e : len * sh.length = (len - 1) * sh.length + sh.length := by
                      rw [← Nat.succ_mul]; congr 1; omega
                    show 0 + l.length * sh.length + o ≤ arr.size
                    rw [l1, e]
                    omega
                · cases hc0
        · cases h
      · cases h
    · rename_i fs hu
      split at h
      · rename_i ks' hk
        split at h
        · rename_i hb
          simp only [Option.some.injEq] at h; subst h
          have hb' := Nat.eq_of_beq_eq_true hb
          obtain ⟨xs, n, rfl, _, hl, hxs, hf⟩ := DataW.trod_struct hu hx
          have := kcFs_all (w := w) (cs := cs) hk (fun f hf' ks0 h1 h2 => by
            obtain ⟨i, hi⟩ := List.getElem?_of_mem hf'
            have hi' : fs[i]? = some f := by simpa using hi
            have e := hf i f hi'
            have hlt : i < xs.length := by rw [hxs]; exact (Array.getElem?_eq_some_iff.1 hi').1
            rw [List.getElem?_eq_getElem hlt] at e
            exact trod_kc d h1 e) (by rw [hl, ← hb']; simp)
          simpa using this
        · cases h
      · cases h
    · rename_i n e hu
      split at h
      · rename_i ks' hk
        split at h
        · rename_i hb
          simp only [Option.some.injEq] at h; subst h
          simp only [Bool.and_eq_true] at hb
          have b1 := Nat.eq_of_beq_eq_true hb.1
          have b2 := Nat.eq_of_beq_eq_true hb.2
          obtain ⟨xs, m, rfl, _, hl, hxs, hf⟩ := DataW.trod_array hu hx
          have := rep_all (w := w) (ks := ks') (cs := cs) (n := n) (by rw [hl, ← b2]) (fun i hi => by
            have e := hf i hi
            rw [List.getElem?_eq_getElem (by omega)] at e
            rw [b1]
            exact trod_kc d hk e) n (Nat.le_refl _)
          simpa using this
        · cases h
      · cases h
    · cases h

end

/-- A slice that came in, as a block that is not written. -/
def roBC (sh : List Kd) (l : List (List Int)) : BC := ⟨⟨0, 0, true, some ⟨0, sh, l, none⟩⟩, []⟩

/-- For all cells of these kinds, and the blocks behind them. -/
def AllC : List Kc → List BC → (List At → List BC → Prop) → Prop
  | [], bs, Q => Q [] bs
  | .one (.int k) :: ks, bs, Q => ∀ n : Int, k.min ≤ n → n ≤ k.max → AllC ks bs fun l bs' => Q (.int true k n :: l) bs'
  | .one .bool :: ks, bs, Q => ∀ b : Bool, AllC ks bs fun l bs' => Q (.bool true b :: l) bs'
  | .one .str :: ks, bs, Q => ∀ s : ByteArray, (s.size : Int) ≤ IntKind.i64.max → AllC ks bs fun l bs' => Q (.str true s :: l) bs'
  | .slc sh :: ks, bs, Q => ∀ l : List (List Int), (∀ row ∈ l, RowFit sh row) → l.length ≤ maxLen → AllC ks (bs ++ [roBC sh l]) fun ags bs' => Q (.slc true bs.length 0 0 sh.length 0 l.length :: ags) bs'

/-- For all arguments of these shapes. -/
def AllB : List (Bool × List Kc) → List BC → (List LV → List BC → Prop) → Prop
  | [], bs, Q => Q [] bs
  | (true, ks) :: r, bs, Q => AllC ks bs fun l bs' => AllB r bs' fun ags bs'' => Q (.g l :: ags) bs''
  | (false, ks) :: r, bs, Q => AllC ks bs fun l bs' => match l with
    | [x] => AllB r bs' fun ags bs'' => Q (.a x :: ags) bs''
    | _ => True

/-- The blocks stand in the world, none of them written. -/
structure RoB (w : World) (φ : Phi) (bs : List BC) : Prop where
  at_ : ∀ (b : Nat) c, bs[b]? = some c → ∃ i sh l, φ b = some i ∧ c = roBC sh l ∧ i.v = 0 ∧ i.ro = true ∧ i.n = l.length ∧
    ((i.a = none ∧ l = []) ∨ ∃ r o arr ty fz, i.a = some (r, o) ∧ w.heap[r]? = some (.cells arr ty fz) ∧ RowsIn arr o ⟨0, sh, l, none⟩ ∧ l.length * sh.length ≤ i.z)
  dom : ∀ b, bs.length ≤ b → φ b = none

theorem RoB.nil (w : World) : RoB w (fun _ => none) [] := ⟨fun b c h => by simp at h, fun _ _ => rfl⟩

theorem memOf_ro {bs : List BC} (h : ∀ (b : Nat) c, bs[b]? = some c → c.cs = []) (k : Nat) : memOf bs k = none := by
  unfold memOf
  split
  · rename_i c hc
    unfold cellOf
    rw [h _ c hc]; rfl
  · rfl

theorem hdsIn_none {bs : List BC} {out : List (Option BC)} (ho : ∀ (b : Nat) c, bs[b]? = some c → c.h.ro = true) : hdsIn bs out = fun b => (bs[b]?).map (·.h) := by
  funext b
  unfold hdsIn
  split
  · rename_i c hc
    have e : roH c.h = c.h := by
      have := ho b c hc
      unfold roH
      rw [← this]
    split
    · rw [e, hc]; rfl
    · rw [hc]; rfl
  · rename_i hc
    rw [hc]; rfl

theorem RoB.mr {w : World} {φ : Phi} {bs : List BC} (h : RoB w φ bs) (out : List (Option BC)) : MR w (fun _ => False) φ (memOf bs) (hdsIn bs out) (fun b => bs.length ≤ b) w := by
  have lt : ∀ b i, φ b = some i → b < bs.length := fun b i hi => by
    rcases Nat.lt_or_ge b bs.length with h1 | h1
    · exact h1
    · rw [h.dom b h1] at hi; cases hi
  have get : ∀ b i, φ b = some i → i.ro = true ∧ ∀ r o, i.a = some (r, o) → r < w.heap.size := fun b i hi => by
    obtain ⟨j, sh, l, h1, _, _, h2, _, h3⟩ := h.at_ b _ (List.getElem?_eq_getElem (lt b i hi))
    rw [hi] at h1
    simp only [Option.some.injEq] at h1; subst h1
    refine ⟨h2, fun r o ha => ?_⟩
    rcases h3 with ⟨h3, _⟩ | ⟨r', o', arr, ty, fz, h3, h4, _⟩
    · rw [h3] at ha; cases ha
    · rw [h3] at ha
      simp only [Option.some.injEq, Prod.mk.injEq] at ha
      obtain ⟨rfl, _⟩ := ha
      exact (Array.getElem?_eq_some_iff.1 h4).1
  have hm : ∀ k, memOf bs k = none := memOf_ro fun b c hc => by
    obtain ⟨_, _, _, _, rfl, _⟩ := h.at_ b c hc; rfl
  have hh : hdsIn bs out = fun b => (bs[b]?).map (·.h) := hdsIn_none fun b c hc => by
    obtain ⟨_, _, _, _, rfl, _⟩ := h.at_ b c hc; rfl
  refine ⟨fun k x hk => ?_, fun b g hg => ?_, fun k x g hk => ?_, fun b b' i i' r o o' h1 h2 _ _ => ?_, fun b i r o h1 _ h3 => ?_, fun b i r o h1 h2 _ => ?_, fun b hb => h.dom b hb, fun b i r o h1 h2 => ?_, rfl, rfl, rfl, Nat.le_refl _, fun _ _ _ => rfl, fun _ => rfl⟩
  · rw [hm] at hk; cases hk
  · rw [hh] at hg
    obtain ⟨c, hc, rfl⟩ := Option.map_eq_some_iff.1 hg
    obtain ⟨i, sh, l, g1, rfl, g2, g3, g4, g5⟩ := h.at_ b c hc
    refine ⟨i, g1, g2, g3, nofun, fun R hR => ?_⟩
    have hR' : some (⟨0, sh, l, none⟩ : Rw) = some R := hR
    simp only [Option.some.injEq] at hR'; subst hR'
    refine ⟨g4.symm, fun N hN => (nomatch hN), ?_⟩
    rcases g5 with ⟨g5, g6⟩ | ⟨r, o, arr, ty, fz, g5, g6, g7, g8⟩
    · exact .inl ⟨g5, g6, rfl⟩
    · exact .inr ⟨r, o, arr, ty, fz, g5, g6, g7, by simpa using g8⟩
  · rw [hm] at hk; cases hk
  · exact .inr ⟨(get b i h1).1, (get b' i' h2).1⟩
  · rw [(get b i h1).1] at h3; cases h3
  · exact ⟨(get b i h1).2 r o h2, id⟩
  · exact (get b i h1).2 r o h2

/-- One slice more. -/
theorem RoB.add {w : World} {φ : Phi} {bs : List BC} (h : RoB w φ bs) {sh : List Kd} {l : List (List Int)} {v : Value} (hv : SlcIn w sh l v) :
    ∃ ψ, φ.le ψ ∧ RoB w ψ (bs ++ [roBC sh l]) ∧ At.rel ψ (.slc true bs.length 0 0 sh.length 0 l.length) v ∧ (l ≠ [] → At.rel ψ (.vec bs.length 0 sh.length) v) := by
  obtain ⟨a, cap, rfl, hc, hm, hl⟩ := hv
  have hd := h.dom bs.length (Nat.le_refl _)
  have mk : ∀ j : Inf, j.v = 0 → j.ro = true → j.n = l.length → ((j.a = none ∧ l = []) ∨ ∃ r o arr ty fz, j.a = some (r, o) ∧ w.heap[r]? = some (.cells arr ty fz) ∧ RowsIn arr o ⟨0, sh, l, none⟩ ∧ l.length * sh.length ≤ j.z) →
      φ.le (setP φ bs.length j) ∧ RoB w (setP φ bs.length j) (bs ++ [roBC sh l]) := fun j j1 j2 j3 j4 => by
    refine ⟨phi_upd_le (.inl hd), ⟨fun b c hb => ?_, fun b hb => ?_⟩⟩
    · rw [List.getElem?_append] at hb
      split at hb
      · rename_i hlt
        obtain ⟨i, sh', l', g1, g2⟩ := h.at_ b c hb
        exact ⟨i, sh', l', by unfold setP; rw [if_neg (by omega)]; exact g1, g2⟩
      · rename_i hge
        have e : b = bs.length := by
          rcases Nat.lt_or_ge (b - bs.length) 1 with h1 | h1
          · omega
          · rw [List.getElem?_eq_none (by simpa using h1)] at hb; cases hb
        subst e
        rw [Nat.sub_self] at hb
        simp only [List.getElem?_cons_zero, Option.some.injEq] at hb
        exact ⟨j, sh, l, setP_same .., hb.symm, j1, j2, j3, j4⟩
    · unfold setP
      rw [List.length_append] at hb
      simp only [List.length_cons, List.length_nil] at hb
      rw [if_neg (by omega)]
      exact h.dom b (by omega)
  rcases hl with rfl | ⟨r, o, arr, ty, fz, rfl, h1, h2⟩
  · obtain ⟨m1, m2⟩ := mk ⟨0, none, 0, 0, 0, true⟩ rfl rfl rfl (.inl ⟨rfl, rfl⟩)
    refine ⟨_, m1, m2, ⟨⟨rfl, rfl⟩, _, setP_same .., Nat.le_refl _, fun _ => ⟨Nat.le_refl _, a, cap, rfl, hc, .inl rfl⟩⟩, fun h => absurd rfl h⟩
  · obtain ⟨m1, m2⟩ := mk ⟨ty, some (r, o), cap * sh.length, l.length, 0, true⟩ rfl rfl rfl (.inr ⟨r, o, arr, ty, fz, rfl, h1, h2, Nat.mul_le_mul_right _ hc⟩)
    refine ⟨_, m1, m2, ⟨⟨rfl, rfl⟩, _, setP_same .., Nat.le_refl _, fun _ => ⟨by simp, some ⟨r, o, none⟩, cap, rfl, hc, .inr ⟨r, o, rfl, by simp⟩⟩⟩, fun _ => ⟨⟨rfl, rfl⟩, _, setP_same .., Nat.le_refl _, fun _ => .inr ⟨r, o, cap, rfl, rfl, hc, rfl, hm⟩⟩⟩

theorem AllC.use {w : World} : ∀ {ks : List Kc} {bs : List BC} {Q : List At → List BC → Prop} {cs : List Value} {φ : Phi}, AllC ks bs Q → All2 (CF w) ks cs → RoB w φ bs →
    ∃ ags bs' ψ, φ.le ψ ∧ RoB w ψ bs' ∧ All2 (At.rel ψ) ags cs ∧ Q ags bs'
  | [], bs, Q, cs, φ, h, hc, hb => by cases hc; exact ⟨[], bs, φ, φ.le_refl, hb, .nil, h⟩
  | .one (.int k) :: ks, bs, Q, cs, φ, h, hc, hb => by
    cases hc with
    | cons a b =>
      obtain ⟨x, ⟨n, rfl, h1, h2⟩, hv⟩ := a
      obtain ⟨ags, bs', ψ, p1, p2, p3, p4⟩ := (h n h1 h2).use b hb
      exact ⟨_ :: ags, bs', ψ, p1, p2, .cons (At.rel_mono (φ := fun _ => none) (fun _ _ h => nomatch h) hv) p3, p4⟩
  | .one .bool :: ks, bs, Q, cs, φ, h, hc, hb => by
    cases hc with
    | cons a b =>
      obtain ⟨x, ⟨n, rfl⟩, hv⟩ := a
      obtain ⟨ags, bs', ψ, p1, p2, p3, p4⟩ := (h n).use b hb
      exact ⟨_ :: ags, bs', ψ, p1, p2, .cons (At.rel_mono (φ := fun _ => none) (fun _ _ h => nomatch h) hv) p3, p4⟩
  | .one .str :: ks, bs, Q, cs, φ, h, hc, hb => by
    cases hc with
    | cons a b =>
      obtain ⟨x, ⟨n, rfl, h1⟩, hv⟩ := a
      obtain ⟨ags, bs', ψ, p1, p2, p3, p4⟩ := (h n h1).use b hb
      exact ⟨_ :: ags, bs', ψ, p1, p2, .cons (At.rel_mono (φ := fun _ => none) (fun _ _ h => nomatch h) hv) p3, p4⟩
  | .slc sh :: ks, bs, Q, cs, φ, h, hc, hb => by
    cases hc with
    | cons a b =>
      obtain ⟨l, h1, h2, h3⟩ := a
      obtain ⟨χ, q1, q2, q3, -⟩ := hb.add h3
      obtain ⟨ags, bs', ψ, p1, p2, p3, p4⟩ := (h l h1 h2).use b q2
      exact ⟨_ :: ags, bs', ψ, Phi.le_trans q1 p1, p2, .cons (At.rel_mono p1 q3) p3, p4⟩

/-- The shape of a parameter. -/
def kcShape (P : Program) (t : TypeId) : Option (Bool × List Kc) :=
  match P.underlying t with
  | some (.struct _) | some (.array _ _) => match kcT P 20 t with
    | some ks => some (true, ks)
    | none => none
  | some _ => match kcT P 20 t with
    | some [k] => some (false, [k])
    | _ => none
  | none => none

def kcShapes (P : Program) : List TypeId → Option (List (Bool × List Kc))
  | [] => some []
  | t :: ts => match kcShape P t, kcShapes P ts with
    | some s, some ss => some (s :: ss)
    | _, _ => none

theorem argsB_open {H : Type} {enc : TypeId × Value → H} {P : Program} {w : World} {r : Reach} {base : Nat} : ∀ {ts : List TypeId} {vs : List Value} {ds : List (DataW H)} {ps : List MemPlace} {ss : List (Bool × List Kc)} {bs : List BC} {Q : List LV → List BC → Prop} {φ : Phi}, kcShapes P ts = some ss →
    DataW.TrodAll enc P w 0 (fun _ => true) true ts vs ds ps → (∀ (j : Nat) t v, ts[j]? = some t → vs[j]? = some v → Value.okWide P w r base t v) → AllB ss bs Q → RoB w φ bs →
    ∃ ags bs' ψ, φ.le ψ ∧ RoB w ψ bs' ∧ All2 (LV.rel ψ) ags vs ∧ Q ags bs'
  | [], [], [], ps, ss, bs, Q, φ, hs, _, _, h, hb => by
    simp only [kcShapes, Option.some.injEq] at hs; subst hs
    exact ⟨[], bs, φ, φ.le_refl, hb, .nil, h⟩
  | [], [], _ :: _, ps, ss, bs, Q, φ, hs, ht, _, _, _ => ht.elim
  | [], _ :: _, _, ps, ss, bs, Q, φ, hs, ht, _, _, _ => ht.elim
  | t :: ts, [], _, ps, ss, bs, Q, φ, hs, ht, _, _, _ => ht.elim
  | t :: ts, v :: vs, [], ps, ss, bs, Q, φ, hs, ht, _, _, _ => ht.elim
  | t :: ts, v :: vs, d :: ds, ps, ss, bs, Q, φ, hs, ht, hw, h, hb => by
    obtain ⟨p, q, ⟨fuel, h1⟩, h2, rfl⟩ := ht
    unfold kcShapes at hs
    split at hs
    · rename_i s ss' k1 k2
      simp only [Option.some.injEq] at hs; subst hs
      obtain ⟨qq, ks⟩ := s
      have hw0 := hw 0 t v (by simp) (by simp)
      have rest := fun {Q'} {bs'} {ψ} => argsB_open (enc := enc) (Q := Q') (bs := bs') (φ := ψ) k2 h2 (fun j u x hj hx => hw (j + 1) u x (by simpa using hj) (by simpa using hx))
      have agg : (∃ cs, v = .agg cs) → kcT P 20 t = some ks → qq = true → ∃ ags bs' ψ, φ.le ψ ∧ RoB w ψ bs' ∧ All2 (LV.rel ψ) ags (v :: vs) ∧ Q ags bs' := fun ⟨cs, hv⟩ hk hq => by
        subst hq hv
        have hcf := trod_kc 20 hk h1
        obtain ⟨l, bs', ψ, p1, p2, p3, p4⟩ := AllC.use h hcf hb
        obtain ⟨ags, bs'', χ, r1, r2, r3, r4⟩ := rest p4 p2
        exact ⟨.g l :: ags, bs'', χ, Phi.le_trans p1 r1, r2, .cons ⟨cs, rfl, p3.mono fun _ _ => At.rel_mono r1⟩ r3, r4⟩
      unfold kcShape at k1
      unfold Value.okWide at hw0
      split at k1
      · rename_i hu
        simp only [hu] at hw0
        obtain ⟨cs, e, _, _⟩ := hw0
        split at k1
        · rename_i ks' hk
          simp only [Option.some.injEq, Prod.mk.injEq] at k1
          obtain ⟨rfl, rfl⟩ := k1
          exact agg ⟨cs, e⟩ hk rfl
        · cases k1
      · rename_i hu
        simp only [hu] at hw0
        obtain ⟨cs, e, _, _⟩ := hw0
        split at k1
        · rename_i ks' hk
          simp only [Option.some.injEq, Prod.mk.injEq] at k1
          obtain ⟨rfl, rfl⟩ := k1
          exact agg ⟨cs, e⟩ hk rfl
        · cases k1
      · rename_i dd hne1 hne2 hu
        simp only [hu] at hw0
        have hwc : Cell.okWide P w r base t v := by
          cases dd <;> first | exact hw0 | exact absurd rfl (hne1 _) | exact absurd rfl (hne2 _ _)
        split at k1
        · rename_i k hk
          simp only [Option.some.injEq, Prod.mk.injEq] at k1
          obtain ⟨rfl, rfl⟩ := k1
          have hone : v.cells = #[v] := by
            cases v with
            | agg cs =>
              exfalso
              unfold Cell.okWide at hwc
              unfold kcT at hk
              cases dd <;> simp only [hu, reduceCtorEq] at hk hwc <;> first | exact absurd rfl (hne1 _) | exact absurd rfl (hne2 _ _) | (unfold Cell.ok at hwc; simp [hu] at hwc)
            | _ => rfl
          have hcf := trod_kc 20 hk h1
          obtain ⟨l, bs', ψ, p1, p2, p3, p4⟩ := AllC.use h hcf hb
          have hlen := p3.length
          have hlen2 := hcf.length
          match l, hlen with
          | [x], hlen =>
            obtain ⟨ags, bs'', χ, r1, r2, r3, r4⟩ := rest p4 p2
            refine ⟨.a x :: ags, bs'', χ, Phi.le_trans p1 r1, r2, .cons ?_ r3, r4⟩
            rw [hone] at p3
            cases p3 with
            | cons p _ => exact At.rel_mono r1 p
          | [], hlen => simp at hlen hlen2; omega
          | _ :: _ :: _, hlen => simp at hlen hlen2; omega
        · cases k1
      · cases k1
    · cases hs

theorem trodAll_stays' {H : Type} {enc : TypeId × Value → H} {P : Program} (hl : laidOutB P = true) {W W' : World} (hb : Below W.heap.size W W') {sp : Nat → Bool} : ∀ {ts : List TypeId} {vs : List Value} {ds : List (DataW H)} {ps : List MemPlace},
    (ts.all fun t => P.readableRec t && decide (t < P.types.size)) = true → DataW.TrodAll enc P W 0 (fun _ => true) true ts vs ds ps → (∀ p ∈ ps, p.block < W.heap.size) → (∀ p ∈ ps, sp p.block = true) →
    DataW.TrodAll enc P W' 0 sp true ts vs ds ps
  | [], [], [], ps, _, h, _, _ => h
  | [], [], _ :: _, ps, _, h, _, _ => h.elim
  | [], _ :: _, _, ps, _, h, _, _ => h.elim
  | t :: ts, [], _, ps, _, h, _, _ => h.elim
  | t :: ts, v :: vs, [], ps, _, h, _, _ => h.elim
  | t :: ts, v :: vs, d :: ds, ps, hr, h, hlt, hs => by
    obtain ⟨p, q, h1, h2, rfl⟩ := h
    simp only [List.all_cons, Bool.and_eq_true] at hr
    exact ⟨p, q, WideElems.Trod_stays hl hr.1.1 (of_decide_eq_true hr.1.2) h1 (fun x hx => hb.same (hlt x (List.mem_append.2 (.inl hx)))) (fun x hx => hs x (List.mem_append.2 (.inl hx))),
      trodAll_stays' hl hb hr.2 h2 (fun x hx => hlt x (List.mem_append.2 (.inr hx))) (fun x hx => hs x (List.mem_append.2 (.inr hx))), rfl⟩

theorem trodAll_len {H : Type} {enc : TypeId × Value → H} {P : Program} {W : World} {sp : Nat → Bool} {hd : Bool} : ∀ {ts : List TypeId} {vs : List Value} {ds : List (DataW H)} {ps : List MemPlace},
    DataW.TrodAll enc P W 0 sp hd ts vs ds ps → ds.length = ts.length
  | [], [], [], ps, _ => rfl
  | [], [], _ :: _, ps, h => h.elim
  | [], _ :: _, _, ps, h => h.elim
  | t :: ts, [], _, ps, h => h.elim
  | t :: ts, v :: vs, [], ps, h => h.elim
  | t :: ts, v :: vs, d :: ds, ps, h => by
    obtain ⟨p, q, _, h2, _⟩ := h
    simp [trodAll_len h2]

/-- The row's step for a law whose arguments hold slices: whatever the arguments, it returns true. -/
theorem law_liftedB {C : Checked} {os : Os} (started : os.Started) {H : Type} (enc : TypeId × Value → H) {f : Nat} {fn : Func} {s : ChangeSpec} {ss : List (Bool × List Kc)} {tb : TypeId}
    (own : ownKnob C.prog.godebug = none) (hi : C.prog.inits.idxOf? f = none) (hf : C.prog.funcs[f]? = some fn) (hv : s.vars = [])
    (hfn : ∀ ds : List (DataW H), ds.length = fn.params.toList.length → s.fn H (ds ++ []) = { results := [.lit (.bool true)], args := ds })
    (hlo : laidOutB C.prog = true) (hp : (fn.params.toList.all fun t => C.prog.readableRec t && decide (t < C.prog.types.size)) = true) (hs : kcShapes C.prog fn.params.toList = some ss) (hr : fn.resultTypes = #[tb]) (htb : C.prog.underlying tb = some .bool)
    (wit : ∃ (w : World) (tape : Tape) (i : Input), w.os = os ∧ World.Shaped C.prog (w.forCall tape i) ∧ i.vars = [] ∧ Input.okWide C.prog (w.forCall tape i) Reach.any w.heap.size f i ∧
      ChangeSpec.pre6 enc C.prog fn s [] false (w.forCall tape i).memory i.args ∧ Assume.holds {} C.prog (lone (Frame.enter C.prog f i.args CallKind.normal) [] (w.forCall tape i)))
    (core : AllB ss [] fun ags bs => ∀ (vs : Array Value) (w : World) (φ : Phi), All2 (LV.rel φ) ags vs.toList → (∀ out, MR w (fun _ => False) φ (memOf bs) (hdsIn bs out) (fun b => bs.length ≤ b) w) → Calls C.prog f vs w fun e w' => e = .returned (.bool true) ∧ Grows w w') :
    ReturnsInHanded {} C os f .any (s.pre6 enc C.prog fn [] false) (s.post enc C.prog fn false true false false) := by
  refine returnsInHanded_of_change own started hi hf wit ?_
  intro W base args ds gs before hval hW hcnd _
  have hW' := hW
  obtain ⟨p, q, hA, hV, rfl, hfz, hnd⟩ := hW
  rw [hv] at hV
  obtain ⟨rfl, rfl⟩ := trodVars_none hV
  have hlt : ∀ x ∈ p, x.block < W.heap.size := fun x hx => by simpa using hW'.lt x (List.mem_append.2 (.inl hx))
  obtain ⟨ags, bs, φ, _, a0, a1, a2⟩ := argsB_open hs hA (fun j t v h1 h2 => hval j t v (by simpa using h1) (by simpa using h2)) core (RoB.nil W)
  have hdl : ds.length = fn.params.toList.length := trodAll_len hA
  refine (a2 args W φ a1 (fun out => a0.mr out)).mono fun e W' ⟨he, hg⟩ => ?_
  subst he
  have e1 := hfn ds hdl
  refine ⟨_, rfl, post_of_same (pa := p) (pv := []) hW' ?_ ?_ ?_ rfl (hg.below.frame _) hg.frz ?_⟩
  · intro b sp hd
    rw [e1, hr]
    exact trodAll_cons_mk (shut_bool htb _) trodAll_mk0
  · intro sp hsp
    rw [e1]
    exact trodAll_stays' hlo hg.below hp hA hlt (fun x hx => hsp x (List.mem_append.2 (.inl hx)))
  · intro sp _
    rw [hv, e1]
    exact rfl
  · exact ok_one hr rfl (okWide_bool_mk htb _)

theorem law_coreB {P : Program} {f : Nat} {c : Con} (hc : ConOK P f c) {args : List LV} {bs : List BC} {obs : List Prop} {m b : Bool} {out : List (Option BC)} (he : c args bs = some (obs, .a (.bool m b), out)) (ho : Alls obs) (hb : b = true) (vs : Array Value) (w : World) (φ : Phi)
    (h : All2 (LV.rel φ) args vs.toList) (hM : ∀ out, MR w (fun _ => False) φ (memOf bs) (hdsIn bs out) (fun b => bs.length ≤ b) w) : Calls P f vs w fun e w' => e = .returned (.bool true) ∧ Grows w w' := by
  refine (hc _ _ _ _ _ he ho φ vs w (fun _ => False) h (hM out)).mono fun e w' hh => ?_
  obtain ⟨v', φ', rfl, _, hv, hm⟩ := hh
  have hv' : v' = .bool b := hv
  exact ⟨by rw [hv', hb], ⟨hm.os, hm.tape, hm.output, hm.size, fun k hk => hm.block k hk id⟩, hm.frz⟩

end Go.Proofs.Ytcdejlgophpdjaa.V
end

