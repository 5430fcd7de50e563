/-
  From a contract of a law to the row's step, for laws whose arguments hold slices of numbers, bools, and structs and arrays of these.
-/
import Derived.Carry
import Derived.Deep.Slices
import Derived.Test.YtcdejlgophpdjaaQTileLoads7
section
namespace Go.Proofs.Ytcdejlgophpdjaa.V
open Go Go.RowKit Go.ChangeShapes Go.WideShapes Go.ChangeAt

/-- A cell's kind: a plain one's; a slice's, by the kinds of its elements' cells. -/
inductive Kc where
  | one (k : Kn)
  | slc (sh : List Kd)

def kdsKc : List Kc → Option (List Kd)
  | [] => some []
  | .one (.int k) :: r => match kdsKc r with
    | some l => some (.int k :: l)
    | none => none
  | .one .bool :: r => match kdsKc r with
    | some l => some (.bool :: l)
    | none => none
  | _ => none

def kcFs (P : Program) (rec : TypeId → Option (List Kc)) : Nat → List Field → Option (List Kc)
  | _, [] => some []
  | off, f :: fs => match rec f.type with
    | some ks => match Nat.beq f.offset off && Nat.beq ks.length (P.cellsOf f.type), kcFs P rec (off + ks.length) fs with
      | true, some r => some (ks ++ r)
      | _, _ => none
    | none => none

/-- A type's cells. -/
def kcT (P : Program) : Nat → TypeId → Option (List Kc)
  | 0, _ => none
  | d + 1, t => match P.underlying t with
    | some .bool => some [.one .bool]
    | some (.int k) => some [.one (.int k)]
    | some .string => some [.one .str]
    | some (.slice e) => match (kcT P d e).bind kdsKc with
      | some sh => match Nat.ble 1 sh.length && Nat.beq sh.length (P.cellsOf e) with
        | true => some [.slc sh]
        | false => none
      | none => none
    | some (.struct fs) => match kcFs P (kcT P d) 0 fs.toList with
      | some ks => match Nat.beq ks.length (P.cellsOf t) with
        | true => some ks
        | false => none
      | none => none
    | some (.array n e) => match kcT P d e with
      | some ks => match Nat.beq ks.length (P.cellsOf e) && Nat.beq (n * ks.length) (P.cellsOf t) with
        | true => some ((List.replicate n ks).flatten)
        | false => none
      | none => none
    | _ => none

def KdFit : Kd → Int → Prop
  | .int k, n => k.min ≤ n ∧ n ≤ k.max
  | .bool, n => n = 0 ∨ n = 1

def RowFit (sh : List Kd) (row : List Int) : Prop := row.length = sh.length ∧ ∀ (j : Nat) k n, sh[j]? = some k → row[j]? = some n → KdFit k n

/-- A slice's cells stand in the world. -/
def SlcIn (w : World) (sh : List Kd) (l : List (List Int)) (v : Value) : Prop :=
  ∃ a cap, v = .slice a l.length cap ∧ l.length ≤ cap ∧
    (l = [] ∨ ∃ r o arr ty fz, a = some ⟨r, o, none⟩ ∧ w.heap[r]? = some (.cells arr ty fz) ∧ RowsIn arr o ⟨0, sh, l, none⟩)

def CF (w : World) : Kc → Value → Prop
  | .one k, v => ∃ x : At, FitAt k x ∧ x.rel (fun _ => none) v
  | .slc sh, v => ∃ l : List (List Int), (∀ row ∈ l, RowFit sh row) ∧ l.length ≤ maxLen ∧ SlcIn w sh l v

theorem pick_list {α : Type} {p : Nat → α → Prop} : ∀ (n : Nat), (∀ i, i < n → ∃ x, p i x) → ∃ l : List α, l.length = n ∧ ∀ i x, l[i]? = some x → p i x
  | 0, _ => ⟨[], rfl, fun i x h => by simp at h⟩
  | n + 1, h => by
    obtain ⟨l, l1, l2⟩ := pick_list n fun i hi => h i (by omega)
    obtain ⟨x, hx⟩ := h n (by omega)
    refine ⟨l ++ [x], by simp [l1], fun i y hy => ?_⟩
    rw [List.getElem?_append] at hy
    split at hy
    · exact l2 i y hy
    · rename_i hi
      have e : i = n := by
        rcases Nat.lt_or_ge (i - l.length) 1 with h1 | h1
        · omega
        · rw [List.getElem?_eq_none (by simpa using h1)] at hy; cases hy
      subst e
      rw [l1, Nat.sub_self] at hy
      simp only [List.getElem?_cons_zero, Option.some.injEq] at hy
      subst hy; exact hx

theorem All2.get2 {α β : Type} {R : α → β → Prop} : ∀ {l : List α} {m : List β}, All2 R l m → ∀ {i : Nat} {x : α} {y : β}, l[i]? = some x → m[i]? = some y → R x y
  | _, _, .cons r _, 0, _, _, h, g => by simp at h g; subst h g; exact r
  | _, _, .cons _ a, i + 1, _, _, h, g => a.get2 (i := i) (by simpa using h) (by simpa using g)

/-- Cells of an element as a row. -/
theorem row_of {w : World} : ∀ {ks : List Kc} {sh : List Kd} {cs : List Value}, kdsKc ks = some sh → All2 (CF w) ks cs →
    ∃ row : List Int, RowFit sh row ∧ cs.length = sh.length ∧ ∀ (j : Nat) k n, sh[j]? = some k → row[j]? = some n → cs[j]? = some (k.val n)
  | [], sh, cs, h, hl => by
    simp only [kdsKc, Option.some.injEq] at h; subst h
    cases hl
    exact ⟨[], ⟨rfl, fun j k n h => by simp at h⟩, rfl, fun j k n h => by simp at h⟩
  | .one (.int kk) :: ks, sh, cs, h, hl => by
    unfold kdsKc at h
    split at h
    · rename_i l hk
      simp only [Option.some.injEq] at h; subst h
      cases hl with
      | cons a b =>
        obtain ⟨x, ⟨n, rfl, h1, h2⟩, hv⟩ := a
        obtain ⟨row, ⟨r1, r2⟩, r3, r4⟩ := row_of hk b
        have hv' : _ = Value.int kk n := hv
        refine ⟨n :: row, ⟨by simp [r1], fun j k m g1 g2 => ?_⟩, by simp [r3], fun j k m g1 g2 => ?_⟩
        · cases j with
          | zero => simp at g1 g2; subst g1 g2; exact ⟨h1, h2⟩
          | succ j => exact r2 j k m (by simpa using g1) (by simpa using g2)
        · cases j with
          | zero => simp at g1 g2; subst g1 g2; simp [hv', Kd.val]
          | succ j => simpa using r4 j k m (by simpa using g1) (by simpa using g2)
    · cases h
  | .one .bool :: ks, sh, cs, h, hl => by
    unfold kdsKc at h
    split at h
    · rename_i l hk
      simp only [Option.some.injEq] at h; subst h
      cases hl with
      | cons a b =>
        obtain ⟨x, ⟨n, rfl⟩, hv⟩ := a
        obtain ⟨row, ⟨r1, r2⟩, r3, r4⟩ := row_of hk b
        have hv' : _ = Value.bool n := hv
        refine ⟨(bif n then 1 else 0) :: row, ⟨by simp [r1], fun j k m g1 g2 => ?_⟩, by simp [r3], fun j k m g1 g2 => ?_⟩
        · cases j with
          | zero => simp at g1 g2; subst g1 g2; cases n <;> simp [KdFit]
          | succ j => exact r2 j k m (by simpa using g1) (by simpa using g2)
        · cases j with
          | zero => simp at g1 g2; subst g1 g2; cases n <;> simp [hv', Kd.val]
          | succ j => simpa using r4 j k m (by simpa using g1) (by simpa using g2)
    · cases h
  | .one .str :: ks, sh, cs, h, hl => by simp [kdsKc] at h
  | .slc _ :: ks, sh, cs, h, hl => by simp [kdsKc] at h

theorem kcFs_all {P : Program} {w : World} {rec : TypeId → Option (List Kc)} {cs : List Value} : ∀ {fs : List Field} {off : Nat} {ks : List Kc}, kcFs P rec off fs = some ks →
    (∀ f ∈ fs, ∀ ks, rec f.type = some ks → ks.length = P.cellsOf f.type → All2 (CF w) ks ((cs.drop f.offset).take (P.cellsOf f.type))) →
    cs.length = off + ks.length → All2 (CF w) ks (cs.drop off)
  | [], off, ks, h, _, hl => by
    simp only [kcFs, Option.some.injEq] at h; subst h
    rw [List.drop_eq_nil_of_le (by simp at hl; omega)]; exact .nil
  | f :: fs, off, ks, h, hh, hl => by
    unfold kcFs at h
    split at h
    · rename_i k0 hk0
      split at h
      · rename_i r hb hr
        simp only [Option.some.injEq] at h; subst h
        simp only [Bool.and_eq_true] at hb
        have e1 := Nat.eq_of_beq_eq_true hb.1
        have e2 := Nat.eq_of_beq_eq_true hb.2
        have a := hh f (by simp) k0 hk0 e2
        have b := kcFs_all hr (fun g hg => hh g (by simp [hg])) (by simp at hl; omega)
        rw [e1, ← e2] at a
        have e : cs.drop off = (cs.drop off).take k0.length ++ cs.drop (off + k0.length) := by
          rw [← List.drop_drop]; exact (List.take_append_drop _ _).symm
        rw [e]
        exact a.append b
      · cases h
    · cases h

theorem rep_all {w : World} {ks : List Kc} {cs : List Value} {n : Nat} (hl : cs.length = n * ks.length) (h : ∀ i, i < n → All2 (CF w) ks ((cs.drop (i * ks.length)).take ks.length)) : ∀ m, m ≤ n → All2 (CF w) ((List.replicate m ks).flatten) (cs.drop ((n - m) * ks.length))
  | 0, _ => by
    rw [Nat.sub_zero, List.drop_eq_nil_of_le (by omega)]; exact .nil
  | m + 1, hm => by
    rw [List.replicate_succ, List.flatten_cons]
    have a := h (n - (m + 1)) (by omega)
    have b := rep_all hl h m (by omega)
    have e : cs.drop ((n - (m + 1)) * ks.length) = (cs.drop ((n - (m + 1)) * ks.length)).take ks.length ++ cs.drop ((n - m) * ks.length) := by
      have e' : (n - m) * ks.length = (n - (m + 1)) * ks.length + ks.length := by
        rw [← Nat.succ_mul]; congr 1; omega
      rw [e', ← List.drop_drop]; exact (List.take_append_drop _ _).symm
    rw [e]
    exact a.append b

section
variable {H : Type} {enc : TypeId × Value → H} {P : Program} {w : World}

theorem trod_kc : ∀ (d : Nat) {t : TypeId} {ks : List Kc} {fuel : Nat} {cs : List Value} {x : DataW H × List MemPlace}, kcT P d t = some ks → DataW.trod enc P w 0 (fun _ => true) true fuel t cs = some x → All2 (CF w) ks cs
  | 0, t, ks, fuel, cs, x, h, _ => by simp [kcT] at h
  | d + 1, t, ks, fuel, cs, x, h, hx => by
    unfold kcT at h
    split at h
    · rename_i hu
      simp only [Option.some.injEq] at h; subst h
      obtain ⟨b, rfl, _⟩ := DataW.trod_bool hu hx
      exact .cons ⟨.bool true b, ⟨b, rfl⟩, rfl⟩ .nil
    · rename_i k hu
      simp only [Option.some.injEq] at h; subst h
      obtain ⟨n, rfl, _, hw⟩ := DataW.trod_int hu hx
      have hn : k.min ≤ n ∧ n ≤ k.max := by simpa [Lit.wf, IntKind.has] using hw
      exact .cons ⟨.int true k n, ⟨n, rfl, hn.1, hn.2⟩, rfl⟩ .nil
    · rename_i hu
      simp only [Option.some.injEq] at h; subst h
      obtain ⟨s, rfl, _, hw⟩ := DataW.trod_string hu hx
      have hm : (maxLen : Int) ≤ IntKind.i64.max := by decide
      exact .cons ⟨.str true s, ⟨s, rfl, by omega⟩, rfl⟩ .nil
    · rename_i e hu
      split at h
      · rename_i sh hsh
        obtain ⟨kse, hk1, hk2⟩ := Option.bind_eq_some_iff.1 hsh
        split at h
        · rename_i hb
          simp only [Option.some.injEq] at h; subst h
          simp only [Bool.and_eq_true] at hb
          have p1 : 1 ≤ sh.length := Nat.le_of_ble_eq_true hb.1
          have p2 : sh.length = P.cellsOf e := Nat.eq_of_beq_eq_true hb.2
          rcases Go.Deep.open_slice hu hx with ⟨rfl, _⟩ | ⟨a, len, cap, m, n, D, Pl, rfl, _, h1, h2, h3, _, h4⟩
          · exact .cons ⟨[], nofun, by simp, none, 0, rfl, by simp, .inl rfl⟩ .nil
          · simp only [if_true] at h3
            subst h3
            obtain ⟨l, l1, l2⟩ := pick_list (p := fun i (row : List Int) => RowFit sh row ∧ ∀ (j : Nat) k n, sh[j]? = some k → row[j]? = some n → w.cell? ((a.add (i * sh.length)).add j) = some (k.val n)) len fun i hi => by
              obtain ⟨cs', c1, c2⟩ := h4 i (by omega)
              obtain ⟨_, q2, q3⟩ := World.cells?_some c1
              obtain ⟨row, r1, r2, r3⟩ := row_of hk2 (trod_kc d hk1 c2)
              refine ⟨row, r1, fun j k n g1 g2 => ?_⟩
              have hj : j < sh.length := (List.getElem?_eq_some_iff.1 g1).1
              rw [p2, q3 j (by omega)]
              exact r3 j k n g1 g2
            refine .cons ⟨l, fun row hrow => ?_, by omega, some a, _, by rw [l1], by omega, ?_⟩ .nil
            · obtain ⟨i, hi⟩ := List.getElem?_of_mem hrow
              exact (l2 i row hi).1
            · rcases Nat.eq_zero_or_pos len with h0 | h0
              · left; exact List.eq_nil_of_length_eq_zero (by omega)
              · right
                have get : ∀ i, i < len → ∃ row, l[i]? = some row := fun i hi => ⟨_, List.getElem?_eq_getElem (by omega)⟩
                have cell : ∀ i j, i < len → j < sh.length → ∃ row n k, l[i]? = some row ∧ row[j]? = some n ∧ sh[j]? = some k ∧ w.cell? ((a.add (i * sh.length)).add j) = some (k.val n) := fun i j hi hj => by
                  obtain ⟨row, hr⟩ := get i hi
                  obtain ⟨⟨q1, _⟩, q2⟩ := l2 i row hr
                  have hn : row[j]? = some row[j] := List.getElem?_eq_getElem (by omega)
                  have hk : sh[j]? = some sh[j] := List.getElem?_eq_getElem (by omega)
                  exact ⟨row, _, _, hr, hn, hk, q2 j _ _ hk hn⟩
                obtain ⟨r, o, spot⟩ := a
                obtain ⟨row0, n0, k0, _, _, _, hc0⟩ := cell 0 0 h0 p1
                have hspot : spot = none := by
                  have := World.cell?_spot hc0
                  simpa [Addr.add] using this
                subst hspot
                simp only [add_eq] at cell l2 hc0
                unfold World.cell? at hc0
                split at hc0
                · rename_i arr ty fz hheap
                  have ha : ∀ k, w.cell? ⟨r, k, none⟩ = arr[k]? := fun k => by
                    unfold World.cell?
                    simp only at hheap
                    simp only [hheap]
                    rfl
                  refine ⟨r, o, arr, ty, fz, rfl, hheap, fun p row hr => ⟨(l2 p row hr).1.1, fun j n k g1 g2 => ?_⟩, ?_⟩
                  · have := (l2 p row hr).2 j k n g2 g1
                    rw [ha] at this
                    rw [show o + (0 + p * sh.length + j) = o + p * sh.length + j by omega]
                    exact this
                  · obtain ⟨row, n, k, _, _, _, hc⟩ := cell (len - 1) (sh.length - 1) (by omega) (by omega)
                    rw [ha] at hc
                    have hlt := (Array.getElem?_eq_some_iff.1 hc).1
                    have e : len * sh.length = (len - 1) * sh.length + sh.length := by
                      rw [← Nat.succ_mul]; congr 1; omega
                    show 0 + l.length * sh.length + o ≤ arr.size
                    rw [l1, e]
                    omega
                · cases hc0
        · cases h
      · cases h
    · rename_i fs hu
      split at h
      · rename_i ks' hk
        split at h
        · rename_i hb
          simp only [Option.some.injEq] at h; subst h
          have hb' := Nat.eq_of_beq_eq_true hb
          obtain ⟨xs, n, rfl, _, hl, hxs, hf⟩ := DataW.trod_struct hu hx
          have := kcFs_all (w := w) (cs := cs) hk (fun f hf' ks0 h1 h2 => by
            obtain ⟨i, hi⟩ := List.getElem?_of_mem hf'
            have hi' : fs[i]? = some f := by simpa using hi
            have e := hf i f hi'
            have hlt : i < xs.length := by rw [hxs]; exact (Array.getElem?_eq_some_iff.1 hi').1
            rw [List.getElem?_eq_getElem hlt] at e
            exact trod_kc d h1 e) (by rw [hl, ← hb']; simp)
          simpa using this
        · cases h
      · cases h
    · rename_i n e hu
      split at h
      · rename_i ks' hk
        split at h
        · rename_i hb
          simp only [Option.some.injEq] at h; subst h
          simp only [Bool.and_eq_true] at hb
          have b1 := Nat.eq_of_beq_eq_true hb.1
          have b2 := Nat.eq_of_beq_eq_true hb.2
          obtain ⟨xs, m, rfl, _, hl, hxs, hf⟩ := DataW.trod_array hu hx
          have := rep_all (w := w) (ks := ks') (cs := cs) (n := n) (by rw [hl, ← b2]) (fun i hi => by
            have e := hf i hi
            rw [List.getElem?_eq_getElem (by omega)] at e
            rw [b1]
            exact trod_kc d hk e) n (Nat.le_refl _)
          simpa using this
        · cases h
      · cases h
    · cases h

end

/-- A slice that came in, as a block that is not written. -/
def roBC (sh : List Kd) (l : List (List Int)) : BC := ⟨⟨0, 0, true, some ⟨0, sh, l, none⟩⟩, []⟩

/-- For all cells of these kinds, and the blocks behind them. -/
def AllC : List Kc → List BC → (List At → List BC → Prop) → Prop
  | [], bs, Q => Q [] bs
  | .one (.int k) :: ks, bs, Q => ∀ n : Int, k.min ≤ n → n ≤ k.max → AllC ks bs fun l bs' => Q (.int true k n :: l) bs'
  | .one .bool :: ks, bs, Q => ∀ b : Bool, AllC ks bs fun l bs' => Q (.bool true b :: l) bs'
  | .one .str :: ks, bs, Q => ∀ s : ByteArray, (s.size : Int) ≤ IntKind.i64.max → AllC ks bs fun l bs' => Q (.str true s :: l) bs'
  | .slc sh :: ks, bs, Q => ∀ l : List (List Int), (∀ row ∈ l, RowFit sh row) → l.length ≤ maxLen → AllC ks (bs ++ [roBC sh l]) fun ags bs' => Q (.slc true bs.length 0 0 sh.length 0 l.length :: ags) bs'

/-- For all arguments of these shapes. -/
def AllB : List (Bool × List Kc) → List BC → (List LV → List BC → Prop) → Prop
  | [], bs, Q => Q [] bs
  | (true, ks) :: r, bs, Q => AllC ks bs fun l bs' => AllB r bs' fun ags bs'' => Q (.g l :: ags) bs''
  | (false, ks) :: r, bs, Q => AllC ks bs fun l bs' => match l with
    | [x] => AllB r bs' fun ags bs'' => Q (.a x :: ags) bs''
    | _ => True

/-- The blocks stand in the world, none of them written. -/
structure RoB (w : World) (φ : Phi) (bs : List BC) : Prop where
  at_ : ∀ (b : Nat) c, bs[b]? = some c → ∃ i sh l, φ b = some i ∧ c = roBC sh l ∧ i.v = 0 ∧ i.ro = true ∧ i.n = l.length ∧
    ((i.a = none ∧ l = []) ∨ ∃ r o arr ty fz, i.a = some (r, o) ∧ w.heap[r]? = some (.cells arr ty fz) ∧ RowsIn arr o ⟨0, sh, l, none⟩ ∧ l.length * sh.length ≤ i.z)
  dom : ∀ b, bs.length ≤ b → φ b = none

theorem RoB.nil (w : World) : RoB w (fun _ => none) [] := ⟨fun b c h => by simp at h, fun _ _ => rfl⟩

theorem memOf_ro {bs : List BC} (h : ∀ (b : Nat) c, bs[b]? = some c → c.cs = []) (k : Nat) : memOf bs k = none := by
  unfold memOf
  split
  · rename_i c hc
    unfold cellOf
    rw [h _ c hc]; rfl
  · rfl

theorem hdsIn_none {bs : List BC} {out : List (Option BC)} (ho : ∀ (b : Nat) c, bs[b]? = some c → c.h.ro = true) : hdsIn bs out = fun b => (bs[b]?).map (·.h) := by
  funext b
  unfold hdsIn
  split
  · rename_i c hc
    have e : roH c.h = c.h := by
      have := ho b c hc
      unfold roH
      rw [← this]
    split
    · rw [e, hc]; rfl
    · rw [hc]; rfl
  · rename_i hc
    rw [hc]; rfl

theorem RoB.mr {w : World} {φ : Phi} {bs : List BC} (h : RoB w φ bs) (out : List (Option BC)) : MR w (fun _ => False) φ (memOf bs) (hdsIn bs out) (fun b => bs.length ≤ b) w := by
  have lt : ∀ b i, φ b = some i → b < bs.length := fun b i hi => by
    rcases Nat.lt_or_ge b bs.length with h1 | h1
    · exact h1
    · rw [h.dom b h1] at hi; cases hi
  have get : ∀ b i, φ b = some i → i.ro = true ∧ ∀ r o, i.a = some (r, o) → r < w.heap.size := fun b i hi => by
    obtain ⟨j, sh, l, h1, _, _, h2, _, h3⟩ := h.at_ b _ (List.getElem?_eq_getElem (lt b i hi))
    rw [hi] at h1
    simp only [Option.some.injEq] at h1; subst h1
    refine ⟨h2, fun r o ha => ?_⟩
    rcases h3 with ⟨h3, _⟩ | ⟨r', o', arr, ty, fz, h3, h4, _⟩
    · rw [h3] at ha; cases ha
    · rw [h3] at ha
      simp only [Option.some.injEq, Prod.mk.injEq] at ha
      obtain ⟨rfl, _⟩ := ha
      exact (Array.getElem?_eq_some_iff.1 h4).1
  have hm : ∀ k, memOf bs k = none := memOf_ro fun b c hc => by
    obtain ⟨_, _, _, _, rfl, _⟩ := h.at_ b c hc; rfl
  have hh : hdsIn bs out = fun b => (bs[b]?).map (·.h) := hdsIn_none fun b c hc => by
    obtain ⟨_, _, _, _, rfl, _⟩ := h.at_ b c hc; rfl
  refine ⟨fun k x hk => ?_, fun b g hg => ?_, fun k x g hk => ?_, fun b b' i i' r o o' h1 h2 _ _ => ?_, fun b i r o h1 _ h3 => ?_, fun b i r o h1 h2 _ => ?_, fun b hb => h.dom b hb, fun b i r o h1 h2 => ?_, rfl, rfl, rfl, Nat.le_refl _, fun _ _ _ => rfl, fun _ => rfl⟩
  · rw [hm] at hk; cases hk
  · rw [hh] at hg
    obtain ⟨c, hc, rfl⟩ := Option.map_eq_some_iff.1 hg
    obtain ⟨i, sh, l, g1, rfl, g2, g3, g4, g5⟩ := h.at_ b c hc
    refine ⟨i, g1, g2, g3, nofun, fun R hR => ?_⟩
    have hR' : some (⟨0, sh, l, none⟩ : Rw) = some R := hR
    simp only [Option.some.injEq] at hR'; subst hR'
    refine ⟨g4.symm, fun N hN => (nomatch hN), ?_⟩
    rcases g5 with ⟨g5, g6⟩ | ⟨r, o, arr, ty, fz, g5, g6, g7, g8⟩
    · exact .inl ⟨g5, g6, rfl⟩
    · exact .inr ⟨r, o, arr, ty, fz, g5, g6, g7, by simpa using g8⟩
  · rw [hm] at hk; cases hk
  · exact .inr ⟨(get b i h1).1, (get b' i' h2).1⟩
  · rw [(get b i h1).1] at h3; cases h3
  · exact ⟨(get b i h1).2 r o h2, id⟩
  · exact (get b i h1).2 r o h2

/-- One slice more. -/
theorem RoB.add {w : World} {φ : Phi} {bs : List BC} (h : RoB w φ bs) {sh : List Kd} {l : List (List Int)} {v : Value} (hv : SlcIn w sh l v) :
    ∃ ψ, φ.le ψ ∧ RoB w ψ (bs ++ [roBC sh l]) ∧ At.rel ψ (.slc true bs.length 0 0 sh.length 0 l.length) v := by
  obtain ⟨a, cap, rfl, hc, hl⟩ := hv
  have hd := h.dom bs.length (Nat.le_refl _)
  have mk : ∀ j : Inf, j.v = 0 → j.ro = true → j.n = l.length → ((j.a = none ∧ l = []) ∨ ∃ r o arr ty fz, j.a = some (r, o) ∧ w.heap[r]? = some (.cells arr ty fz) ∧ RowsIn arr o ⟨0, sh, l, none⟩ ∧ l.length * sh.length ≤ j.z) →
      φ.le (setP φ bs.length j) ∧ RoB w (setP φ bs.length j) (bs ++ [roBC sh l]) := fun j j1 j2 j3 j4 => by
    refine ⟨phi_upd_le (.inl hd), ⟨fun b c hb => ?_, fun b hb => ?_⟩⟩
    · rw [List.getElem?_append] at hb
      split at hb
      · rename_i hlt
        obtain ⟨i, sh', l', g1, g2⟩ := h.at_ b c hb
        exact ⟨i, sh', l', by unfold setP; rw [if_neg (by omega)]; exact g1, g2⟩
      · rename_i hge
        have e : b = bs.length := by
          rcases Nat.lt_or_ge (b - bs.length) 1 with h1 | h1
          · omega
          · rw [List.getElem?_eq_none (by simpa using h1)] at hb; cases hb
        subst e
        rw [Nat.sub_self] at hb
        simp only [List.getElem?_cons_zero, Option.some.injEq] at hb
        exact ⟨j, sh, l, setP_same .., hb.symm, j1, j2, j3, j4⟩
    · unfold setP
      rw [List.length_append] at hb
      simp only [List.length_cons, List.length_nil] at hb
      rw [if_neg (by omega)]
      exact h.dom b (by omega)
  rcases hl with rfl | ⟨r, o, arr, ty, fz, rfl, h1, h2⟩
  · obtain ⟨m1, m2⟩ := mk ⟨0, none, 0, 0, 0, true⟩ rfl rfl rfl (.inl ⟨rfl, rfl⟩)
    refine ⟨_, m1, m2, ⟨rfl, rfl⟩, _, setP_same .., Nat.le_refl _, fun _ => ⟨Nat.le_refl _, a, cap, rfl, hc, .inl rfl⟩⟩
  · obtain ⟨m1, m2⟩ := mk ⟨ty, some (r, o), l.length * sh.length, l.length, 0, true⟩ rfl rfl rfl (.inr ⟨r, o, arr, ty, fz, rfl, h1, h2, Nat.le_refl _⟩)
    refine ⟨_, m1, m2, ⟨rfl, rfl⟩, _, setP_same .., Nat.le_refl _, fun _ => ⟨by simp, some ⟨r, o, none⟩, cap, rfl, hc, .inr ⟨r, o, rfl, by simp⟩⟩⟩

theorem AllC.use {w : World} : ∀ {ks : List Kc} {bs : List BC} {Q : List At → List BC → Prop} {cs : List Value} {φ : Phi}, AllC ks bs Q → All2 (CF w) ks cs → RoB w φ bs →
    ∃ ags bs' ψ, φ.le ψ ∧ RoB w ψ bs' ∧ All2 (At.rel ψ) ags cs ∧ Q ags bs'
  | [], bs, Q, cs, φ, h, hc, hb => by cases hc; exact ⟨[], bs, φ, φ.le_refl, hb, .nil, h⟩
  | .one (.int k) :: ks, bs, Q, cs, φ, h, hc, hb => by
    cases hc with
    | cons a b =>
      obtain ⟨x, ⟨n, rfl, h1, h2⟩, hv⟩ := a
      obtain ⟨ags, bs', ψ, p1, p2, p3, p4⟩ := (h n h1 h2).use b hb
      exact ⟨_ :: ags, bs', ψ, p1, p2, .cons (At.rel_mono (φ := fun _ => none) (fun _ _ h => nomatch h) hv) p3, p4⟩
  | .one .bool :: ks, bs, Q, cs, φ, h, hc, hb => by
    cases hc with
    | cons a b =>
      obtain ⟨x, ⟨n, rfl⟩, hv⟩ := a
      obtain ⟨ags, bs', ψ, p1, p2, p3, p4⟩ := (h n).use b hb
      exact ⟨_ :: ags, bs', ψ, p1, p2, .cons (At.rel_mono (φ := fun _ => none) (fun _ _ h => nomatch h) hv) p3, p4⟩
  | .one .str :: ks, bs, Q, cs, φ, h, hc, hb => by
    cases hc with
    | cons a b =>
      obtain ⟨x, ⟨n, rfl, h1⟩, hv⟩ := a
      obtain ⟨ags, bs', ψ, p1, p2, p3, p4⟩ := (h n h1).use b hb
      exact ⟨_ :: ags, bs', ψ, p1, p2, .cons (At.rel_mono (φ := fun _ => none) (fun _ _ h => nomatch h) hv) p3, p4⟩
  | .slc sh :: ks, bs, Q, cs, φ, h, hc, hb => by
    cases hc with
    | cons a b =>
      obtain ⟨l, h1, h2, h3⟩ := a
      obtain ⟨χ, q1, q2, q3⟩ := hb.add h3
      obtain ⟨ags, bs', ψ, p1, p2, p3, p4⟩ := (h l h1 h2).use b q2
      exact ⟨_ :: ags, bs', ψ, Phi.le_trans q1 p1, p2, .cons (At.rel_mono p1 q3) p3, p4⟩

/-- The shape of a parameter. -/
def kcShape (P : Program) (t : TypeId) : Option (Bool × List Kc) :=
  match P.underlying t with
  | some (.struct _) | some (.array _ _) => match kcT P 20 t with
    | some ks => some (true, ks)
    | none => none
  | some _ => match kcT P 20 t with
    | some [k] => some (false, [k])
    | _ => none
  | none => none

def kcShapes (P : Program) : List TypeId → Option (List (Bool × List Kc))
  | [] => some []
  | t :: ts => match kcShape P t, kcShapes P ts with
    | some s, some ss => some (s :: ss)
    | _, _ => none

theorem argsB_open {H : Type} {enc : TypeId × Value → H} {P : Program} {w : World} {r : Reach} {base : Nat} : ∀ {ts : List TypeId} {vs : List Value} {ds : List (DataW H)} {ps : List MemPlace} {ss : List (Bool × List Kc)} {bs : List BC} {Q : List LV → List BC → Prop} {φ : Phi}, kcShapes P ts = some ss →
    DataW.TrodAll enc P w 0 (fun _ => true) true ts vs ds ps → (∀ (j : Nat) t v, ts[j]? = some t → vs[j]? = some v → Value.okWide P w r base t v) → AllB ss bs Q → RoB w φ bs →
    ∃ ags bs' ψ, φ.le ψ ∧ RoB w ψ bs' ∧ All2 (LV.rel ψ) ags vs ∧ Q ags bs'
  | [], [], [], ps, ss, bs, Q, φ, hs, _, _, h, hb => by
    simp only [kcShapes, Option.some.injEq] at hs; subst hs
    exact ⟨[], bs, φ, φ.le_refl, hb, .nil, h⟩
  | [], [], _ :: _, ps, ss, bs, Q, φ, hs, ht, _, _, _ => ht.elim
  | [], _ :: _, _, ps, ss, bs, Q, φ, hs, ht, _, _, _ => ht.elim
  | t :: ts, [], _, ps, ss, bs, Q, φ, hs, ht, _, _, _ => ht.elim
  | t :: ts, v :: vs, [], ps, ss, bs, Q, φ, hs, ht, _, _, _ => ht.elim
  | t :: ts, v :: vs, d :: ds, ps, ss, bs, Q, φ, hs, ht, hw, h, hb => by
    obtain ⟨p, q, ⟨fuel, h1⟩, h2, rfl⟩ := ht
    unfold kcShapes at hs
    split at hs
    · rename_i s ss' k1 k2
      simp only [Option.some.injEq] at hs; subst hs
      obtain ⟨qq, ks⟩ := s
      have hw0 := hw 0 t v (by simp) (by simp)
      have rest := fun {Q'} {bs'} {ψ} => argsB_open (enc := enc) (Q := Q') (bs := bs') (φ := ψ) k2 h2 (fun j u x hj hx => hw (j + 1) u x (by simpa using hj) (by simpa using hx))
      have agg : (∃ cs, v = .agg cs) → kcT P 20 t = some ks → qq = true → ∃ ags bs' ψ, φ.le ψ ∧ RoB w ψ bs' ∧ All2 (LV.rel ψ) ags (v :: vs) ∧ Q ags bs' := fun ⟨cs, hv⟩ hk hq => by
        subst hq hv
        have hcf := trod_kc 20 hk h1
        obtain ⟨l, bs', ψ, p1, p2, p3, p4⟩ := AllC.use h hcf hb
        obtain ⟨ags, bs'', χ, r1, r2, r3, r4⟩ := rest p4 p2
        exact ⟨.g l :: ags, bs'', χ, Phi.le_trans p1 r1, r2, .cons ⟨cs, rfl, p3.mono fun _ _ => At.rel_mono r1⟩ r3, r4⟩
      unfold kcShape at k1
      unfold Value.okWide at hw0
      split at k1
      · rename_i hu
        simp only [hu] at hw0
        obtain ⟨cs, e, _, _⟩ := hw0
        split at k1
        · rename_i ks' hk
          simp only [Option.some.injEq, Prod.mk.injEq] at k1
          obtain ⟨rfl, rfl⟩ := k1
          exact agg ⟨cs, e⟩ hk rfl
        · cases k1
      · rename_i hu
        simp only [hu] at hw0
        obtain ⟨cs, e, _, _⟩ := hw0
        split at k1
        · rename_i ks' hk
          simp only [Option.some.injEq, Prod.mk.injEq] at k1
          obtain ⟨rfl, rfl⟩ := k1
          exact agg ⟨cs, e⟩ hk rfl
        · cases k1
      · rename_i dd hne1 hne2 hu
        simp only [hu] at hw0
        have hwc : Cell.okWide P w r base t v := by
          cases dd <;> first | exact hw0 | exact absurd rfl (hne1 _) | exact absurd rfl (hne2 _ _)
        split at k1
        · rename_i k hk
          simp only [Option.some.injEq, Prod.mk.injEq] at k1
          obtain ⟨rfl, rfl⟩ := k1
          have hone : v.cells = #[v] := by
            cases v with
            | agg cs =>
              exfalso
              unfold Cell.okWide at hwc
              unfold kcT at hk
              cases dd <;> simp only [hu, reduceCtorEq] at hk hwc <;> first | exact absurd rfl (hne1 _) | exact absurd rfl (hne2 _ _) | (unfold Cell.ok at hwc; simp [hu] at hwc)
            | _ => rfl
          have hcf := trod_kc 20 hk h1
          obtain ⟨l, bs', ψ, p1, p2, p3, p4⟩ := AllC.use h hcf hb
          have hlen := p3.length
          have hlen2 := hcf.length
          match l, hlen with
          | [x], hlen =>
            obtain ⟨ags, bs'', χ, r1, r2, r3, r4⟩ := rest p4 p2
            refine ⟨.a x :: ags, bs'', χ, Phi.le_trans p1 r1, r2, .cons ?_ r3, r4⟩
            rw [hone] at p3
            cases p3 with
            | cons p _ => exact At.rel_mono r1 p
          | [], hlen => simp at hlen hlen2; omega
          | _ :: _ :: _, hlen => simp at hlen hlen2; omega
        · cases k1
      · cases k1
    · cases hs

theorem trodAll_stays' {H : Type} {enc : TypeId × Value → H} {P : Program} (hl : laidOutB P = true) {W W' : World} (hb : Below W.heap.size W W') {sp : Nat → Bool} : ∀ {ts : List TypeId} {vs : List Value} {ds : List (DataW H)} {ps : List MemPlace},
    (ts.all fun t => P.readableRec t && decide (t < P.types.size)) = true → DataW.TrodAll enc P W 0 (fun _ => true) true ts vs ds ps → (∀ p ∈ ps, p.block < W.heap.size) → (∀ p ∈ ps, sp p.block = true) →
    DataW.TrodAll enc P W' 0 sp true ts vs ds ps
  | [], [], [], ps, _, h, _, _ => h
  | [], [], _ :: _, ps, _, h, _, _ => h.elim
  | [], _ :: _, _, ps, _, h, _, _ => h.elim
  | t :: ts, [], _, ps, _, h, _, _ => h.elim
  | t :: ts, v :: vs, [], ps, _, h, _, _ => h.elim
  | t :: ts, v :: vs, d :: ds, ps, hr, h, hlt, hs => by
    obtain ⟨p, q, h1, h2, rfl⟩ := h
    simp only [List.all_cons, Bool.and_eq_true] at hr
    exact ⟨p, q, WideElems.Trod_stays hl hr.1.1 (of_decide_eq_true hr.1.2) h1 (fun x hx => hb.same (hlt x (List.mem_append.2 (.inl hx)))) (fun x hx => hs x (List.mem_append.2 (.inl hx))),
      trodAll_stays' hl hb hr.2 h2 (fun x hx => hlt x (List.mem_append.2 (.inr hx))) (fun x hx => hs x (List.mem_append.2 (.inr hx))), rfl⟩

theorem trodAll_len {H : Type} {enc : TypeId × Value → H} {P : Program} {W : World} {sp : Nat → Bool} {hd : Bool} : ∀ {ts : List TypeId} {vs : List Value} {ds : List (DataW H)} {ps : List MemPlace},
    DataW.TrodAll enc P W 0 sp hd ts vs ds ps → ds.length = ts.length
  | [], [], [], ps, _ => rfl
  | [], [], _ :: _, ps, h => h.elim
  | [], _ :: _, _, ps, h => h.elim
  | t :: ts, [], _, ps, h => h.elim
  | t :: ts, v :: vs, [], ps, h => h.elim
  | t :: ts, v :: vs, d :: ds, ps, h => by
    obtain ⟨p, q, _, h2, _⟩ := h
    simp [trodAll_len h2]

/-- The row's step for a law whose arguments hold slices: whatever the arguments, it returns true. -/
theorem law_liftedB {C : Checked} {os : Os} (started : os.Started) {H : Type} (enc : TypeId × Value → H) {f : Nat} {fn : Func} {s : ChangeSpec} {ss : List (Bool × List Kc)} {tb : TypeId}
    (own : ownKnob C.prog.godebug = none) (hi : C.prog.inits.idxOf? f = none) (hf : C.prog.funcs[f]? = some fn) (hv : s.vars = [])
    (hfn : ∀ ds : List (DataW H), ds.length = fn.params.toList.length → s.fn H (ds ++ []) = { results := [.lit (.bool true)], args := ds })
    (hlo : laidOutB C.prog = true) (hp : (fn.params.toList.all fun t => C.prog.readableRec t && decide (t < C.prog.types.size)) = true) (hs : kcShapes C.prog fn.params.toList = some ss) (hr : fn.resultTypes = #[tb]) (htb : C.prog.underlying tb = some .bool)
    (wit : ∃ (w : World) (tape : Tape) (i : Input), w.os = os ∧ World.Shaped C.prog (w.forCall tape i) ∧ i.vars = [] ∧ Input.okWide C.prog (w.forCall tape i) Reach.any w.heap.size f i ∧
      ChangeSpec.pre6 enc C.prog fn s [] false (w.forCall tape i).memory i.args ∧ Assume.holds {} C.prog (lone (Frame.enter C.prog f i.args CallKind.normal) [] (w.forCall tape i)))
    (core : AllB ss [] fun ags bs => ∀ (vs : Array Value) (w : World) (φ : Phi), All2 (LV.rel φ) ags vs.toList → (∀ out, MR w (fun _ => False) φ (memOf bs) (hdsIn bs out) (fun b => bs.length ≤ b) w) → Calls C.prog f vs w fun e w' => e = .returned (.bool true) ∧ Grows w w') :
    ReturnsInHanded {} C os f .any (s.pre6 enc C.prog fn [] false) (s.post enc C.prog fn false true false false) := by
  refine returnsInHanded_of_change own started hi hf wit ?_
  intro W base args ds gs before hval hW hcnd _
  have hW' := hW
  obtain ⟨p, q, hA, hV, rfl, hfz, hnd⟩ := hW
  rw [hv] at hV
  obtain ⟨rfl, rfl⟩ := trodVars_none hV
  have hlt : ∀ x ∈ p, x.block < W.heap.size := fun x hx => by simpa using hW'.lt x (List.mem_append.2 (.inl hx))
  obtain ⟨ags, bs, φ, _, a0, a1, a2⟩ := argsB_open hs hA (fun j t v h1 h2 => hval j t v (by simpa using h1) (by simpa using h2)) core (RoB.nil W)
  have hdl : ds.length = fn.params.toList.length := trodAll_len hA
  refine (a2 args W φ a1 (fun out => a0.mr out)).mono fun e W' ⟨he, hg⟩ => ?_
  subst he
  have e1 := hfn ds hdl
  refine ⟨_, rfl, post_of_same (pa := p) (pv := []) hW' ?_ ?_ ?_ rfl (hg.below.frame _) hg.frz ?_⟩
  · intro b sp hd
    rw [e1, hr]
    exact trodAll_cons_mk (shut_bool htb _) trodAll_mk0
  · intro sp hsp
    rw [e1]
    exact trodAll_stays' hlo hg.below hp hA hlt (fun x hx => hsp x (List.mem_append.2 (.inl hx)))
  · intro sp _
    rw [hv, e1]
    exact rfl
  · exact ok_one hr rfl (okWide_bool_mk htb _)

theorem law_coreB {P : Program} {f : Nat} {c : Con} (hc : ConOK P f c) {args : List LV} {bs : List BC} {obs : List Prop} {m b : Bool} {out : List (Option BC)} (he : c args bs = some (obs, .a (.bool m b), out)) (ho : Alls obs) (hb : b = true) (vs : Array Value) (w : World) (φ : Phi)
    (h : All2 (LV.rel φ) args vs.toList) (hM : ∀ out, MR w (fun _ => False) φ (memOf bs) (hdsIn bs out) (fun b => bs.length ≤ b) w) : Calls P f vs w fun e w' => e = .returned (.bool true) ∧ Grows w w' := by
  refine (hc _ _ _ _ _ he ho φ vs w (fun _ => False) h (hM out)).mono fun e w' hh => ?_
  obtain ⟨v', φ', rfl, _, hv, hm⟩ := hh
  have hv' : v' = .bool b := hv
  exact ⟨by rw [hv', hb], ⟨hm.os, hm.tape, hm.output, hm.size, fun k hk => hm.block k hk id⟩, hm.frz⟩

end Go.Proofs.Ytcdejlgophpdjaa.V
end

section
namespace Go.Proofs.Ytcdejlgophpdjaa
open Go Go.RowKit Go.Proofs.Ytcdejlgophpdjaa.V
set_option linter.unusedVariables false
set_option linter.unusedSectionVars false

theorem bool_iff {a b : Bool} {p : Prop} (h : a = true ↔ p) (k : b = true ↔ p) : a = b := by
  cases a <;> cases b <;> simp_all

section
variable {w h : Nat} (w1 : w ≤ 64) (h1 : h ≤ 64) {l m : List (List Int)}
include w1 h1
theorem Eq6_iff (hl : l.length = w * h) (hm : m.length = w * h) (x y : Int) : Eq6 w h l m x y = true ↔ ∀ j, j < 6 → px w h l x y j = px w h m x y j := by
  unfold Eq6
  rw [px_0 w1 h1 hl, px_1 w1 h1 hl, px_2 w1 h1 hl, px_3 w1 h1 hl, px_4 w1 h1 hl, px_5 w1 h1 hl, px_0 w1 h1 hm, px_1 w1 h1 hm, px_2 w1 h1 hm, px_3 w1 h1 hm, px_4 w1 h1 hm, px_5 w1 h1 hm]
  simp only [Bool.and_eq_true, beq_iff_eq]
  constructor
  · intro ⟨⟨a, b, c, d⟩, e, f⟩ j hj
    match j, hj with
    | 0, _ => exact a
    | 1, _ => exact b
    | 2, _ => exact c
    | 3, _ => exact d
    | 4, _ => exact e
    | 5, _ => exact f
  · intro h
    exact ⟨⟨h 0 (by omega), h 1 (by omega), h 2 (by omega), h 3 (by omega)⟩, h 4 (by omega), h 5 (by omega)⟩
end

theorem r_len {w h : Nat} (w1 : w ≤ 64) (h1 : h ≤ 64) {l : List (List Int)} (g : Gd w h l) : l.length ≤ 4096 := by
  rw [g.1]; exact Nat.mul_le_mul w1 h1


theorem foldl_push_size {α : Type} (f : α → UInt8) : ∀ (l : List α) (r : ByteArray), (l.foldl (fun r n => r.push (f n)) r).size = r.size + l.length
  | [], r => rfl
  | a :: l, r => by
    rw [List.foldl_cons, foldl_push_size f l, List.length_cons, ByteArray.size_push]; omega
theorem bytesOf_size (l : List (List Int)) : (bytesOf l).size = l.length := by
  unfold bytesOf
  rw [foldl_push_size (fun n : Int => UInt8.ofNat n.toNat), List.length_map]
  show 0 + l.length = _
  omega

def sO (l : List (List Int)) : Nat → List (List Int)
  | 0 => []
  | i + 1 => sO l i ++ [[rget l i 0], [rget l i 1], [rget l i 2], [rget l i 3]] ++ [[IntKind.wrap IntKind.u8 (Int.fdiv (rget l i 4) (2 ^ min (Int.toNat 8) (IntKind.bits IntKind.i64)))], [IntKind.wrap IntKind.u8 (rget l i 4)], [rget l i 5]]
theorem sO_len (l : List (List Int)) : ∀ i, (sO l i).length = 7 * i
  | 0 => rfl
  | i + 1 => by
    rw [sO, List.length_append, List.length_append, sO_len l i]
    show 7 * i + 4 + 3 = _
    omega
theorem sO_congr {l m : List (List Int)} : ∀ {n : Nat}, (∀ i, i < n → eq6 l m i = true) → sO l n = sO m n
  | 0, _ => rfl
  | n + 1, h => by
    have k := eq6_iff.1 (h n (by omega))
    rw [sO, sO, sO_congr (fun i hi => h i (by omega)), k 0 (by omega), k 1 (by omega), k 2 (by omega), k 3 (by omega), k 4 (by omega), k 5 (by omega)]

def sS (l : List (List Int)) (i : Nat) : fSum_l29_T := .mk 0 (Int.ofNat l.length) (i : Int) l (sO l i)
section
variable {l : List (List Int)} (hL : l.length ≤ 4096)
theorem s_s0 (i : Nat) : fSum_l29_s0 (sS l i) = decide (i < l.length) := by
  unfold fSum_l29_s0
  exact decide_eq_decide.2 Int.ofNat_lt
theorem s_s2 (i : Nat) : fSum_l29_s2 (sS l i) = sO l (i + 1) := rfl
include hL
theorem s_step (i : Nat) (hi : i < l.length) : pick1 (fSum_l29_st (sS l i)).2 = some (.n, sS l (i + 1)) := by
  unfold fSum_l29_st
  rw [s_s0, decide_eq_true hi, s_s2]
  have : IntKind.wrap .i64 ((sS l i).a2 + 1) = ((i + 1 : Nat) : Int) := by
    show IntKind.wrap .i64 ((i : Int) + 1) = _
    rw [w64_in (by omega) (by omega)]; omega
  rw [this]; rfl
omit hL in
theorem s_end : pick1 (fSum_l29_st (sS l l.length)).2 = some (.e 0, sS l l.length) := by
  unfold fSum_l29_st
  rw [s_s0, decide_eq_false (Nat.lt_irrefl _)]; rfl
theorem s_obs (i : Nat) : Alls (fSum_l29_st (sS l i)).1 := by
  unfold fSum_l29_st
  rw [s_s0]
  refine ⟨fun g => ⟨Int.natCast_nonneg i, Int.ofNat_lt.2 (of_decide_eq_true g)⟩, fun g => ?_, fun g => ?_, trivial⟩
  · have := of_decide_eq_true g
    have e : (fSum_l29_s1 (sS l i)).length = 7 * i + 4 := by
      show (sO l i ++ _).length = _
      rw [List.length_append, sO_len]; rfl
    rw [e]; omega
  · have := of_decide_eq_true g
    rw [s_s2, sO_len]; omega
theorem sum_run : fSum_s0 l = some (.e 0, sS l l.length) := by
  unfold fSum_s0
  exact lx_run (s := sS l) (s_step hL) s_end nofun (by omega)
theorem sum_lok : lok fSum_l29_st 18446744073709551616 (.mk 0 (Int.ofNat l.length) 0 l []) :=
  lx_lok (s := sS l) (s_step hL) s_end nofun (fun i _ => s_obs hL i) (by omega)
theorem sum_a4 : (V.valOf (fSum_s0 l)).a4 = sO l l.length := by rw [sum_run hL]; rfl
end
theorem sum_eq {l m : List (List Int)} (hL : l.length ≤ 4096) (hm : m.length = l.length) (h : ∀ i, i < l.length → eq6 l m i = true) : fSum_0 l = fSum_0 m := by
  unfold fSum_0
  rw [sum_a4 hL, sum_a4 (by omega), hm, sO_congr h]

/-! The sum of 32 bits: its loops end. -/
def kI (c n i : Int) (l : List (List Int)) (k : Nat) (v : cSum_l14951_T) : Prop := ∃ a, v = .mk 0 a c n i true (k : Int) l
def kO (l : List (List Int)) (i : Nat) (v : cSum_l29_T) : Prop := ∃ a, v = .mk 0 a (Int.ofNat l.length) (i : Int) l
theorem k_in (c n i : Int) (l : List (List Int)) {v : cSum_l14951_T} (hv : kI c n i l 0 v) : (∃ v', lrun cSum_l14951_st 18446744073709551616 v = some (.e 2, v') ∧ kI c n i l 8 v') ∧ lok cSum_l14951_st 18446744073709551616 v := by
  refine inv_run (I := kI c n i l) (x := .e 2) (n := 8) nofun ?_ ?_ ?_ 8 0 v (by omega) hv _ (by omega)
  · rintro k v hk ⟨a, rfl⟩
    have e0 : cSum_l14951_s0 (.mk 0 a c n i true (k : Int) l) = true := by
      unfold cSum_l14951_s0
      exact decide_eq_true (show (k : Int) < 8 by omega)
    have e1 : IntKind.wrap .i64 ((k : Int) + 1) = ((k + 1 : Nat) : Int) := by
      rw [w64_in (by omega) (by omega)]; omega
    unfold cSum_l14951_st
    rw [e0]
    refine ⟨_, rfl, ?_⟩
    unfold kI
    rw [← e1]
    exact ⟨_, rfl⟩
  · rintro v ⟨a, rfl⟩
    rfl
  · rintro k v hk ⟨a, rfl⟩
    trivial
theorem k_s0 (l : List (List Int)) (i : Nat) (a : Int) : cSum_l29_s0 (.mk 0 a (Int.ofNat l.length) (i : Int) l) = decide (i < l.length) := by
  unfold cSum_l29_s0
  exact decide_eq_decide.2 Int.ofNat_lt
theorem crc_lok {l : List (List Int)} (hL : l.length ≤ 100000) : lok cSum_l29_st 18446744073709551616 (.mk 0 4294967295 (Int.ofNat l.length) 0 l) := by
  refine (inv_run (I := kO l) (x := .e 0) (n := l.length) nofun ?_ ?_ ?_ l.length 0 _ (by omega) ⟨_, rfl⟩ _ (by omega)).2
  · rintro i v hi ⟨a, rfl⟩
    obtain ⟨⟨v', r, b, e⟩, _⟩ := k_in (rget l i 0) (Int.ofNat l.length) (i : Int) l (v := .mk 0 _ (rget l i 0) (Int.ofNat l.length) (i : Int) true 0 l) ⟨_, rfl⟩
    have e2 : cSum_l29_s2 (.mk 0 a (Int.ofNat l.length) (i : Int) l) = some (.e 2, v') := by
      unfold cSum_l29_s2
      rw [k_s0, decide_eq_true hi]
      exact r
    have e1 : IntKind.wrap .i64 ((i : Int) + 1) = ((i + 1 : Nat) : Int) := by
      rw [w64_in (by omega) (by omega)]; omega
    unfold cSum_l29_st
    rw [k_s0, decide_eq_true hi, e2]
    subst e
    refine ⟨_, rfl, b, ?_⟩
    rw [← e1]; rfl
  · rintro v ⟨a, rfl⟩
    unfold cSum_l29_st
    rw [k_s0, decide_eq_false (Nat.lt_irrefl _)]; rfl
  · rintro i v hi ⟨a, rfl⟩
    unfold cSum_l29_st
    rw [k_s0]
    refine ⟨fun g => ⟨Int.natCast_nonneg i, Int.ofNat_lt.2 (of_decide_eq_true g)⟩, fun g => ?_, trivial⟩
    rw [g]
    exact (k_in (rget l i 0) (Int.ofNat l.length) (i : Int) l ⟨_, rfl⟩).2


def Gc (w h : Nat) (l : List (List Int)) : Prop := Gd w h l ∧ ∀ k j, j ≠ 4 → 0 ≤ rget l k j ∧ rget l k j ≤ 255
theorem Gc_set {w h : Nat} {l : List (List Int)} (g : Gc w h l) (k : Nat) {p0 p1 p2 p3 p4 p5 : Int} (d0 : 0 ≤ p4) (d1 : p4 ≤ 65535) (c0 : 0 ≤ p0 ∧ p0 ≤ 255) (c1 : 0 ≤ p1 ∧ p1 ≤ 255) (c2 : 0 ≤ p2 ∧ p2 ≤ 255) (c3 : 0 ≤ p3 ∧ p3 ≤ 255) (c5 : 0 ≤ p5 ∧ p5 ≤ 255) : Gc w h (l.set k [p0, p1, p2, p3, p4, p5]) := by
  refine ⟨Gd_set g.1 k d0 d1, fun i j hj => ?_⟩
  by_cases e : i = k
  · subst e
    by_cases hi : i < l.length
    · rw [rget_lset_eq _ hi]
      match j, hj with
      | 0, _ => exact c0
      | 1, _ => exact c1
      | 2, _ => exact c2
      | 3, _ => exact c3
      | 5, _ => exact c5
      | j + 6, _ => exact (show (0 : Int) ≤ 0 ∧ (0 : Int) ≤ 255 by decide)
    · rw [List.set_eq_of_length_le (by omega)]
      exact g.2 i j hj
  · rw [rget_lset_ne _ e]
    exact g.2 i j hj

section
variable {w h : Nat} (ww : 1 ≤ w) (w1 : w ≤ 64) (hh : 1 ≤ h) (h1 : h ≤ 64) {sw sh : Int} {ns : Nat} {s : List (List Int)} (hd : ∀ i, 0 ≤ rget s i 4 ∧ rget s i 4 ≤ 65535) (hc : ∀ i j, j ≠ 4 → 0 ≤ rget s i j ∧ rget s i j ≤ 255) (n0 : ns ≤ 1000)

def yI (w h : Nat) (sw sh : Int) (ns : Nat) (s : List (List Int)) (y x : Nat) (v : fSized_l7475_T) : Prop := ∃ l, Gc w h l ∧ v = .mk (w : Int) (y : Int) (h : Int) (y : Int) true (w : Int) (x : Int) sw sh ns s 0 0 (w : Int) (h : Int) l
def yO (w h : Nat) (sw sh : Int) (ns : Nat) (s : List (List Int)) (y : Nat) (v : fSized_l29_T) : Prop := ∃ l, Gc w h l ∧ v = .mk (w : Int) (h : Int) (y : Int) sw sh ns s 0 0 (w : Int) (h : Int) l

include w1 h1 hd hc in
theorem y_step (y : Nat) : ∀ x v, x < w → yI w h sw sh ns s y x v → ∃ v', pick1 (fSized_l7475_st v).2 = some (.n, v') ∧ yI w h sw sh ns s y (x + 1) v' := by
  rintro x v hx ⟨l, g, rfl⟩
  have e0 : fSized_l7475_s0 (.mk (w : Int) (y : Int) (h : Int) (y : Int) true (w : Int) (x : Int) sw sh ns s 0 0 (w : Int) (h : Int) l) = true := by
    unfold fSized_l7475_s0
    exact decide_eq_true (Int.ofNat_lt.2 hx)
  have e1 : IntKind.wrap .i64 ((x : Int) + 1) = ((x + 1 : Nat) : Int) := by
    rw [w64_in (by omega) (by omega)]; omega
  unfold fSized_l7475_st
  rw [e0]
  refine ⟨_, rfl, ?_⟩
  refine ⟨_, ?_, by rw [show IntKind.wrap .i64 ((fSized_l7475_T.mk (w : Int) (y : Int) (h : Int) (y : Int) true (w : Int) (x : Int) sw sh ns s 0 0 (w : Int) (h : Int) l).a6 + 1) = ((x + 1 : Nat) : Int) from e1]⟩
  cases fSized_l7475_s1 _
  · exact g
  · show Gc w h (fSet_0 (w : Int) (h : Int) (x : Int) (y : Int) _ _ _ _ _ _ l)
    rw [set_eq w1 h1 g.1.1]
    cases inn w h (x : Int) (y : Int)
    · exact g
    · refine Gc_set g _ ?_ ?_ (hc _ 0 (by omega)) (hc _ 1 (by omega)) (hc _ 2 (by omega)) (hc _ 3 (by omega)) (hc _ 5 (by omega))
      · rw [w64_in (by have := (hd (0 + Int.toNat (fSized_l7475_s2 (.mk (w : Int) (y : Int) (h : Int) (y : Int) true (w : Int) (x : Int) sw sh ns s 0 0 (w : Int) (h : Int) l)))).1; exact Int.le_trans (by decide) this) (by have := (hd (0 + Int.toNat (fSized_l7475_s2 (.mk (w : Int) (y : Int) (h : Int) (y : Int) true (w : Int) (x : Int) sw sh ns s 0 0 (w : Int) (h : Int) l)))).2; exact Int.le_trans this (by decide))]
        exact (hd _).1
      · rw [w64_in (by have := (hd (0 + Int.toNat (fSized_l7475_s2 (.mk (w : Int) (y : Int) (h : Int) (y : Int) true (w : Int) (x : Int) sw sh ns s 0 0 (w : Int) (h : Int) l)))).1; exact Int.le_trans (by decide) this) (by have := (hd (0 + Int.toNat (fSized_l7475_s2 (.mk (w : Int) (y : Int) (h : Int) (y : Int) true (w : Int) (x : Int) sw sh ns s 0 0 (w : Int) (h : Int) l)))).2; exact Int.le_trans this (by decide))]
        exact (hd _).2
theorem y_end (y : Nat) : ∀ v, yI w h sw sh ns s y w v → pick1 (fSized_l7475_st v).2 = some (.e 2, v) := by
  rintro v ⟨l, g, rfl⟩
  have e0 : fSized_l7475_s0 (.mk (w : Int) (y : Int) (h : Int) (y : Int) true (w : Int) (w : Int) sw sh ns s 0 0 (w : Int) (h : Int) l) = false := by
    unfold fSized_l7475_s0
    exact decide_eq_false (Int.lt_irrefl _)
  unfold fSized_l7475_st
  rw [e0]; rfl
include w1 h1 in
theorem y_obs {y : Nat} (hy : y < h) : ∀ x v, x ≤ w → yI w h sw sh ns s y x v → Alls (fSized_l7475_st v).1 := by
  rintro x v hx ⟨l, g, rfl⟩
  have hyw : y * w ≤ 63 * 64 := Nat.mul_le_mul (by omega) (by omega)
  have c1 : (y : Int) * (w : Int) = ((y * w : Nat) : Int) := by simp
  have e2 : fSized_l7475_s2 (.mk (w : Int) (y : Int) (h : Int) (y : Int) true (w : Int) (x : Int) sw sh ns s 0 0 (w : Int) (h : Int) l) = Int.tmod ((y * w + x : Nat) : Int) (ns : Int) := by
    unfold fSized_l7475_s2
    show Int.tmod (IntKind.wrap .i64 (IntKind.wrap .i64 ((y : Int) * (w : Int)) + (x : Int))) (ns : Int) = _
    rw [c1, w64_in (n := ((y * w : Nat) : Int)) (by omega) (by omega), w64_in (by omega) (by omega)]; rfl
  refine ⟨fun _ g1 => ?_, fun _ g1 => ?_, fun _ _ g2 => set_ob w1 h1 g.1.1 g2, trivial⟩
  · have : (0 : Int) < (ns : Int) := of_decide_eq_true g1
    show (ns : Int) ≠ 0
    omega
  · have : (0 : Int) < (ns : Int) := of_decide_eq_true g1
    rw [e2, Int.tmod_eq_emod_of_nonneg (by omega)]
    exact ⟨Int.emod_nonneg _ (by omega), Int.emod_lt_of_pos _ this⟩
include w1 h1 hd hc in
theorem y_in {y : Nat} (hy : y < h) {v : fSized_l7475_T} (hv : yI w h sw sh ns s y 0 v) : (∃ v', lrun fSized_l7475_st 18446744073709551616 v = some (.e 2, v') ∧ yI w h sw sh ns s y w v') ∧ lok fSized_l7475_st 18446744073709551616 v :=
  inv_run (I := yI w h sw sh ns s y) (x := .e 2) nofun (y_step w1 h1 hd hc y) (y_end y) (y_obs w1 h1 hy) w 0 v (by omega) hv _ (by omega)

theorem yo_s0 {y : Nat} {l : List (List Int)} : fSized_l29_s0 (.mk (w : Int) (h : Int) (y : Int) sw sh ns s 0 0 (w : Int) (h : Int) l) = decide (y < h) := by
  unfold fSized_l29_s0
  exact decide_eq_decide.2 Int.ofNat_lt
include w1 h1 hd hc in
theorem yo_step : ∀ y v, y < h → yO w h sw sh ns s y v → ∃ v', pick1 (fSized_l29_st v).2 = some (.n, v') ∧ yO w h sw sh ns s (y + 1) v' := by
  rintro y v hy ⟨l, g, rfl⟩
  obtain ⟨⟨v', r, l', g', e'⟩, _⟩ := y_in (sw := sw) (sh := sh) (ns := ns) w1 h1 hd hc hy ⟨l, g, rfl⟩
  have e1 : fSized_l29_s1 (.mk (w : Int) (h : Int) (y : Int) sw sh ns s 0 0 (w : Int) (h : Int) l) = some (.e 2, v') := by
    unfold fSized_l29_s1
    rw [yo_s0, decide_eq_true hy]
    exact r
  unfold fSized_l29_st
  rw [yo_s0, decide_eq_true hy, e1]
  subst e'
  refine ⟨_, rfl, l', g', ?_⟩
  have e2 : IntKind.wrap .i64 ((y : Int) + 1) = ((y + 1 : Nat) : Int) := by
    rw [w64_in (by omega) (by omega)]; omega
  rw [← e2]; rfl
theorem yo_end : ∀ v, yO w h sw sh ns s h v → pick1 (fSized_l29_st v).2 = some (.e 0, v) := by
  rintro v ⟨l, g, rfl⟩
  unfold fSized_l29_st
  rw [yo_s0, decide_eq_false (Nat.lt_irrefl _)]; rfl
include w1 h1 hd hc in
theorem yo_obs : ∀ y v, y ≤ h → yO w h sw sh ns s y v → Alls (fSized_l29_st v).1 := by
  rintro y v hy ⟨l, g, rfl⟩
  unfold fSized_l29_st
  rw [yo_s0]
  refine ⟨fun k => ?_, trivial⟩
  rw [k]
  exact (y_in w1 h1 hd hc (of_decide_eq_true k) ⟨l, g, rfl⟩).2
end

theorem sizedC {x1 x2 : Int} (a1 : 1 ≤ x1) (b1 : x1 ≤ 64) (a2 : 1 ≤ x2) (b2 : x2 ≤ 64) (sw sh : Int) (ns : Nat) {s : List (List Int)} (hd : ∀ i, 0 ≤ rget s i 4 ∧ rget s i 4 ≤ 65535) (hc : ∀ i j, j ≠ 4 → 0 ≤ rget s i j ∧ rget s i j ≤ 255) :
    (fSized_0 sw sh ns x1 x2 s = (cl x1 : Int) ∧ fSized_1 sw sh ns x1 x2 s = (cl x2 : Int) ∧ Gc (cl x1) (cl x2) (fSized_2 sw sh ns x1 x2 s)) ∧ lok fSized_l29_st 18446744073709551616 (.mk x1 x2 0 sw sh ns s 0 0 (fNew_s2 x1) (fNew_s5 x2) (fNew_0 x1 x2 0 0 0 0 65535 0)) := by
  have e : fSized_l29_T.mk x1 x2 0 sw sh ns s 0 0 (fNew_s2 x1) (fNew_s5 x2) (fNew_0 x1 x2 0 0 0 0 65535 0) = .mk (cl x1 : Int) (cl x2 : Int) ((0 : Nat) : Int) sw sh ns s 0 0 (cl x1 : Int) (cl x2 : Int) (List.replicate (cl x1 * cl x2) [0, 0, 0, 0, 65535, 0]) := by
    rw [n_s2, n_s5, new_eq, cl_in a1 b1, cl_in a2 b2]; rfl
  have g : Gc (cl x1) (cl x2) (List.replicate (cl x1 * cl x2) [0, 0, 0, 0, 65535, 0]) := by
    refine ⟨⟨by rw [List.length_replicate], fun i hi => ?_⟩, fun i j hj => ?_⟩
    · unfold dOK
      rw [rget_rep hi]
      exact ⟨by decide, by decide⟩
    · have e : rget (List.replicate (cl x1 * cl x2) [0, 0, 0, 0, 65535, 0]) i j = 0 := by
        by_cases hi : i < cl x1 * cl x2
        · rw [rget_rep hi]
          match j, hj with
          | 0, _ => rfl
          | 1, _ => rfl
          | 2, _ => rfl
          | 3, _ => rfl
          | 5, _ => rfl
          | j + 6, _ => rfl
        · unfold rget
          rw [List.getD_eq_getElem?_getD (l := List.replicate _ _), List.getElem?_replicate, if_neg hi]; rfl
      rw [e]; decide
  obtain ⟨⟨v', r, l', g', e'⟩, k⟩ := inv_run (I := yO (cl x1) (cl x2) sw sh ns s) (x := .e 0) nofun (yo_step (cl_64 x1) (cl_64 x2) hd hc) yo_end (yo_obs (cl_64 x1) (cl_64 x2) hd hc) (cl x2) 0 _ (by omega) ⟨_, g, rfl⟩ 18446744073709551616 (by have := cl_64 x2; omega)
  refine ⟨⟨?_, ?_, ?_⟩, by rw [e]; exact k⟩
  · unfold fSized_0; rw [e, r, e']; rfl
  · unfold fSized_1; rw [e, r, e']; rfl
  · unfold fSized_2; rw [e, r, e']; exact g'


theorem tiles_eq {w : Nat} (w1 : w ≤ 64) : bTiles_0 (w : Int) = (((w + 7) / 8 : Nat) : Int) := by
  unfold bTiles_0 bTiles_s0
  rw [if_neg (show ¬ (w : Int) < 0 by omega), if_neg (show ¬ 64 < (w : Int) by omega), w64_in (n := (w : Int) + 8) (by omega) (by omega), w64_in (n := (w : Int) + 8 - 1) (by omega) (by omega), Int.tdiv_eq_ediv_of_nonneg (by omega), w64_in (by omega) (by omega)]
  omega
theorem tl_le {w : Nat} (w1 : w ≤ 64) : (w + 7) / 8 ≤ 8 := by omega
theorem gt_eq {w h : Nat} (w1 : w ≤ 64) (h1 : h ≤ 64) : bGTiles_0 (w : Int) (h : Int) = (((w + 7) / 8 * ((h + 7) / 8) : Nat) : Int) := by
  have : (w + 7) / 8 * ((h + 7) / 8) ≤ 8 * 8 := Nat.mul_le_mul (tl_le w1) (tl_le h1)
  unfold bGTiles_0
  rw [tiles_eq w1, tiles_eq h1, ← Int.natCast_mul, w64_in (by omega) (by omega)]

theorem ixp_eq {w h : Nat} (w1 : w ≤ 64) (h1 : h ≤ 64) {a b : Nat} (ha : a < w) (hb : b < h) : ixp w a b = b * w + a := by
  unfold ixp
  rw [(at_in (l := List.replicate (w * h) []) w1 h1 (by simp) ha hb).1]; rfl
theorem ixp_inj {w h : Nat} (w1 : w ≤ 64) (h1 : h ≤ 64) {a b c d : Nat} (ha : a < w) (hb : b < h) (hc : c < w) (hd : d < h) (e : ixp w a b = ixp w c d) : a = c ∧ b = d := by
  rw [ixp_eq w1 h1 ha hb, ixp_eq w1 h1 hc hd] at e
  have m : (b * w + a) % w = (d * w + c) % w := by rw [e]
  rw [Nat.mul_comm b, Nat.mul_comm d, Nat.mul_add_mod, Nat.mul_add_mod, Nat.mod_eq_of_lt ha, Nat.mod_eq_of_lt hc] at m
  subst m
  refine ⟨rfl, ?_⟩
  have : b * w = d * w := by omega
  exact Nat.eq_of_mul_eq_mul_right (by omega) this
theorem inn_nat {w h a b : Nat} : inn w h a b = decide (a < w ∧ b < h) := by
  unfold inn
  exact decide_eq_decide.2 ⟨fun k => by omega, fun k => by omega⟩

section
variable {w h : Nat} (ww : 1 ≤ w) (w1 : w ≤ 64) (hh : 1 ≤ h) (h1 : h ≤ 64) {l : List (List Int)} (hl : l.length = w * h) {X Y : Nat} (hX : X < w) (hY : Y < h) (P : List Int)
include w1 h1 hl hX hY
theorem Eq6_ne {x y : Nat} (ne : ¬ (x = X ∧ y = Y)) : Eq6 w h l (l.set (ixp w X Y) P) x y = true := by
  refine (Eq6_iff w1 h1 hl (by rw [List.length_set]; exact hl) x y).2 fun j hj => ?_
  unfold px
  rw [inn_nat]
  by_cases k : x < w ∧ y < h
  · rw [decide_eq_true k]
    show rget l (ixp w x y) j = rget (l.set _ _) (ixp w x y) j
    rw [rget_lset_ne _ fun e => ne (ixp_inj w1 h1 k.1 k.2 hX hY e)]
  · rw [decide_eq_false k]; rfl
end

/-- Tile t, by its column and its row. -/
structure Tl (w h t r q : Nat) : Prop where
  e : t = (w + 7) / 8 * q + r
  r1 : r < (w + 7) / 8
  q1 : q < (h + 7) / 8
theorem tl_of {w h t : Nat} (ww : 1 ≤ w) (ht : t < (w + 7) / 8 * ((h + 7) / 8)) : Tl w h t (t % ((w + 7) / 8)) (t / ((w + 7) / 8)) :=
  ⟨(Nat.div_add_mod t _).symm, Nat.mod_lt _ (by omega), Nat.div_lt_of_lt_mul ht⟩
theorem tl_n {w h t r q : Nat} (T : Tl w h t r q) {a b : Nat} (ha : a < (w + 7) / 8) : t = (w + 7) / 8 * b + a ↔ r = a ∧ q = b := by
  have e := T.e
  have r1 := T.r1
  constructor
  · intro k
    rw [e] at k
    have m : ((w + 7) / 8 * q + r) % ((w + 7) / 8) = ((w + 7) / 8 * b + a) % ((w + 7) / 8) := by rw [k]
    rw [Nat.mul_add_mod, Nat.mul_add_mod, Nat.mod_eq_of_lt r1, Nat.mod_eq_of_lt ha] at m
    subst m
    have k' : (w + 7) / 8 * q = (w + 7) / 8 * b := by omega
    exact ⟨rfl, Nat.eq_of_mul_eq_mul_left (by omega) k'⟩
  · rintro ⟨rfl, rfl⟩; exact e

section
variable {w h : Nat} (ww : 1 ≤ w) (w1 : w ≤ 64) (hh : 1 ≤ h) (h1 : h ≤ 64) {t r q : Nat} (T : Tl w h t r q) (er : r = t % ((w + 7) / 8)) (eq : q = t / ((w + 7) / 8)) (ht : t < (w + 7) / 8 * ((h + 7) / 8))
include w1 h1 T er eq ht
theorem box_s0 : bBox_s0 (w : Int) (h : Int) (t : Int) = false := by
  unfold bBox_s0
  rw [gt_eq w1 h1, decide_eq_false (show ¬ (t : Int) < 0 by omega), decide_eq_false (show ¬ (((w + 7) / 8 * ((h + 7) / 8) : Nat) : Int) ≤ (t : Int) by omega)]; rfl
theorem box_s1 : bBox_s1 (w : Int) (t : Int) = ((r * 8 : Nat) : Int) := by
  have r1 := T.r1
  have e : ((t : Int) % (((w + 7) / 8 : Nat) : Int)) = (r : Int) := by rw [er]; exact (Int.natCast_emod t _).symm
  unfold bBox_s1
  rw [tiles_eq w1, Int.tmod_eq_emod_of_nonneg (by omega), e, w64_in (by omega) (by omega)]; omega
theorem box_s2 : bBox_s2 (w : Int) (t : Int) = ((q * 8 : Nat) : Int) := by
  have q1 := T.q1
  have e : ((t : Int) / (((w + 7) / 8 : Nat) : Int)) = (q : Int) := by rw [eq]; exact (Int.natCast_ediv t _).symm
  unfold bBox_s2
  rw [tiles_eq w1, Int.tdiv_eq_ediv_of_nonneg (by omega), e, w64_in (n := (q : Int)) (by omega) (by omega), w64_in (by omega) (by omega)]; omega
theorem box_0 : bBox_0 (w : Int) (h : Int) (t : Int) = ((r * 8 : Nat) : Int) := by
  unfold bBox_0
  rw [box_s0 w1 h1 T er eq ht, box_s1 w1 h1 T er eq ht]; rfl
theorem box_1 : bBox_1 (w : Int) (h : Int) (t : Int) = ((q * 8 : Nat) : Int) := by
  unfold bBox_1
  rw [box_s0 w1 h1 T er eq ht, box_s2 w1 h1 T er eq ht]; rfl
theorem box_2 : bBox_2 (w : Int) (h : Int) (t : Int) = ((min w (r * 8 + 8) : Nat) : Int) := by
  have r1 := T.r1
  unfold bBox_2 bBox_s3
  rw [box_s0 w1 h1 T er eq ht, box_s1 w1 h1 T er eq ht, w64_in (by omega) (by omega)]
  show (if (w : Int) < ((r * 8 : Nat) : Int) + 8 then (w : Int) else ((r * 8 : Nat) : Int) + 8) = _
  split <;> omega
theorem box_3 : bBox_3 (w : Int) (h : Int) (t : Int) = ((min h (q * 8 + 8) : Nat) : Int) := by
  have q1 := T.q1
  unfold bBox_3 bBox_s4
  rw [box_s0 w1 h1 T er eq ht, box_s2 w1 h1 T er eq ht, w64_in (by omega) (by omega)]
  show (if (h : Int) < ((q * 8 : Nat) : Int) + 8 then (h : Int) else ((q * 8 : Nat) : Int) + 8) = _
  split <;> omega
end

theorem row_dep {s : List (List Int)} (p : ∀ row ∈ s, RowFit [.int .u8, .int .u8, .int .u8, .int .u8, .int .u16, .int .u8] row) (i : Nat) : 0 ≤ rget s i 4 ∧ rget s i 4 ≤ 65535 := by
  unfold rget
  rw [List.getD_eq_getElem?_getD (l := s)]
  cases h : s[i]? with
  | none => exact ⟨by decide, by decide⟩
  | some row =>
    obtain ⟨a, b⟩ := p row (List.mem_of_getElem? h)
    have hr : row.length = 6 := a
    have e : row[4]? = some row[4] := List.getElem?_eq_getElem (by omega)
    obtain ⟨k1, k2⟩ : IntKind.min .u16 ≤ row[4] ∧ row[4] ≤ IntKind.max .u16 := b 4 (.int .u16) _ rfl e
    show 0 ≤ row.getD 4 0 ∧ row.getD 4 0 ≤ 65535
    rw [List.getD_eq_getElem?_getD, e]
    exact bd_u16 k1 k2
theorem row_col {s : List (List Int)} (p : ∀ row ∈ s, RowFit [.int .u8, .int .u8, .int .u8, .int .u8, .int .u16, .int .u8] row) (i j : Nat) (hj : j ≠ 4) : 0 ≤ rget s i j ∧ rget s i j ≤ 255 := by
  unfold rget
  rw [List.getD_eq_getElem?_getD (l := s)]
  cases h : s[i]? with
  | none => exact (show 0 ≤ ([] : List Int).getD j 0 ∧ ([] : List Int).getD j 0 ≤ 255 from ⟨by simp, by simp⟩)
  | some row =>
    obtain ⟨a, b⟩ := p row (List.mem_of_getElem? h)
    have hr : row.length = 6 := a
    show 0 ≤ row.getD j 0 ∧ row.getD j 0 ≤ 255
    rw [List.getD_eq_getElem?_getD]
    by_cases h6 : j < 6
    · have e : row[j]? = some row[j] := List.getElem?_eq_getElem (by omega)
      obtain ⟨k1, k2⟩ : IntKind.min .u8 ≤ row[j] ∧ row[j] ≤ IntKind.max .u8 := b j (.int .u8) _ (by match j, hj, h6 with | 0, _, _ => rfl | 1, _, _ => rfl | 2, _, _ => rfl | 3, _, _ => rfl | 5, _, _ => rfl) e
      rw [e]
      exact bd_u8 k1 k2
    · rw [List.getElem?_eq_none (by omega)]
      exact (show (0 : Int) ≤ 0 ∧ (0 : Int) ≤ 255 by decide)

theorem sm_0 {x : Int} (a : 0 ≤ x) (b : x ≤ 255) : 1 ≤ fSmF_s0 x ∧ fSmF_s0 x ≤ 20 := by
  unfold fSmF_s0
  rw [Int.tmod_eq_emod_of_nonneg a, w64_in (n := x % 20) (by omega) (by omega), w64_in (by omega) (by omega)]
  omega
theorem sm_1 {x : Int} (a : 0 ≤ x) (b : x ≤ 255) : 1 ≤ fSmF_s1 x ∧ fSmF_s1 x ≤ 20 := by
  unfold fSmF_s1
  rw [Int.tmod_eq_emod_of_nonneg a, w64_in (n := x % 20) (by omega) (by omega), w64_in (by omega) (by omega)]
  omega

theorem tm_nat {x : Int} {w : Nat} (a : 0 ≤ x) (b : x ≤ 255) (ww : 1 ≤ w) : Int.tmod (IntKind.wrap .i64 x) (w : Int) = ((x.toNat % w : Nat) : Int) := by
  rw [w64_in (by omega) (by omega), Int.tmod_eq_emod_of_nonneg a, Int.natCast_emod, Int.toNat_of_nonneg a]

section
variable {w h : Nat} (ww : 1 ≤ w) (w1 : w ≤ 64) (hh : 1 ≤ h) (h1 : h ≤ 64) {l : List (List Int)} (g : Gc w h l) {X Y : Nat} (hX : X < w) (hY : Y < h)
include w1 h1 hX hY
theorem n_eq : IntKind.wrap .i64 (IntKind.wrap .i64 (bTiles_0 (w : Int) * IntKind.wrap .i64 (Int.tdiv (Y : Int) 8)) + IntKind.wrap .i64 (Int.tdiv (X : Int) 8)) = (((w + 7) / 8 * (Y / 8) + X / 8 : Nat) : Int) := by
  have : (w + 7) / 8 * (Y / 8) ≤ 8 * 8 := Nat.mul_le_mul (tl_le w1) (by omega)
  have e1 : Int.tdiv (Y : Int) 8 = ((Y / 8 : Nat) : Int) := by rw [Int.tdiv_eq_ediv_of_nonneg (by omega)]; omega
  have e2 : Int.tdiv (X : Int) 8 = ((X / 8 : Nat) : Int) := by rw [Int.tdiv_eq_ediv_of_nonneg (by omega)]; omega
  rw [e1, e2, tiles_eq w1, w64_in (n := ((Y / 8 : Nat) : Int)) (by omega) (by omega), w64_in (n := ((X / 8 : Nat) : Int)) (by omega) (by omega), ← Int.natCast_mul, w64_in (n := (((w + 7) / 8 * (Y / 8) : Nat) : Int)) (by omega) (by omega), w64_in (by omega) (by omega)]
  omega
include g in
theorem set_in (p0 p1 p2 p3 p4 p5 : Int) : fSet_0 (w : Int) (h : Int) (X : Int) (Y : Int) p0 p1 p2 p3 p4 p5 (sClone_s0 l) = l.set (ixp w X Y) [p0, p1, p2, p3, p4, p5] := by
  show fSet_0 (w : Int) (h : Int) (X : Int) (Y : Int) p0 p1 p2 p3 p4 p5 l = _
  rw [set_eq w1 h1 g.1.1, inn_nat, decide_eq_true ⟨hX, hY⟩]; rfl
end

end Go.Proofs.Ytcdejlgophpdjaa
end

section
namespace Go.Proofs.Ytcdejlgophpdjaa
open Go Go.RowKit Go.Proofs.Ytcdejlgophpdjaa.V
set_option linter.unusedVariables false
set_option linter.unusedSectionVars false

namespace Tile

theorem place_eq {x y : Nat} (hx : x ≤ 1000) (hy : y ≤ 1000) : tPlace_0 (x : Int) (y : Int) = ((8 * (y % 8) + x % 8 : Nat) : Int) := by
  have e : tPlace_s0 = 18446744073709551616 := by decide
  have e1 : tPlace_s1 = 7 := by decide
  have a : ∀ n : Nat, n &&& 7 = n % 8 := fun n => Nat.and_two_pow_sub_one_eq_mod n 3
  have b : ∀ n : Nat, n ≤ 1000 → Int.toNat ((n : Int) % 18446744073709551616) = n := fun n hn => by omega
  unfold tPlace_0
  rw [e, e1, b x hx, b y hy, a, a]
  show IntKind.wrap .i64 (IntKind.wrap .i64 (IntKind.wrap .i64 ((y % 8 : Nat) : Int) * 8) + IntKind.wrap .i64 ((x % 8 : Nat) : Int)) = _
  rw [w64_in (n := ((y % 8 : Nat) : Int)) (by omega) (by omega), w64_in (n := ((x % 8 : Nat) : Int)) (by omega) (by omega), w64_in (n := ((y % 8 : Nat) : Int) * 8) (by omega) (by omega), w64_in (by omega) (by omega)]
  omega

/-- A box that may be one of a tile. -/
structure Bx (a b c d : Nat) : Prop where
  a1 : a < 64
  a8 : a % 8 = 0
  ac : a ≤ c
  c8 : c ≤ a + 8
  b1 : b < 64
  b8 : b % 8 = 0
  bd : b ≤ d
  d8 : d ≤ b + 8

theorem rt1_iff (x y : Int) (hx : -9223372036854775808 ≤ x) (hx' : x ≤ 9223372036854775807) : tRt1_0 x y = true ↔ 0 ≤ x ∧ x < 64 ∧ x % 8 = 0 ∧ x ≤ y ∧ y ≤ x + 8 := by
  unfold tRt1_0 tRt1_s0
  by_cases h0 : 0 ≤ x
  · rw [decide_eq_true h0, Int.tmod_eq_emod_of_nonneg h0]
    by_cases h1 : x < 64
    · rw [decide_eq_true h1, w64_in (n := x + 8) (by omega) (by omega)]
      by_cases h2 : x % 8 = 0
      · rw [h2]
        by_cases h3 : x ≤ y
        · rw [decide_eq_true h3]
          show decide (y ≤ x + 8) = true ↔ _
          rw [decide_eq_true_iff]; omega
        · rw [decide_eq_false h3]
          show false = true ↔ _
          simp; omega
      · have : (x % 8 == 0) = false := by simpa using h2
        rw [this]
        show false = true ↔ _
        simp; omega
    · rw [decide_eq_false h1]
      show false = true ↔ _
      simp; omega
  · rw [decide_eq_false h0]
    show false = true ↔ _
    simp; omega

theorem Bx.right {a b c d : Nat} (B : Bx a b c d) : tRt_0 (a : Int) (b : Int) (c : Int) (d : Int) = true := by
  obtain ⟨h1, h2, h3, h4, h5, h6, h7, h8⟩ := B
  unfold tRt_0
  rw [(rt1_iff a c (by omega) (by omega)).2 (by omega), (rt1_iff b d (by omega) (by omega)).2 (by omega)]; rfl
theorem right_bx {a b c d : Int} (ha : -9223372036854775808 ≤ a) (ha' : a ≤ 9223372036854775807) (hb : -9223372036854775808 ≤ b) (hb' : b ≤ 9223372036854775807) (h : tRt_0 a b c d = true) : ∃ a' b' c' d' : Nat, a = a' ∧ b = b' ∧ c = c' ∧ d = d' ∧ Bx a' b' c' d' := by
  unfold tRt_0 at h
  cases h1 : tRt1_0 a c with
  | false => rw [h1] at h; cases h
  | true =>
    rw [h1] at h
    have h2 : tRt1_0 b d = true := h
    have q1 := (rt1_iff a c ha ha').1 h1
    have q2 := (rt1_iff b d hb hb').1 h2
    exact ⟨a.toNat, b.toNat, c.toNat, d.toNat, by omega, by omega, by omega, by omega, ⟨by omega, by omega, by omega, by omega, by omega, by omega, by omega, by omega⟩⟩

section
variable {w h : Nat} (w1 : w ≤ 64) (h1 : h ≤ 64) {a b c d : Nat} (B : Bx a b c d)

/-! Load. -/
section
variable {l : List (List Int)} (hl : l.length = w * h) (T : List (List Int)) (hT : T.length = 64)

def LI (w h a b c d : Nat) (l : List (List Int)) (T : List (List Int)) (y i : Nat) (v : tEaL_l457_T) : Prop := ∃ T', T'.length = 64 ∧ (∀ p j, p < 64 → j < 6 → rget T' p j = if p / 8 = y % 8 ∧ p % 8 < i then px w h l (a + p % 8 : Nat) y j else rget T p j) ∧ v = .mk (y : Int) ((a + i : Nat) : Int) true T' (a : Int) (b : Int) (c : Int) (d : Int) (w : Int) (h : Int) l

theorem li_s0 (y i : Nat) (T' : List (List Int)) : tEaL_l457_s0 (.mk (y : Int) ((a + i : Nat) : Int) true T' (a : Int) (b : Int) (c : Int) (d : Int) (w : Int) (h : Int) l) = decide (a + i < c) := by
  unfold tEaL_l457_s0
  exact decide_eq_decide.2 Int.ofNat_lt
include w1 h1 B hl hT in
theorem li_run {y : Nat} (hy : y ≤ 72) {v : tEaL_l457_T} (hv : LI w h a b c d l T y 0 v) : (∃ v', lrun tEaL_l457_st 18446744073709551616 v = some (.e 2, v') ∧ LI w h a b c d l T y (c - a) v') ∧ lok tEaL_l457_st 18446744073709551616 v := by
  have ba := B.a1; have b8 := B.a8; have bc := B.ac; have bc8 := B.c8
  have pl : ∀ i, i < 8 → tPlace_0 ((a + i : Nat) : Int) (y : Int) = ((8 * (y % 8) + i : Nat) : Int) := fun i hi => by
    rw [place_eq (by omega) (by omega)]; omega
  refine inv_run (I := LI w h a b c d l T y) (x := .e 2) (n := c - a) nofun ?_ ?_ ?_ (c - a) 0 v (by omega) hv _ (by omega)
  · rintro i v hi ⟨T', ht, hg, rfl⟩
    unfold tEaL_l457_st
    rw [li_s0, decide_eq_true (show a + i < c by omega)]
    refine ⟨_, rfl, T'.set (8 * (y % 8) + i) [px w h l (a + i : Nat) y 0, px w h l (a + i : Nat) y 1, px w h l (a + i : Nat) y 2, px w h l (a + i : Nat) y 3, px w h l (a + i : Nat) y 4, px w h l (a + i : Nat) y 5], by rw [List.length_set]; exact ht, fun p j hp hj => ?_, ?_⟩
    · by_cases e : p = 8 * (y % 8) + i
      · subst e
        rw [rget_lset_eq _ (by omega), if_pos (by omega), show (8 * (y % 8) + i) % 8 = i by omega]
        match j, hj with
        | 0, _ => rfl
        | 1, _ => rfl
        | 2, _ => rfl
        | 3, _ => rfl
        | 4, _ => rfl
        | 5, _ => rfl
      · rw [rget_lset_ne _ e, hg p j hp hj]
        by_cases q : p / 8 = y % 8 ∧ p % 8 < i
        · rw [if_pos q, if_pos (by omega)]
        · rw [if_neg q, if_neg (by omega)]
    · have e1 : IntKind.wrap .i64 (((a + i : Nat) : Int) + 1) = ((a + (i + 1) : Nat) : Int) := by
        rw [w64_in (by omega) (by omega)]; omega
      show tEaL_l457_T.mk (y : Int) (IntKind.wrap .i64 (((a + i : Nat) : Int) + 1)) true (tL1_0 ((a + i : Nat) : Int) (y : Int) (tPlace_0 ((a + i : Nat) : Int) (y : Int)) (w : Int) (h : Int) l T') (a : Int) (b : Int) (c : Int) (d : Int) (w : Int) (h : Int) l = _
      unfold tL1_0
      rw [e1, pl i (by omega), Int.toNat_natCast, px_0 w1 h1 hl, px_1 w1 h1 hl, px_2 w1 h1 hl, px_3 w1 h1 hl, px_4 w1 h1 hl, px_5 w1 h1 hl]
  · rintro v ⟨T', ht, hg, rfl⟩
    unfold tEaL_l457_st
    rw [li_s0, decide_eq_false (show ¬ a + (c - a) < c by omega)]; rfl
  · rintro i v hi ⟨T', ht, hg, rfl⟩
    unfold tEaL_l457_st
    rw [li_s0]
    refine ⟨fun _ k => at_ob w1 h1 hl k, fun k => ?_, trivial⟩
    have := of_decide_eq_true k
    show 0 ≤ tPlace_0 ((a + i : Nat) : Int) (y : Int) ∧ tPlace_0 ((a + i : Nat) : Int) (y : Int) < ((64 : Nat) : Int)
    rw [pl i (by omega)]; omega

def LO (w h a b c d : Nat) (l : List (List Int)) (T : List (List Int)) (k : Nat) (v : tEaL_l7_T) : Prop := ∃ T', T'.length = 64 ∧ (∀ p j, p < 64 → j < 6 → rget T' p j = if p / 8 < k ∧ p % 8 < c - a then px w h l (a + p % 8 : Nat) (b + p / 8 : Nat) j else rget T p j) ∧ v = .mk ((b + k : Nat) : Int) T' (a : Int) (b : Int) (c : Int) (d : Int) (w : Int) (h : Int) l
theorem lo_s0 (k : Nat) (T' : List (List Int)) : tEaL_l7_s0 (.mk ((b + k : Nat) : Int) T' (a : Int) (b : Int) (c : Int) (d : Int) (w : Int) (h : Int) l) = decide (b + k < d) := by
  unfold tEaL_l7_s0
  exact decide_eq_decide.2 Int.ofNat_lt
include w1 h1 B hl hT in
theorem lo_run {v : tEaL_l7_T} (hv : LO w h a b c d l T 0 v) : (∃ v', lrun tEaL_l7_st 18446744073709551616 v = some (.e 0, v') ∧ LO w h a b c d l T (d - b) v') ∧ lok tEaL_l7_st 18446744073709551616 v := by
  have bb := B.b1; have b8 := B.b8; have bd := B.bd; have bd8 := B.d8
  have inn : ∀ (k : Nat) (T' : List (List Int)), T'.length = 64 → k < d - b → (∃ v', lrun tEaL_l457_st 18446744073709551616 (.mk ((b + k : Nat) : Int) (a : Int) true T' (a : Int) (b : Int) (c : Int) (d : Int) (w : Int) (h : Int) l) = some (.e 2, v') ∧ LI w h a b c d l T' (b + k) (c - a) v') ∧ lok tEaL_l457_st 18446744073709551616 (.mk ((b + k : Nat) : Int) (a : Int) true T' (a : Int) (b : Int) (c : Int) (d : Int) (w : Int) (h : Int) l) := fun k T' ht hk =>
    li_run w1 h1 B hl T' ht (by omega) ⟨T', ht, fun p j hp hj => by rw [if_neg (by omega)], rfl⟩
  refine inv_run (I := LO w h a b c d l T) (x := .e 0) (n := d - b) nofun ?_ ?_ ?_ (d - b) 0 v (by omega) hv _ (by omega)
  · rintro k v hk ⟨T', ht, hg, rfl⟩
    obtain ⟨⟨v', r, T2, ht2, hg2, rfl⟩, _⟩ := inn k T' ht hk
    have e1 : tEaL_l7_s1 (.mk ((b + k : Nat) : Int) T' (a : Int) (b : Int) (c : Int) (d : Int) (w : Int) (h : Int) l) = some (.e 2, .mk ((b + k : Nat) : Int) ((a + (c - a) : Nat) : Int) true T2 (a : Int) (b : Int) (c : Int) (d : Int) (w : Int) (h : Int) l) := by
      unfold tEaL_l7_s1
      rw [lo_s0, decide_eq_true (show b + k < d by omega)]
      exact r
    unfold tEaL_l7_st
    rw [lo_s0, decide_eq_true (show b + k < d by omega), e1]
    refine ⟨_, rfl, T2, ht2, fun p j hp hj => ?_, ?_⟩
    · rw [hg2 p j hp hj]
      by_cases q : p / 8 = (b + k) % 8 ∧ p % 8 < c - a
      · rw [if_pos q, if_pos (by omega), show b + p / 8 = b + k by omega]
      · rw [if_neg q, hg p j hp hj]
        by_cases q2 : p / 8 < k ∧ p % 8 < c - a
        · rw [if_pos q2, if_pos (by omega)]
        · rw [if_neg q2, if_neg (by omega)]
    · have e2 : IntKind.wrap .i64 (((b + k : Nat) : Int) + 1) = ((b + (k + 1) : Nat) : Int) := by
        rw [w64_in (by omega) (by omega)]; omega
      rw [← e2]; rfl
  · rintro v ⟨T', ht, hg, rfl⟩
    unfold tEaL_l7_st
    rw [lo_s0, decide_eq_false (show ¬ b + (d - b) < d by omega)]; rfl
  · rintro k v hk ⟨T', ht, hg, rfl⟩
    unfold tEaL_l7_st
    rw [lo_s0]
    refine ⟨fun g => ?_, trivial⟩
    rw [g]
    exact (inn k T' ht (by have := of_decide_eq_true g; omega)).2
include w1 h1 B hl hT in
theorem load_all : (∃ T', T'.length = 64 ∧ (∀ p j, p < 64 → j < 6 → rget T' p j = if p / 8 < d - b ∧ p % 8 < c - a then px w h l (a + p % 8 : Nat) (b + p / 8 : Nat) j else rget T p j) ∧ tEaL_0 T a b c d w h l = T' ∧ tEaL_1 T a b c d w h l = a ∧ tEaL_2 T a b c d w h l = b ∧ tEaL_3 T a b c d w h l = c ∧ tEaL_4 T a b c d w h l = d) ∧ lok tEaL_l7_st 18446744073709551616 (.mk (b : Int) T (a : Int) (b : Int) (c : Int) (d : Int) (w : Int) (h : Int) l) := by
  obtain ⟨⟨v', r, T', ht, hg, rfl⟩, k⟩ := lo_run w1 h1 B hl T hT (v := .mk (b : Int) T (a : Int) (b : Int) (c : Int) (d : Int) (w : Int) (h : Int) l) ⟨T, hT, fun p j hp hj => by rw [if_neg (by omega)], rfl⟩
  refine ⟨⟨T', ht, hg, ?_⟩, k⟩
  unfold tEaL_0 tEaL_1 tEaL_2 tEaL_3 tEaL_4
  rw [B.right, r]
  exact ⟨rfl, rfl, rfl, rfl, rfl⟩
end

/-! Store. -/
section
variable (t : List (List Int)) {l : List (List Int)} (hl : l.length = w * h)

def SI (w h a b c d : Nat) (t l : List (List Int)) (y i : Nat) (v : tEaS_l457_T) : Prop := ∃ l', l'.length = w * h ∧ (∀ p q j, p < w → q < h → j < 6 → rget l' (q * w + p) j = if q = y ∧ a ≤ p ∧ p < a + i then rget t (8 * (y % 8) + (p - a)) j else rget l (q * w + p) j) ∧ v = .mk (y : Int) ((a + i : Nat) : Int) true t (a : Int) (b : Int) (c : Int) (d : Int) (w : Int) (h : Int) l'
theorem si_s0 (y i : Nat) (l' : List (List Int)) : tEaS_l457_s0 (.mk (y : Int) ((a + i : Nat) : Int) true t (a : Int) (b : Int) (c : Int) (d : Int) (w : Int) (h : Int) l') = decide (a + i < c) := by
  unfold tEaS_l457_s0
  exact decide_eq_decide.2 Int.ofNat_lt
theorem ix_inj {p q p' q' : Nat} (hp : p < w) (hp' : p' < w) (e : q * w + p = q' * w + p') : p = p' ∧ q = q' := by
  have m : (q * w + p) % w = (q' * w + p') % w := by rw [e]
  rw [Nat.mul_comm q, Nat.mul_comm q', Nat.mul_add_mod, Nat.mul_add_mod, Nat.mod_eq_of_lt hp, Nat.mod_eq_of_lt hp'] at m
  subst m
  exact ⟨rfl, Nat.eq_of_mul_eq_mul_right (by omega) (show q * w = q' * w by omega)⟩
include w1 h1 B hl in
theorem si_run {y : Nat} (hy : y ≤ 72) {v : tEaS_l457_T} (hv : SI w h a b c d t l y 0 v) : (∃ v', lrun tEaS_l457_st 18446744073709551616 v = some (.e 2, v') ∧ SI w h a b c d t l y (c - a) v') ∧ lok tEaS_l457_st 18446744073709551616 v := by
  have ba := B.a1; have b8 := B.a8; have bc := B.ac; have bc8 := B.c8
  have pl : ∀ i, i < 8 → tPlace_0 ((a + i : Nat) : Int) (y : Int) = ((8 * (y % 8) + i : Nat) : Int) := fun i hi => by
    rw [place_eq (by omega) (by omega)]; omega
  refine inv_run (I := SI w h a b c d t l y) (x := .e 2) (n := c - a) nofun ?_ ?_ ?_ (c - a) 0 v (by omega) hv _ (by omega)
  · rintro i v hi ⟨l', hl', hg, rfl⟩
    unfold tEaS_l457_st
    rw [si_s0, decide_eq_true (show a + i < c by omega)]
    have e1 : IntKind.wrap .i64 (((a + i : Nat) : Int) + 1) = ((a + (i + 1) : Nat) : Int) := by
      rw [w64_in (by omega) (by omega)]; omega
    refine ⟨_, rfl, bif decide (a + i < w ∧ y < h) then l'.set (y * w + (a + i)) [rget t (8 * (y % 8) + i) 0, rget t (8 * (y % 8) + i) 1, rget t (8 * (y % 8) + i) 2, rget t (8 * (y % 8) + i) 3, rget t (8 * (y % 8) + i) 4, rget t (8 * (y % 8) + i) 5] else l', ?_, fun p q j hp hq hj => ?_, ?_⟩
    · cases decide (a + i < w ∧ y < h)
      · exact hl'
      · show (List.set _ _ _).length = _
        rw [List.length_set]; exact hl'
    · by_cases k : a + i < w ∧ y < h
      · rw [decide_eq_true k]
        show rget (l'.set _ _) _ _ = _
        by_cases e : q * w + p = y * w + (a + i)
        · obtain ⟨e1, e2⟩ := ix_inj hp k.1 e
          subst e1 e2
          have hlt : q * w + (a + i) < l'.length := by
            have := Nat.mul_le_mul_right w (show q + 1 ≤ h by omega)
            rw [Nat.succ_mul] at this
            rw [hl', Nat.mul_comm w h]; omega
          rw [rget_lset_eq _ hlt, if_pos (by omega), show a + i - a = i by omega]
          match j, hj with
          | 0, _ => rfl
          | 1, _ => rfl
          | 2, _ => rfl
          | 3, _ => rfl
          | 4, _ => rfl
          | 5, _ => rfl
        · rw [rget_lset_ne _ e, hg p q j hp hq hj]
          have ne : ¬ (q = y ∧ p = a + i) := fun ⟨e1, e2⟩ => e (by rw [e1, e2])
          by_cases z : q = y ∧ a ≤ p ∧ p < a + i
          · rw [if_pos z, if_pos (by omega)]
          · rw [if_neg z, if_neg (by omega)]
      · rw [decide_eq_false k]
        show rget l' _ _ = _
        rw [hg p q j hp hq hj]
        by_cases z : q = y ∧ a ≤ p ∧ p < a + i
        · rw [if_pos z, if_pos (by omega)]
        · rw [if_neg z, if_neg (by omega)]
    · show tEaS_l457_T.mk (y : Int) (IntKind.wrap .i64 (((a + i : Nat) : Int) + 1)) true t (a : Int) (b : Int) (c : Int) (d : Int) (w : Int) (h : Int) (tS1_0 ((a + i : Nat) : Int) (y : Int) (tPlace_0 ((a + i : Nat) : Int) (y : Int)) (w : Int) (h : Int) l' t) = _
      unfold tS1_0
      rw [e1, pl i (by omega), Int.toNat_natCast, set_eq w1 h1 hl', inn_nat]
      by_cases k : a + i < w ∧ y < h
      · rw [decide_eq_true k, ixp_eq w1 h1 k.1 k.2]
      · rw [decide_eq_false k]; rfl
  · rintro v ⟨l', hl', hg, rfl⟩
    unfold tEaS_l457_st
    rw [si_s0, decide_eq_false (show ¬ a + (c - a) < c by omega)]; rfl
  · rintro i v hi ⟨l', hl', hg, rfl⟩
    unfold tEaS_l457_st
    rw [si_s0]
    refine ⟨fun k => ?_, fun _ k => set_ob w1 h1 hl' k, trivial⟩
    have := of_decide_eq_true k
    show 0 ≤ tPlace_0 ((a + i : Nat) : Int) (y : Int) ∧ tPlace_0 ((a + i : Nat) : Int) (y : Int) < ((64 : Nat) : Int)
    rw [pl i (by omega)]; omega

def SO (w h a b c d : Nat) (t l : List (List Int)) (k : Nat) (v : tEaS_l7_T) : Prop := ∃ l', l'.length = w * h ∧ (∀ p q j, p < w → q < h → j < 6 → rget l' (q * w + p) j = if (b ≤ q ∧ q < b + k) ∧ a ≤ p ∧ p < c then rget t (8 * (q - b) + (p - a)) j else rget l (q * w + p) j) ∧ v = .mk ((b + k : Nat) : Int) t (a : Int) (b : Int) (c : Int) (d : Int) (w : Int) (h : Int) l'
theorem so_s0 (k : Nat) (l' : List (List Int)) : tEaS_l7_s0 (.mk ((b + k : Nat) : Int) t (a : Int) (b : Int) (c : Int) (d : Int) (w : Int) (h : Int) l') = decide (b + k < d) := by
  unfold tEaS_l7_s0
  exact decide_eq_decide.2 Int.ofNat_lt
include w1 h1 B hl in
theorem so_run {v : tEaS_l7_T} (hv : SO w h a b c d t l 0 v) : (∃ v', lrun tEaS_l7_st 18446744073709551616 v = some (.e 0, v') ∧ SO w h a b c d t l (d - b) v') ∧ lok tEaS_l7_st 18446744073709551616 v := by
  have bb := B.b1; have b8 := B.b8; have bd := B.bd; have bd8 := B.d8; have bc := B.ac
  have inn : ∀ (k : Nat) (l' : List (List Int)), l'.length = w * h → k < d - b → (∃ v', lrun tEaS_l457_st 18446744073709551616 (.mk ((b + k : Nat) : Int) (a : Int) true t (a : Int) (b : Int) (c : Int) (d : Int) (w : Int) (h : Int) l') = some (.e 2, v') ∧ SI w h a b c d t l' (b + k) (c - a) v') ∧ lok tEaS_l457_st 18446744073709551616 (.mk ((b + k : Nat) : Int) (a : Int) true t (a : Int) (b : Int) (c : Int) (d : Int) (w : Int) (h : Int) l') := fun k l' hl' hk =>
    si_run w1 h1 B t hl' (by omega) ⟨l', hl', fun p q j hp hq hj => by rw [if_neg (by omega)], rfl⟩
  refine inv_run (I := SO w h a b c d t l) (x := .e 0) (n := d - b) nofun ?_ ?_ ?_ (d - b) 0 v (by omega) hv _ (by omega)
  · rintro k v hk ⟨l', hl', hg, rfl⟩
    obtain ⟨⟨v', r, l2, hl2, hg2, rfl⟩, _⟩ := inn k l' hl' hk
    have e1 : tEaS_l7_s1 (.mk ((b + k : Nat) : Int) t (a : Int) (b : Int) (c : Int) (d : Int) (w : Int) (h : Int) l') = some (.e 2, .mk ((b + k : Nat) : Int) ((a + (c - a) : Nat) : Int) true t (a : Int) (b : Int) (c : Int) (d : Int) (w : Int) (h : Int) l2) := by
      unfold tEaS_l7_s1
      rw [so_s0, decide_eq_true (show b + k < d by omega)]
      exact r
    unfold tEaS_l7_st
    rw [so_s0, decide_eq_true (show b + k < d by omega), e1]
    refine ⟨_, rfl, l2, hl2, fun p q j hp hq hj => ?_, ?_⟩
    · rw [hg2 p q j hp hq hj]
      by_cases z : q = b + k ∧ a ≤ p ∧ p < a + (c - a)
      · rw [if_pos z, if_pos (by omega), show (b + k) % 8 = q - b by omega]
      · rw [if_neg z, hg p q j hp hq hj]
        by_cases z2 : (b ≤ q ∧ q < b + k) ∧ a ≤ p ∧ p < c
        · rw [if_pos z2, if_pos (by omega)]
        · rw [if_neg z2, if_neg (by omega)]
    · have e2 : IntKind.wrap .i64 (((b + k : Nat) : Int) + 1) = ((b + (k + 1) : Nat) : Int) := by
        rw [w64_in (by omega) (by omega)]; omega
      rw [← e2]; rfl
  · rintro v ⟨l', hl', hg, rfl⟩
    unfold tEaS_l7_st
    rw [so_s0, decide_eq_false (show ¬ b + (d - b) < d by omega)]; rfl
  · rintro k v hk ⟨l', hl', hg, rfl⟩
    unfold tEaS_l7_st
    rw [so_s0]
    refine ⟨fun g => ?_, trivial⟩
    rw [g]
    exact (inn k l' hl' (by have := of_decide_eq_true g; omega)).2
include w1 h1 B hl in
theorem store_all : (∃ l', l'.length = w * h ∧ (∀ p q j, p < w → q < h → j < 6 → rget l' (q * w + p) j = if (b ≤ q ∧ q < d) ∧ a ≤ p ∧ p < c then rget t (8 * (q - b) + (p - a)) j else rget l (q * w + p) j) ∧ tSt_0 w h t a b c d l = l') ∧ lok tEaS_l7_st 18446744073709551616 (.mk (b : Int) t (a : Int) (b : Int) (c : Int) (d : Int) (w : Int) (h : Int) l) := by
  have bd := B.bd
  obtain ⟨⟨v', r, l', hl', hg, rfl⟩, k⟩ := so_run w1 h1 B t hl (v := .mk (b : Int) t (a : Int) (b : Int) (c : Int) (d : Int) (w : Int) (h : Int) l) ⟨l, hl, fun p q j hp hq hj => by rw [if_neg (by omega)], rfl⟩
  refine ⟨⟨l', hl', fun p q j hp hq hj => by rw [hg p q j hp hq hj, show b + (d - b) = d by omega], ?_⟩, k⟩
  unfold tSt_0 tEaS_0
  rw [B.right, r]; rfl
end
end

end Tile
end Go.Proofs.Ytcdejlgophpdjaa
end

section
namespace Go.Proofs.Ytcdejlgophpdjaa
open Go Go.RowKit Go.Proofs.Ytcdejlgophpdjaa.V
set_option linter.unusedVariables false
set_option linter.unusedSectionVars false

namespace Tile

def tr (w t : Nat) : Nat := t % ((w + 7) / 8)
def tq (w t : Nat) : Nat := t / ((w + 7) / 8)
/-- Which tile a pixel is of. -/
def tix (w p q : Nat) : Nat := (w + 7) / 8 * (q / 8) + p / 8

theorem zero_rows : tLd_s1 = List.replicate 64 [0, 0, 0, 0, 0, 0] := by decide +kernel
theorem zero_get (p j : Nat) : rget tLd_s1 p j = 0 := by
  rw [zero_rows]
  by_cases h : p < 64
  · rw [rget_rep h]
    match j with
    | 0 => rfl
    | 1 => rfl
    | 2 => rfl
    | 3 => rfl
    | 4 => rfl
    | 5 => rfl
    | j + 6 => rfl
  · unfold rget
    rw [List.getD_eq_getElem?_getD (l := List.replicate _ _), List.getElem?_replicate, if_neg h]; rfl

theorem same_all {w h : Nat} (w1 : w ≤ 64) (h1 : h ≤ 64) (ww : 1 ≤ w) {l m : List (List Int)} (hl : l.length = w * h) (hm : m.length = w * h) (e : ∀ p q j, p < w → q < h → j < 6 → rget l (q * w + p) j = rget m (q * w + p) j) : fSame_0 (w : Int) (h : Int) (w : Int) (h : Int) l m = true := by
  have hM : l.length ≤ 4096 := by rw [hl]; exact Nat.mul_le_mul w1 h1
  have z : fSame_s0 (w : Int) (h : Int) (w : Int) (h : Int) = true := by unfold fSame_s0; simp
  unfold fSame_0
  rw [z]
  refine (sEq hM (by rw [hl, hm])).1.2 fun i hi => eq6_iff.2 fun j hj => ?_
  have k := e (i % w) (i / w) j (Nat.mod_lt _ (by omega)) (Nat.div_lt_of_lt_mul (by omega)) hj
  rw [Nat.mul_comm, Nat.div_add_mod] at k
  exact k
theorem same_lok {w h : Nat} (w1 : w ≤ 64) (h1 : h ≤ 64) {l m : List (List Int)} (hl : l.length = w * h) (hm : m.length = w * h) : lok sEqual_l29_st 18446744073709551616 (.mk false (Int.ofNat l.length) 0 l m) :=
  (sEq (by rw [hl]; exact Nat.mul_le_mul w1 h1) (by rw [hl, hm])).2

section
variable {w h : Nat} (ww : 1 ≤ w) (w1 : w ≤ 64) (hh : 1 ≤ h) (h1 : h ≤ 64) {t : Nat} (ht : t < (w + 7) / 8 * ((h + 7) / 8))
include ww w1 h1 ht

theorem tr_lt : tr w t < (w + 7) / 8 := Nat.mod_lt _ (by omega)
theorem tq_lt : tq w t < (h + 7) / 8 := Nat.div_lt_of_lt_mul ht
theorem bx_of : Bx (tr w t * 8) (tq w t * 8) (min w (tr w t * 8 + 8)) (min h (tq w t * 8 + 8)) := by
  have a := tr_lt ww w1 h1 ht
  have b := tq_lt ww w1 h1 ht
  exact ⟨by omega, by omega, by omega, by omega, by omega, by omega, by omega, by omega⟩
theorem boxes : bBox_0 (w : Int) (h : Int) (t : Int) = ((tr w t * 8 : Nat) : Int) ∧ bBox_1 (w : Int) (h : Int) (t : Int) = ((tq w t * 8 : Nat) : Int) ∧ bBox_2 (w : Int) (h : Int) (t : Int) = ((min w (tr w t * 8 + 8) : Nat) : Int) ∧ bBox_3 (w : Int) (h : Int) (t : Int) = ((min h (tq w t * 8 + 8) : Nat) : Int) := by
  have T := tl_of (h := h) ww ht
  exact ⟨box_0 w1 h1 T rfl rfl ht, box_1 w1 h1 T rfl rfl ht, box_2 w1 h1 T rfl rfl ht, box_3 w1 h1 T rfl rfl ht⟩
theorem box_in : bBox_s0 (w : Int) (h : Int) (t : Int) = false := box_s0 w1 h1 (tl_of (h := h) ww ht) rfl rfl ht
theorem tiles_ne : bTiles_0 (w : Int) ≠ 0 := by rw [tiles_eq w1]; omega
theorem box_no : (bBox_0 (w : Int) (h : Int) (t : Int) == 0 && (bBox_1 (w : Int) (h : Int) (t : Int) == 0 && (bBox_2 (w : Int) (h : Int) (t : Int) == 0 && bBox_3 (w : Int) (h : Int) (t : Int) == 0))) = false := by
  have a := tr_lt ww w1 h1 ht
  obtain ⟨_, _, e, _⟩ := boxes ww w1 h1 ht
  have : (bBox_2 (w : Int) (h : Int) (t : Int) == 0) = false := by
    rw [e, beq_eq_false_iff_ne]; omega
  rw [this]
  simp
theorem right_of : tRt_0 (bBox_0 (w : Int) (h : Int) (t : Int)) (bBox_1 (w : Int) (h : Int) (t : Int)) (bBox_2 (w : Int) (h : Int) (t : Int)) (bBox_3 (w : Int) (h : Int) (t : Int)) = true := by
  obtain ⟨a, b, c, d⟩ := boxes ww w1 h1 ht
  rw [a, b, c, d]
  exact (bx_of ww w1 h1 ht).right
theorem pix_tile {p q : Nat} : (q / 8 = tq w t ∧ p / 8 = tr w t) ↔ (p / 8 < (w + 7) / 8 ∧ tix w p q = t) := by
  have T := tl_of (h := h) ww ht
  constructor
  · intro ⟨a, b⟩
    have hp : p / 8 < (w + 7) / 8 := by rw [b]; exact tr_lt ww w1 h1 ht
    exact ⟨hp, ((tl_n T hp).2 ⟨b.symm, a.symm⟩).symm⟩
  · intro ⟨a, b⟩
    have := (tl_n T a (b := q / 8)).1 b.symm
    exact ⟨this.2.symm, this.1.symm⟩

section
variable {l : List (List Int)} (hl : l.length = w * h)
include hl
theorem ld_ok : (∃ T', T'.length = 64 ∧ (∀ a b j, a < 8 → b < 8 → j < 6 → rget T' (8 * b + a) j = if tq w t * 8 + b < h ∧ tr w t * 8 + a < w then rget l ((tq w t * 8 + b) * w + (tr w t * 8 + a)) j else 0) ∧ tLd_0 w h t l = T' ∧ tLd_1 w h t l = ((tr w t * 8 : Nat) : Int) ∧ tLd_2 w h t l = ((tq w t * 8 : Nat) : Int) ∧ tLd_3 w h t l = ((min w (tr w t * 8 + 8) : Nat) : Int) ∧ tLd_4 w h t l = ((min h (tq w t * 8 + 8) : Nat) : Int)) ∧ lok tEaL_l7_st 18446744073709551616 (.mk (bBox_1 (w : Int) (h : Int) (t : Int)) tLd_s1 (bBox_0 (w : Int) (h : Int) (t : Int)) (bBox_1 (w : Int) (h : Int) (t : Int)) (bBox_2 (w : Int) (h : Int) (t : Int)) (bBox_3 (w : Int) (h : Int) (t : Int)) (w : Int) (h : Int) l) := by
  have a0 := tr_lt ww w1 h1 ht
  have b0 := tq_lt ww w1 h1 ht
  obtain ⟨⟨T', c1, c2, c3, c4, c5, c6, c7⟩, k⟩ := load_all w1 h1 (bx_of ww w1 h1 ht) hl tLd_s1 (by rw [zero_rows, List.length_replicate])
  obtain ⟨e0, e1, e2, e3⟩ := boxes ww w1 h1 ht
  unfold tLd_0 tLd_1 tLd_2 tLd_3 tLd_4
  rw [e0, e1, e2, e3]
  refine ⟨⟨T', c1, fun a b j ha hb hj => ?_, c3, c4, c5, c6, c7⟩, k⟩
  rw [c2 _ j (by omega) hj, show (8 * b + a) / 8 = b by omega, show (8 * b + a) % 8 = a by omega, zero_get]
  by_cases z : tq w t * 8 + b < h ∧ tr w t * 8 + a < w
  · rw [if_pos z, if_pos (by omega)]
    unfold px
    rw [inn_nat, decide_eq_true ⟨z.2, z.1⟩, ixp_eq w1 h1 z.2 z.1]; rfl
  · rw [if_neg z, if_neg (by omega)]

theorem st_ok (T : List (List Int)) : (∃ l', l'.length = w * h ∧ (∀ p q j, p < w → q < h → j < 6 → rget l' (q * w + p) j = if tix w p q = t then rget T (8 * (q % 8) + p % 8) j else rget l (q * w + p) j) ∧ tSt_0 w h T ((tr w t * 8 : Nat) : Int) ((tq w t * 8 : Nat) : Int) ((min w (tr w t * 8 + 8) : Nat) : Int) ((min h (tq w t * 8 + 8) : Nat) : Int) l = l') ∧ lok tEaS_l7_st 18446744073709551616 (.mk ((tq w t * 8 : Nat) : Int) T ((tr w t * 8 : Nat) : Int) ((tq w t * 8 : Nat) : Int) ((min w (tr w t * 8 + 8) : Nat) : Int) ((min h (tq w t * 8 + 8) : Nat) : Int) (w : Int) (h : Int) l) := by
  obtain ⟨⟨l', c1, c2, c3⟩, k⟩ := store_all w1 h1 (bx_of ww w1 h1 ht) T hl
  refine ⟨⟨l', c1, fun p q j hp hq hj => ?_, c3⟩, k⟩
  rw [c2 p q j hp hq hj]
  have P := pix_tile ww w1 h1 ht (p := p) (q := q)
  by_cases z : tix w p q = t
  · obtain ⟨z1, z2⟩ := P.2 ⟨by omega, z⟩
    rw [if_pos z, if_pos (by omega), show 8 * (q - tq w t * 8) + (p - tr w t * 8) = 8 * (q % 8) + p % 8 by omega]
  · have z' : ¬ (q / 8 = tq w t ∧ p / 8 = tr w t) := fun e => z (P.1 e).2
    rw [if_neg z, if_neg (by omega)]
end

/-- A tile of one picture put into another one. -/
theorem copy_ok {l m : List (List Int)} (hl : l.length = w * h) (hm : m.length = w * h) : ∃ m', m'.length = w * h ∧ (∀ p q j, p < w → q < h → j < 6 → rget m' (q * w + p) j = if tix w p q = t then rget l (q * w + p) j else rget m (q * w + p) j) ∧ tSt_0 w h (tLd_0 w h t l) (tLd_1 w h t l) (tLd_2 w h t l) (tLd_3 w h t l) (tLd_4 w h t l) m = m' := by
  obtain ⟨⟨T', c1, c2, c3, c4, c5, c6, c7⟩, _⟩ := ld_ok ww w1 h1 ht hl
  obtain ⟨⟨m', d1, d2, d3⟩, _⟩ := st_ok ww w1 h1 ht hm T'
  refine ⟨m', d1, fun p q j hp hq hj => ?_, by rw [c3, c4, c5, c6, c7]; exact d3⟩
  rw [d2 p q j hp hq hj]
  by_cases z : tix w p q = t
  · obtain ⟨z1, z2⟩ := (pix_tile ww w1 h1 ht (p := p) (q := q)).2 ⟨by omega, z⟩
    rw [if_pos z, if_pos z, c2 (p % 8) (q % 8) j (by omega) (by omega) hj, show tq w t * 8 + q % 8 = q by omega, show tr w t * 8 + p % 8 = p by omega, if_pos ⟨hq, hp⟩]
  · rw [if_neg z, if_neg z]
theorem copy_lok {l m : List (List Int)} (hl : l.length = w * h) (hm : m.length = w * h) : lok tEaS_l7_st 18446744073709551616 (.mk (tLd_2 w h t l) (tLd_0 w h t l) (tLd_1 w h t l) (tLd_2 w h t l) (tLd_3 w h t l) (tLd_4 w h t l) (w : Int) (h : Int) m) := by
  obtain ⟨⟨T', c1, c2, c3, c4, c5, c6, c7⟩, _⟩ := ld_ok ww w1 h1 ht hl
  rw [c3, c4, c5, c6, c7]
  exact (st_ok ww w1 h1 ht hm T').2
end

theorem tix_lt {w h p q : Nat} (ww : 1 ≤ w) (hp : p < w) (hq : q < h) : tix w p q < (w + 7) / 8 * ((h + 7) / 8) := by
  unfold tix
  have a : q / 8 + 1 ≤ (h + 7) / 8 := by omega
  have b := Nat.mul_le_mul_left ((w + 7) / 8) a
  rw [Nat.mul_succ] at b
  have c : p / 8 < (w + 7) / 8 := by omega
  omega

/-! The example. -/
theorem aw_s0 : tAw_s0 = List.replicate (3 * 2) [0, 0, 0, 0, 5, 0] := by
  unfold tAw_s0
  rw [new_eq, show cl 3 * cl 2 = 3 * 2 by decide]
theorem aw_w : fNew_s2 3 = ((3 : Nat) : Int) := by decide
theorem aw_h : fNew_s5 2 = ((2 : Nat) : Int) := by decide
theorem awake : tAw_0 = true := by
  have hl : tAw_s0.length = 3 * 2 := by rw [aw_s0, List.length_replicate]
  obtain ⟨⟨T', c1, c2, c3, c4, c5, c6, c7⟩, _⟩ := ld_ok (w := 3) (h := 2) (t := 0) (by omega) (by omega) (by omega) (by decide) hl
  unfold tAw_0
  rw [aw_w, aw_h, show (0 : Int) = ((0 : Nat) : Int) from rfl, c3, c6, c7]
  have e : rget T' 0 (4 % 6) = 5 := by
    have := c2 0 0 4 (by omega) (by omega) (by omega)
    rw [aw_s0] at this
    exact this
  rw [e]; rfl
theorem aw_obs : Alls tAw_o := by
  have hl : tAw_s0.length = 3 * 2 := by rw [aw_s0, List.length_replicate]
  have h := rep_obs (p0 := 0) (p1 := 0) (p2 := 0) (p3 := 0) (p4 := 5) (p5 := 0) (N := 6) (by omega) (by omega) false
  have e6 : fNew_s6 3 2 = ((6 : Nat) : Int) := by decide +kernel
  have e2 : List.length (sRep_s2 ((6 : Nat) : Int)) = 6 := by decide +kernel
  have e3 : sRep_s3 ((6 : Nat) : Int) 0 0 0 0 5 0 = 1 := by decide +kernel
  unfold sRep_o at h
  rw [e2, e3] at h
  obtain ⟨o1, o2, o3, o4, _⟩ := h
  have hk := (ld_ok (w := 3) (h := 2) (t := 0) (by omega) (by omega) (by omega) (by decide) hl).2
  have z := box_no (w := 3) (h := 2) (t := 0) (by omega) (by omega) (by omega) (by decide)
  have tn := tiles_ne (w := 3) (h := 2) (t := 0) (by omega) (by omega) (by omega) (by decide)
  unfold tAw_o tAw_s1 tAw_s2 tAw_s3 tAw_s4 tAw_s5 tAw_s6 tAw_s7
  rw [e6, e3, aw_w, aw_h]
  exact ⟨o1, o2, o3, o4, fun _ => tn, fun _ => tn, z, fun _ => hk, fun _ => tn, fun _ => tn, by decide +kernel, trivial⟩

end Tile
end Go.Proofs.Ytcdejlgophpdjaa
end

section
namespace Go.Proofs.Ytcdejlgophpdjaa
open Go Go.RowKit Go.Proofs.Ytcdejlgophpdjaa.V
set_option linter.unusedVariables false
set_option linter.unusedSectionVars false

namespace Tile
section
variable {w h : Nat} (ww : 1 ≤ w) (w1 : w ≤ 64) (hh : 1 ≤ h) (h1 : h ≤ 64) {t : Nat} (ht : t < (w + 7) / 8 * ((h + 7) / 8))
include ww w1 h1 ht
theorem has_iff {p q : Nat} : tHas_0 (p : Int) (q : Int) ((tr w t * 8 : Nat) : Int) ((tq w t * 8 : Nat) : Int) ((min w (tr w t * 8 + 8) : Nat) : Int) ((min h (tq w t * 8 + 8) : Nat) : Int) = decide (p < w ∧ q < h ∧ tix w p q = t) := by
  have a0 := tr_lt ww w1 h1 ht
  have b0 := tq_lt ww w1 h1 ht
  have P := pix_tile ww w1 h1 ht (p := p) (q := q)
  have e : decide (p < w ∧ q < h ∧ tix w p q = t) = decide (((tr w t * 8 : Nat) : Int) ≤ (p : Int) ∧ (p : Int) < ((min w (tr w t * 8 + 8) : Nat) : Int) ∧ ((tq w t * 8 : Nat) : Int) ≤ (q : Int) ∧ (q : Int) < ((min h (tq w t * 8 + 8) : Nat) : Int)) := by
    refine decide_eq_decide.2 ⟨fun ⟨k1, k2, k3⟩ => ?_, fun ⟨k1, k2, k3, k4⟩ => ?_⟩
    · have := P.2 ⟨by omega, k3⟩
      omega
    · have : q / 8 = tq w t ∧ p / 8 = tr w t := ⟨by omega, by omega⟩
      exact ⟨by omega, by omega, (P.1 this).2⟩
  rw [e]
  unfold tHas_0
  by_cases k1 : ((tr w t * 8 : Nat) : Int) ≤ (p : Int) <;> by_cases k2 : (p : Int) < ((min w (tr w t * 8 + 8) : Nat) : Int) <;> by_cases k3 : ((tq w t * 8 : Nat) : Int) ≤ (q : Int) <;> by_cases k4 : (q : Int) < ((min h (tq w t * 8 + 8) : Nat) : Int) <;> simp only [k1, k2, k3, k4, decide_true, decide_false, cond_true, cond_false, and_true, and_false]
end
theorem tm24 {x : Int} (a : 0 ≤ x) (b : x ≤ 255) : IntKind.wrap .i64 (Int.tmod x 24) = ((x.toNat % 24 : Nat) : Int) := by
  rw [Int.tmod_eq_emod_of_nonneg a, w64_in (by omega) (by omega)]; omega
section
variable {w h : Nat} (ww : 1 ≤ w) (w1 : w ≤ 64) (hh : 1 ≤ h) (h1 : h ≤ 64) {t : Nat} (ht : t < (w + 7) / 8 * ((h + 7) / 8))
include ww w1 h1 ht
/-- A pixel turned in the tile, and in a picture. -/
theorem put_same {l T' : List (List Int)} (hl : l.length = w * h) (c1 : T'.length = 64) (c2 : ∀ a b j, a < 8 → b < 8 → j < 6 → rget T' (8 * b + a) j = if tq w t * 8 + b < h ∧ tr w t * 8 + a < w then rget l ((tq w t * 8 + b) * w + (tr w t * 8 + a)) j else 0) {p q : Nat} (hp : p < w) (hq : q < h) (hx : tix w p q = t) (P0 P1 P2 P3 P4 P5 : Int) :
    fSame_0 (w : Int) (h : Int) (w : Int) (h : Int) (fSet_0 (w : Int) (h : Int) (p : Int) (q : Int) P0 P1 P2 P3 P4 P5 l) (tSt_0 (w : Int) (h : Int) (T'.set (tAtS_0 (p : Int) (q : Int)) [P0, P1, P2, P3, P4, P5]) ((tr w t * 8 : Nat) : Int) ((tq w t * 8 : Nat) : Int) ((min w (tr w t * 8 + 8) : Nat) : Int) ((min h (tq w t * 8 + 8) : Nat) : Int) l) = true := by
  have e : tAtS_0 (p : Int) (q : Int) = 8 * (q % 8) + p % 8 := by
    unfold tAtS_0
    rw [place_eq (by omega) (by omega), Int.toNat_natCast]
  obtain ⟨⟨l', d1, d2, d3⟩, _⟩ := st_ok ww w1 h1 ht hl (T'.set (tAtS_0 (p : Int) (q : Int)) [P0, P1, P2, P3, P4, P5])
  rw [d3, set_eq w1 h1 hl, inn_nat, decide_eq_true ⟨hp, hq⟩, ixp_eq w1 h1 hp hq]
  show fSame_0 (w : Int) (h : Int) (w : Int) (h : Int) (l.set (q * w + p) [P0, P1, P2, P3, P4, P5]) l' = true
  refine same_all w1 h1 ww (by rw [List.length_set]; exact hl) d1 fun p' q' j hp' hq' hj => ?_
  rw [d2 p' q' j hp' hq' hj, e]
  have hlt : q * w + p < l.length := by
    have := Nat.mul_le_mul_right w (show q + 1 ≤ h by omega)
    rw [Nat.succ_mul] at this
    rw [hl, Nat.mul_comm w h]; omega
  by_cases z : q' * w + p' = q * w + p
  · obtain ⟨z1, z2⟩ := ix_inj hp' hp z
    subst z1 z2
    rw [if_pos hx, rget_lset_eq _ hlt, rget_lset_eq _ (by omega)]
  · rw [rget_lset_ne _ z]
    by_cases zt : tix w p' q' = t
    · obtain ⟨k1, k2⟩ := (pix_tile ww w1 h1 ht (p := p') (q := q')).2 ⟨by omega, zt⟩
      obtain ⟨k3, k4⟩ := (pix_tile ww w1 h1 ht (p := p) (q := q)).2 ⟨by omega, hx⟩
      have ne : ¬ (8 * (q' % 8) + p' % 8 = 8 * (q % 8) + p % 8) := fun k => z (by rw [show p' = p by omega, show q' = q by omega])
      rw [if_pos zt, rget_lset_ne _ ne, c2 _ _ j (by omega) (by omega) hj, show tq w t * 8 + q' % 8 = q' by omega, show tr w t * 8 + p' % 8 = p' by omega, if_pos ⟨hq', hp'⟩]
    · rw [if_neg zt]
end
end Tile
open Tile

theorem TileStores_true (x0_0 : Int) (a0_0 : IntKind.min .u8 ≤ x0_0) (b0_0 : x0_0 ≤ IntKind.max .u8) (x0_1 : Int) (a0_1 : IntKind.min .u8 ≤ x0_1) (b0_1 : x0_1 ≤ IntKind.max .u8) (y0_2 : List (List Int)) (p0_2 : ∀ row ∈ y0_2, RowFit [.int .u8, .int .u8, .int .u8, .int .u8, .int .u16, .int .u8] row) (q0_2 : y0_2.length ≤ maxLen) (x1 : Int) (a1 : IntKind.min .u8 ≤ x1) (b1 : x1 ≤ IntKind.max .u8) (x2 : Int) (a2 : IntKind.min .u8 ≤ x2) (b2 : x2 ≤ IntKind.max .u8) (x3 : Int) (a3 : IntKind.min .u8 ≤ x3) (b3 : x3 ≤ IntKind.max .u8) (x4_0 : Int) (a4_0 : IntKind.min .u8 ≤ x4_0) (b4_0 : x4_0 ≤ IntKind.max .u8) (x4_1 : Int) (a4_1 : IntKind.min .u8 ≤ x4_1) (b4_1 : x4_1 ≤ IntKind.max .u8) (x4_2 : Int) (a4_2 : IntKind.min .u8 ≤ x4_2) (b4_2 : x4_2 ≤ IntKind.max .u8) (x4_3 : Int) (a4_3 : IntKind.min .u8 ≤ x4_3) (b4_3 : x4_3 ≤ IntKind.max .u8) (x4_4 : Int) (a4_4 : IntKind.min .u16 ≤ x4_4) (b4_4 : x4_4 ≤ IntKind.max .u16) (x4_5 : Int) (a4_5 : IntKind.min .u8 ≤ x4_5) (b4_5 : x4_5 ≤ IntKind.max .u8) (hq : lTilStA_s6 x0_0 x0_1 (List.length y0_2) x1 x2 x3 y0_2 = true) : lTilStA_0 x0_0 x0_1 (List.length y0_2) x1 x2 x3 x4_0 x4_1 x4_2 x4_3 x4_4 x4_5 y0_2 = true := by
  obtain ⟨l0_0, g0_0⟩ := bd_u8 a0_0 b0_0
  have w0_0 : IntKind.wrap .i64 x0_0 = x0_0 := w64_in (by omega) (by omega)
  obtain ⟨l0_1, g0_1⟩ := bd_u8 a0_1 b0_1
  have w0_1 : IntKind.wrap .i64 x0_1 = x0_1 := w64_in (by omega) (by omega)
  obtain ⟨l1, g1⟩ := bd_u8 a1 b1
  have w1 : IntKind.wrap .i64 x1 = x1 := w64_in (by omega) (by omega)
  obtain ⟨l2, g2⟩ := bd_u8 a2 b2
  have w2 : IntKind.wrap .i64 x2 = x2 := w64_in (by omega) (by omega)
  obtain ⟨l3, g3⟩ := bd_u8 a3 b3
  have w3 : IntKind.wrap .i64 x3 = x3 := w64_in (by omega) (by omega)
  obtain ⟨l4_0, g4_0⟩ := bd_u8 a4_0 b4_0
  have w4_0 : IntKind.wrap .i64 x4_0 = x4_0 := w64_in (by omega) (by omega)
  obtain ⟨l4_1, g4_1⟩ := bd_u8 a4_1 b4_1
  have w4_1 : IntKind.wrap .i64 x4_1 = x4_1 := w64_in (by omega) (by omega)
  obtain ⟨l4_2, g4_2⟩ := bd_u8 a4_2 b4_2
  have w4_2 : IntKind.wrap .i64 x4_2 = x4_2 := w64_in (by omega) (by omega)
  obtain ⟨l4_3, g4_3⟩ := bd_u8 a4_3 b4_3
  have w4_3 : IntKind.wrap .i64 x4_3 = x4_3 := w64_in (by omega) (by omega)
  obtain ⟨l4_4, g4_4⟩ := bd_u16 a4_4 b4_4
  have w4_4 : IntKind.wrap .i64 x4_4 = x4_4 := w64_in (by omega) (by omega)
  obtain ⟨l4_5, g4_5⟩ := bd_u8 a4_5 b4_5
  have w4_5 : IntKind.wrap .i64 x4_5 = x4_5 := w64_in (by omega) (by omega)
  have hd := row_dep p0_2
  have hc := row_col p0_2
  have s0 := sm_0 l0_0 g0_0
  have s1 := sm_1 l0_1 g0_1
  obtain ⟨e0, e1, g⟩ := (sizedC (x1 := fSmF_s0 x0_0) (x2 := fSmF_s1 x0_1) (by omega) (by omega) (by omega) (by omega) x0_0 x0_1 y0_2.length hd hc).1
  have w1 := cl_1 (fSmF_s0 x0_0)
  have w2 := cl_64 (fSmF_s0 x0_0)
  have h1 := cl_1 (fSmF_s1 x0_1)
  have h2 := cl_64 (fSmF_s1 x0_1)
  unfold lTilStA_0 lTilStA_s7
  rw [hq]
  unfold lTilStA_s10 lTilStA_s9 lTilStA_s8
  unfold lTilStA_s6 at hq
  unfold lTilStA_s5 lTilStA_s4 lTilStA_s3 lTilStA_s2 lTilStA_s1 fSmF_0 fSmF_1 fSmF_2 at hq
  unfold lTilStA_s5 lTilStA_s4 lTilStA_s3 lTilStA_s2 lTilStA_s1 fSmF_0 fSmF_1 fSmF_2
  rw [Tile.awake, e0, e1]
  rw [e0, e1] at hq
  generalize fSized_2 x0_0 x0_1 y0_2.length (fSmF_s0 x0_0) (fSmF_s1 x0_1) y0_2 = l at *
  generalize cl (fSmF_s0 x0_0) = w at *
  generalize cl (fSmF_s1 x0_1) = h at *
  have hT : (w + 7) / 8 * ((h + 7) / 8) ≠ 0 := Nat.mul_ne_zero (by omega) (by omega)
  rw [gt_eq w2 h2, tm_nat l1 g1 (by omega), tm24 l2 g2, tm24 l3 g3] at hq ⊢
  have ht : x1.toNat % ((w + 7) / 8 * ((h + 7) / 8)) < (w + 7) / 8 * ((h + 7) / 8) := Nat.mod_lt _ (by omega)
  generalize x1.toNat % ((w + 7) / 8 * ((h + 7) / 8)) = t at *
  generalize x2.toNat % 24 = p at *
  generalize x3.toNat % 24 = q at *
  obtain ⟨⟨T', c1, c2, c3, c4, c5, c6, c7⟩, _⟩ := ld_ok w1 w2 h2 ht g.1.1
  rw [c4, c5, c6, c7, has_iff w1 w2 h2 ht] at hq
  obtain ⟨hp, hq', hx⟩ := of_decide_eq_true hq
  have hc : (sClone_s0 l).length = w * h := g.1.1
  rw [c3, c4, c5, c6, c7]
  have hs := put_same w1 w2 h2 ht g.1.1 c1 c2 hp hq' hx x4_0 x4_1 x4_2 x4_3 (IntKind.wrap .i64 x4_4) x4_5
  cases lTilStA_s0 (List.length y0_2)
  · exact hs
  · rfl

theorem TileStores_obs (x0_0 : Int) (a0_0 : IntKind.min .u8 ≤ x0_0) (b0_0 : x0_0 ≤ IntKind.max .u8) (x0_1 : Int) (a0_1 : IntKind.min .u8 ≤ x0_1) (b0_1 : x0_1 ≤ IntKind.max .u8) (y0_2 : List (List Int)) (p0_2 : ∀ row ∈ y0_2, RowFit [.int .u8, .int .u8, .int .u8, .int .u8, .int .u16, .int .u8] row) (q0_2 : y0_2.length ≤ maxLen) (x1 : Int) (a1 : IntKind.min .u8 ≤ x1) (b1 : x1 ≤ IntKind.max .u8) (x2 : Int) (a2 : IntKind.min .u8 ≤ x2) (b2 : x2 ≤ IntKind.max .u8) (x3 : Int) (a3 : IntKind.min .u8 ≤ x3) (b3 : x3 ≤ IntKind.max .u8) (x4_0 : Int) (a4_0 : IntKind.min .u8 ≤ x4_0) (b4_0 : x4_0 ≤ IntKind.max .u8) (x4_1 : Int) (a4_1 : IntKind.min .u8 ≤ x4_1) (b4_1 : x4_1 ≤ IntKind.max .u8) (x4_2 : Int) (a4_2 : IntKind.min .u8 ≤ x4_2) (b4_2 : x4_2 ≤ IntKind.max .u8) (x4_3 : Int) (a4_3 : IntKind.min .u8 ≤ x4_3) (b4_3 : x4_3 ≤ IntKind.max .u8) (x4_4 : Int) (a4_4 : IntKind.min .u16 ≤ x4_4) (b4_4 : x4_4 ≤ IntKind.max .u16) (x4_5 : Int) (a4_5 : IntKind.min .u8 ≤ x4_5) (b4_5 : x4_5 ≤ IntKind.max .u8) (hq : lTilStA_s6 x0_0 x0_1 (List.length y0_2) x1 x2 x3 y0_2 = true) : Alls (lTilStA_o x0_0 x0_1 (List.length y0_2) x1 x2 x3 x4_0 x4_1 x4_2 x4_3 x4_4 x4_5 y0_2) := by
  obtain ⟨l0_0, g0_0⟩ := bd_u8 a0_0 b0_0
  have w0_0 : IntKind.wrap .i64 x0_0 = x0_0 := w64_in (by omega) (by omega)
  obtain ⟨l0_1, g0_1⟩ := bd_u8 a0_1 b0_1
  have w0_1 : IntKind.wrap .i64 x0_1 = x0_1 := w64_in (by omega) (by omega)
  obtain ⟨l1, g1⟩ := bd_u8 a1 b1
  have w1 : IntKind.wrap .i64 x1 = x1 := w64_in (by omega) (by omega)
  obtain ⟨l2, g2⟩ := bd_u8 a2 b2
  have w2 : IntKind.wrap .i64 x2 = x2 := w64_in (by omega) (by omega)
  obtain ⟨l3, g3⟩ := bd_u8 a3 b3
  have w3 : IntKind.wrap .i64 x3 = x3 := w64_in (by omega) (by omega)
  obtain ⟨l4_0, g4_0⟩ := bd_u8 a4_0 b4_0
  have w4_0 : IntKind.wrap .i64 x4_0 = x4_0 := w64_in (by omega) (by omega)
  obtain ⟨l4_1, g4_1⟩ := bd_u8 a4_1 b4_1
  have w4_1 : IntKind.wrap .i64 x4_1 = x4_1 := w64_in (by omega) (by omega)
  obtain ⟨l4_2, g4_2⟩ := bd_u8 a4_2 b4_2
  have w4_2 : IntKind.wrap .i64 x4_2 = x4_2 := w64_in (by omega) (by omega)
  obtain ⟨l4_3, g4_3⟩ := bd_u8 a4_3 b4_3
  have w4_3 : IntKind.wrap .i64 x4_3 = x4_3 := w64_in (by omega) (by omega)
  obtain ⟨l4_4, g4_4⟩ := bd_u16 a4_4 b4_4
  have w4_4 : IntKind.wrap .i64 x4_4 = x4_4 := w64_in (by omega) (by omega)
  obtain ⟨l4_5, g4_5⟩ := bd_u8 a4_5 b4_5
  have w4_5 : IntKind.wrap .i64 x4_5 = x4_5 := w64_in (by omega) (by omega)
  have hd := row_dep p0_2
  have hc := row_col p0_2
  have s0 := sm_0 l0_0 g0_0
  have s1 := sm_1 l0_1 g0_1
  obtain ⟨⟨e0, e1, g⟩, zk⟩ := sizedC (x1 := fSmF_s0 x0_0) (x2 := fSmF_s1 x0_1) (by omega) (by omega) (by omega) (by omega) x0_0 x0_1 y0_2.length hd hc
  have w1 := cl_1 (fSmF_s0 x0_0)
  have w2 := cl_64 (fSmF_s0 x0_0)
  have h1 := cl_1 (fSmF_s1 x0_1)
  have h2 := cl_64 (fSmF_s1 x0_1)
  have hN := cl_N (fSmF_s0 x0_0) (fSmF_s1 x0_1)
  obtain ⟨q1, q2, q3, q4, _⟩ := rep_obs (p0 := 0) (p1 := 0) (p2 := 0) (p3 := 0) (p4 := 65535) (p5 := 0) hN.1 hN.2 false
  rw [← n_s6] at q1 q2 q3 q4
  obtain ⟨a1', a2', a3', a4', a5', a6', a7', a8', a9', a10', a11', _⟩ := Tile.aw_obs
  refine ⟨a1', a2', a3', a4', a5', a6', a7', a8', a9', a10', a11', fun _ _ => q1, fun _ _ => q2, fun _ _ => q3, fun _ _ => q4, fun _ _ => zk, ?_⟩
  have hn : (!lTilStA_s6 x0_0 x0_1 (List.length y0_2) x1 x2 x3 y0_2) = false := by rw [hq]; rfl
  rw [hn]
  unfold lTilStA_s16 lTilStA_s15 lTilStA_s14 lTilStA_s13 lTilStA_s12 lTilStA_s11 lTilStA_s10 lTilStA_s9 lTilStA_s8
  unfold lTilStA_s6 at hq
  unfold lTilStA_s5 lTilStA_s4 lTilStA_s3 lTilStA_s2 lTilStA_s1 fSmF_0 fSmF_1 fSmF_2 at hq
  unfold lTilStA_s5 lTilStA_s4 lTilStA_s3 lTilStA_s2 lTilStA_s1 fSmF_0 fSmF_1 fSmF_2
  rw [e0, e1]
  rw [e0, e1] at hq
  clear q1 q2 q3 q4 zk
  generalize fSized_2 x0_0 x0_1 y0_2.length (fSmF_s0 x0_0) (fSmF_s1 x0_1) y0_2 = l at *
  generalize cl (fSmF_s0 x0_0) = w at *
  generalize cl (fSmF_s1 x0_1) = h at *
  have hT : (w + 7) / 8 * ((h + 7) / 8) ≠ 0 := Nat.mul_ne_zero (by omega) (by omega)
  have hM := r_len w2 h2 g.1
  have hpos : 1 ≤ w * h := Nat.mul_pos (by omega) (by omega)
  rw [gt_eq w2 h2, tm_nat l1 g1 (by omega), tm24 l2 g2, tm24 l3 g3] at hq ⊢
  have ht : x1.toNat % ((w + 7) / 8 * ((h + 7) / 8)) < (w + 7) / 8 * ((h + 7) / 8) := Nat.mod_lt _ (by omega)
  generalize x1.toNat % ((w + 7) / 8 * ((h + 7) / 8)) = t at *
  have hp24 : x2.toNat % 24 < 24 := Nat.mod_lt _ (by omega)
  have hq24 : x3.toNat % 24 < 24 := Nat.mod_lt _ (by omega)
  generalize x2.toNat % 24 = p at *
  generalize x3.toNat % 24 = q at *
  obtain ⟨⟨T', c1, c2, c3, c4, c5, c6, c7⟩, kl⟩ := ld_ok w1 w2 h2 ht g.1.1
  have tn := tiles_ne w1 w2 h2 ht
  have bn := box_no w1 w2 h2 ht
  have hl := g.1.1
  rw [c3, c4, c5, c6, c7]
  obtain ⟨⟨l', d1, d2, d3⟩, ks⟩ := st_ok w1 w2 h2 ht hl (T'.set (tAtS_0 (p : Int) (q : Int)) [x4_0, x4_1, x4_2, x4_3, IntKind.wrap .i64 x4_4, x4_5])
  have hfs : (fSet_0 (w : Int) (h : Int) (p : Int) (q : Int) x4_0 x4_1 x4_2 x4_3 (IntKind.wrap .i64 x4_4) x4_5 (sClone_s0 l)).length = w * h := by
    show (fSet_0 (w : Int) (h : Int) (p : Int) (q : Int) x4_0 x4_1 x4_2 x4_3 (IntKind.wrap .i64 x4_4) x4_5 l).length = w * h
    rw [set_eq w2 h2 hl]
    cases inn w h (p : Int) (q : Int)
    · exact hl
    · show (List.set _ _ _).length = _
      rw [List.length_set]; exact hl
  have d3' : tSt_0 (w : Int) (h : Int) (T'.set (tAtS_0 (p : Int) (q : Int)) [x4_0, x4_1, x4_2, x4_3, IntKind.wrap .i64 x4_4, x4_5]) ((tr w t * 8 : Nat) : Int) ((tq w t * 8 : Nat) : Int) ((min w (tr w t * 8 + 8) : Nat) : Int) ((min h (tq w t * 8 + 8) : Nat) : Int) (sClone_s0 l) = l' := d3
  rw [d3']
  have pb : 0 ≤ tPlace_0 (p : Int) (q : Int) ∧ tPlace_0 (p : Int) (q : Int) < Int.ofNat 64 := by
    rw [place_eq (by omega) (by omega)]
    show 0 ≤ ((8 * (q % 8) + p % 8 : Nat) : Int) ∧ ((8 * (q % 8) + p % 8 : Nat) : Int) < ((64 : Nat) : Int)
    omega
  have hlc : List.length (sClone_s0 l) * 24 ≤ 70368744177664 := by
    show l.length * 24 ≤ _
    omega
  have hT' : (((w + 7) / 8 * ((h + 7) / 8) : Nat) : Int) ≠ 0 := by omega
  exact ⟨fun _ _ => hT', fun _ _ _ => tn, fun _ _ _ => tn, fun _ _ => bn, fun _ _ _ => kl, fun _ _ => rfl, fun _ _ => pb, fun _ _ _ => by omega, fun _ _ _ => hlc, fun _ _ _ k => set_ob w2 h2 hl k, fun _ _ _ => by omega, fun _ _ _ => hlc, fun _ _ _ _ => ks, fun _ _ _ _ _ => (sEq (by rw [hfs]; exact Nat.mul_le_mul w2 h2) (by rw [d1, hfs])).2, trivial⟩

theorem TileStoresB_true (x0_0 : Int) (a0_0 : IntKind.min .u8 ≤ x0_0) (b0_0 : x0_0 ≤ IntKind.max .u8) (x0_1 : Int) (a0_1 : IntKind.min .u8 ≤ x0_1) (b0_1 : x0_1 ≤ IntKind.max .u8) (y0_2 : List (List Int)) (p0_2 : ∀ row ∈ y0_2, RowFit [.int .u8, .int .u8, .int .u8, .int .u8, .int .u16, .int .u8] row) (q0_2 : y0_2.length ≤ maxLen) (x1 : Int) (a1 : IntKind.min .u8 ≤ x1) (b1 : x1 ≤ IntKind.max .u8) (x2 : Int) (a2 : IntKind.min .u8 ≤ x2) (b2 : x2 ≤ IntKind.max .u8) (x3 : Int) (a3 : IntKind.min .u8 ≤ x3) (b3 : x3 ≤ IntKind.max .u8) (x4_0 : Int) (a4_0 : IntKind.min .u8 ≤ x4_0) (b4_0 : x4_0 ≤ IntKind.max .u8) (x4_1 : Int) (a4_1 : IntKind.min .u8 ≤ x4_1) (b4_1 : x4_1 ≤ IntKind.max .u8) (x4_2 : Int) (a4_2 : IntKind.min .u8 ≤ x4_2) (b4_2 : x4_2 ≤ IntKind.max .u8) (x4_3 : Int) (a4_3 : IntKind.min .u8 ≤ x4_3) (b4_3 : x4_3 ≤ IntKind.max .u8) (x4_4 : Int) (a4_4 : IntKind.min .u16 ≤ x4_4) (b4_4 : x4_4 ≤ IntKind.max .u16) (x4_5 : Int) (a4_5 : IntKind.min .u8 ≤ x4_5) (b4_5 : x4_5 ≤ IntKind.max .u8) (hq : lTilStA_s6 x0_0 x0_1 (List.length y0_2) x1 x2 x3 y0_2 = false) : lTilStB_0 x0_0 x0_1 (List.length y0_2) x1 x2 x3 y0_2 = true := by
  obtain ⟨l0_0, g0_0⟩ := bd_u8 a0_0 b0_0
  have w0_0 : IntKind.wrap .i64 x0_0 = x0_0 := w64_in (by omega) (by omega)
  obtain ⟨l0_1, g0_1⟩ := bd_u8 a0_1 b0_1
  have w0_1 : IntKind.wrap .i64 x0_1 = x0_1 := w64_in (by omega) (by omega)
  obtain ⟨l1, g1⟩ := bd_u8 a1 b1
  have w1 : IntKind.wrap .i64 x1 = x1 := w64_in (by omega) (by omega)
  obtain ⟨l2, g2⟩ := bd_u8 a2 b2
  have w2 : IntKind.wrap .i64 x2 = x2 := w64_in (by omega) (by omega)
  obtain ⟨l3, g3⟩ := bd_u8 a3 b3
  have w3 : IntKind.wrap .i64 x3 = x3 := w64_in (by omega) (by omega)
  obtain ⟨l4_0, g4_0⟩ := bd_u8 a4_0 b4_0
  have w4_0 : IntKind.wrap .i64 x4_0 = x4_0 := w64_in (by omega) (by omega)
  obtain ⟨l4_1, g4_1⟩ := bd_u8 a4_1 b4_1
  have w4_1 : IntKind.wrap .i64 x4_1 = x4_1 := w64_in (by omega) (by omega)
  obtain ⟨l4_2, g4_2⟩ := bd_u8 a4_2 b4_2
  have w4_2 : IntKind.wrap .i64 x4_2 = x4_2 := w64_in (by omega) (by omega)
  obtain ⟨l4_3, g4_3⟩ := bd_u8 a4_3 b4_3
  have w4_3 : IntKind.wrap .i64 x4_3 = x4_3 := w64_in (by omega) (by omega)
  obtain ⟨l4_4, g4_4⟩ := bd_u16 a4_4 b4_4
  have w4_4 : IntKind.wrap .i64 x4_4 = x4_4 := w64_in (by omega) (by omega)
  obtain ⟨l4_5, g4_5⟩ := bd_u8 a4_5 b4_5
  have w4_5 : IntKind.wrap .i64 x4_5 = x4_5 := w64_in (by omega) (by omega)
  have hd := row_dep p0_2
  have hc := row_col p0_2
  have s0 := sm_0 l0_0 g0_0
  have s1 := sm_1 l0_1 g0_1
  obtain ⟨e0, e1, g⟩ := (sizedC (x1 := fSmF_s0 x0_0) (x2 := fSmF_s1 x0_1) (by omega) (by omega) (by omega) (by omega) x0_0 x0_1 y0_2.length hd hc).1
  have w1 := cl_1 (fSmF_s0 x0_0)
  have w2 := cl_64 (fSmF_s0 x0_0)
  have h1 := cl_1 (fSmF_s1 x0_1)
  have h2 := cl_64 (fSmF_s1 x0_1)
  have hq6 : lTilStB_s6 x0_0 x0_1 (List.length y0_2) x1 x2 x3 y0_2 = false := hq
  unfold lTilStB_0 lTilStB_s7
  rw [hq6]
  unfold lTilStB_s9 lTilStB_s8 lTilStB_s5 lTilStB_s4 lTilStB_s3 lTilStB_s2 lTilStB_s1 fSmF_0 fSmF_1 fSmF_2
  rw [Tile.awake, e0, e1]
  generalize fSized_2 x0_0 x0_1 y0_2.length (fSmF_s0 x0_0) (fSmF_s1 x0_1) y0_2 = l at *
  generalize cl (fSmF_s0 x0_0) = w at *
  generalize cl (fSmF_s1 x0_1) = h at *
  have hT : (w + 7) / 8 * ((h + 7) / 8) ≠ 0 := Nat.mul_ne_zero (by omega) (by omega)
  rw [gt_eq w2 h2, tm_nat l1 g1 (by omega)]
  have ht : x1.toNat % ((w + 7) / 8 * ((h + 7) / 8)) < (w + 7) / 8 * ((h + 7) / 8) := Nat.mod_lt _ (by omega)
  generalize x1.toNat % ((w + 7) / 8 * ((h + 7) / 8)) = t at *
  obtain ⟨m', c1, c2, c3⟩ := copy_ok w1 w2 h2 ht g.1.1 g.1.1
  have c3' : tSt_0 (w : Int) (h : Int) (tLd_0 (w : Int) (h : Int) (t : Int) l) (tLd_1 (w : Int) (h : Int) (t : Int) l) (tLd_2 (w : Int) (h : Int) (t : Int) l) (tLd_3 (w : Int) (h : Int) (t : Int) l) (tLd_4 (w : Int) (h : Int) (t : Int) l) (sClone_s0 l) = m' := c3
  have hs : fSame_0 (w : Int) (h : Int) (w : Int) (h : Int) (sClone_s0 l) m' = true := same_all w2 h2 w1 g.1.1 c1 fun p q j hp hq hj => by
    rw [c2 p q j hp hq hj]; split <;> rfl
  cases lTilStB_s0 (List.length y0_2)
  · first | (rw [c3']; exact hs) | (show (bif _ then _ else fSame_0 (w : Int) (h : Int) (w : Int) (h : Int) (sClone_s0 l) _) = true; rw [c3']; exact hs)
  · rfl

theorem TileStoresB_obs (x0_0 : Int) (a0_0 : IntKind.min .u8 ≤ x0_0) (b0_0 : x0_0 ≤ IntKind.max .u8) (x0_1 : Int) (a0_1 : IntKind.min .u8 ≤ x0_1) (b0_1 : x0_1 ≤ IntKind.max .u8) (y0_2 : List (List Int)) (p0_2 : ∀ row ∈ y0_2, RowFit [.int .u8, .int .u8, .int .u8, .int .u8, .int .u16, .int .u8] row) (q0_2 : y0_2.length ≤ maxLen) (x1 : Int) (a1 : IntKind.min .u8 ≤ x1) (b1 : x1 ≤ IntKind.max .u8) (x2 : Int) (a2 : IntKind.min .u8 ≤ x2) (b2 : x2 ≤ IntKind.max .u8) (x3 : Int) (a3 : IntKind.min .u8 ≤ x3) (b3 : x3 ≤ IntKind.max .u8) (x4_0 : Int) (a4_0 : IntKind.min .u8 ≤ x4_0) (b4_0 : x4_0 ≤ IntKind.max .u8) (x4_1 : Int) (a4_1 : IntKind.min .u8 ≤ x4_1) (b4_1 : x4_1 ≤ IntKind.max .u8) (x4_2 : Int) (a4_2 : IntKind.min .u8 ≤ x4_2) (b4_2 : x4_2 ≤ IntKind.max .u8) (x4_3 : Int) (a4_3 : IntKind.min .u8 ≤ x4_3) (b4_3 : x4_3 ≤ IntKind.max .u8) (x4_4 : Int) (a4_4 : IntKind.min .u16 ≤ x4_4) (b4_4 : x4_4 ≤ IntKind.max .u16) (x4_5 : Int) (a4_5 : IntKind.min .u8 ≤ x4_5) (b4_5 : x4_5 ≤ IntKind.max .u8) (hq : lTilStA_s6 x0_0 x0_1 (List.length y0_2) x1 x2 x3 y0_2 = false) : Alls (lTilStB_o x0_0 x0_1 (List.length y0_2) x1 x2 x3 x4_0 x4_1 x4_2 x4_3 x4_4 x4_5 y0_2) := by
  obtain ⟨l0_0, g0_0⟩ := bd_u8 a0_0 b0_0
  have w0_0 : IntKind.wrap .i64 x0_0 = x0_0 := w64_in (by omega) (by omega)
  obtain ⟨l0_1, g0_1⟩ := bd_u8 a0_1 b0_1
  have w0_1 : IntKind.wrap .i64 x0_1 = x0_1 := w64_in (by omega) (by omega)
  obtain ⟨l1, g1⟩ := bd_u8 a1 b1
  have w1 : IntKind.wrap .i64 x1 = x1 := w64_in (by omega) (by omega)
  obtain ⟨l2, g2⟩ := bd_u8 a2 b2
  have w2 : IntKind.wrap .i64 x2 = x2 := w64_in (by omega) (by omega)
  obtain ⟨l3, g3⟩ := bd_u8 a3 b3
  have w3 : IntKind.wrap .i64 x3 = x3 := w64_in (by omega) (by omega)
  obtain ⟨l4_0, g4_0⟩ := bd_u8 a4_0 b4_0
  have w4_0 : IntKind.wrap .i64 x4_0 = x4_0 := w64_in (by omega) (by omega)
  obtain ⟨l4_1, g4_1⟩ := bd_u8 a4_1 b4_1
  have w4_1 : IntKind.wrap .i64 x4_1 = x4_1 := w64_in (by omega) (by omega)
  obtain ⟨l4_2, g4_2⟩ := bd_u8 a4_2 b4_2
  have w4_2 : IntKind.wrap .i64 x4_2 = x4_2 := w64_in (by omega) (by omega)
  obtain ⟨l4_3, g4_3⟩ := bd_u8 a4_3 b4_3
  have w4_3 : IntKind.wrap .i64 x4_3 = x4_3 := w64_in (by omega) (by omega)
  obtain ⟨l4_4, g4_4⟩ := bd_u16 a4_4 b4_4
  have w4_4 : IntKind.wrap .i64 x4_4 = x4_4 := w64_in (by omega) (by omega)
  obtain ⟨l4_5, g4_5⟩ := bd_u8 a4_5 b4_5
  have w4_5 : IntKind.wrap .i64 x4_5 = x4_5 := w64_in (by omega) (by omega)
  have hd := row_dep p0_2
  have hc := row_col p0_2
  have s0 := sm_0 l0_0 g0_0
  have s1 := sm_1 l0_1 g0_1
  obtain ⟨⟨e0, e1, g⟩, zk⟩ := sizedC (x1 := fSmF_s0 x0_0) (x2 := fSmF_s1 x0_1) (by omega) (by omega) (by omega) (by omega) x0_0 x0_1 y0_2.length hd hc
  have w1 := cl_1 (fSmF_s0 x0_0)
  have w2 := cl_64 (fSmF_s0 x0_0)
  have h1 := cl_1 (fSmF_s1 x0_1)
  have h2 := cl_64 (fSmF_s1 x0_1)
  have hN := cl_N (fSmF_s0 x0_0) (fSmF_s1 x0_1)
  obtain ⟨q1, q2, q3, q4, _⟩ := rep_obs (p0 := 0) (p1 := 0) (p2 := 0) (p3 := 0) (p4 := 65535) (p5 := 0) hN.1 hN.2 false
  rw [← n_s6] at q1 q2 q3 q4
  obtain ⟨a1', a2', a3', a4', a5', a6', a7', a8', a9', a10', a11', _⟩ := Tile.aw_obs
  refine ⟨a1', a2', a3', a4', a5', a6', a7', a8', a9', a10', a11', fun _ _ => q1, fun _ _ => q2, fun _ _ => q3, fun _ _ => q4, fun _ _ => zk, ?_⟩
  have hn : (!lTilStB_s6 x0_0 x0_1 (List.length y0_2) x1 x2 x3 y0_2) = true := by
    show (!lTilStA_s6 x0_0 x0_1 (List.length y0_2) x1 x2 x3 y0_2) = true
    rw [hq]; rfl
  rw [hn]
  unfold lTilStB_s13 lTilStB_s12 lTilStB_s11 lTilStB_s10 lTilStB_s9 lTilStB_s8
  unfold lTilStB_s5 lTilStB_s4 lTilStB_s3 lTilStB_s2 lTilStB_s1 fSmF_0 fSmF_1 fSmF_2
  rw [e0, e1]
  clear q1 q2 q3 q4 zk hn hq
  generalize fSized_2 x0_0 x0_1 y0_2.length (fSmF_s0 x0_0) (fSmF_s1 x0_1) y0_2 = l at *
  generalize cl (fSmF_s0 x0_0) = w at *
  generalize cl (fSmF_s1 x0_1) = h at *
  have hT : (w + 7) / 8 * ((h + 7) / 8) ≠ 0 := Nat.mul_ne_zero (by omega) (by omega)
  have hM := r_len w2 h2 g.1
  have hpos : 1 ≤ w * h := Nat.mul_pos (by omega) (by omega)
  rw [gt_eq w2 h2, tm_nat l1 g1 (by omega)]
  have ht : x1.toNat % ((w + 7) / 8 * ((h + 7) / 8)) < (w + 7) / 8 * ((h + 7) / 8) := Nat.mod_lt _ (by omega)
  generalize x1.toNat % ((w + 7) / 8 * ((h + 7) / 8)) = t at *
  have kl := (ld_ok w1 w2 h2 ht g.1.1).2
  have tn := tiles_ne w1 w2 h2 ht
  have bn := box_no w1 w2 h2 ht
  have hl := g.1.1
  obtain ⟨m', c1, c2, c3⟩ := copy_ok w1 w2 h2 ht g.1.1 g.1.1
  have ks := copy_lok w1 w2 h2 ht hl hl
  have hlc : List.length (sClone_s0 l) * 24 ≤ 70368744177664 := by
    show l.length * 24 ≤ _
    omega
  have hT' : (((w + 7) / 8 * ((h + 7) / 8) : Nat) : Int) ≠ 0 := by omega
  have c3' : tSt_0 (w : Int) (h : Int) (tLd_0 (w : Int) (h : Int) (t : Int) l) (tLd_1 (w : Int) (h : Int) (t : Int) l) (tLd_2 (w : Int) (h : Int) (t : Int) l) (tLd_3 (w : Int) (h : Int) (t : Int) l) (tLd_4 (w : Int) (h : Int) (t : Int) l) (sClone_s0 l) = m' := c3
  rw [c3']
  exact ⟨fun _ _ => hT', fun _ _ _ => tn, fun _ _ _ => tn, fun _ _ => bn, fun _ _ _ => kl, fun _ _ => rfl, fun _ _ _ => by omega, fun _ _ _ => hlc, fun _ _ _ => by omega, fun _ _ _ => hlc, fun _ _ _ _ => ks, fun _ _ _ _ _ => (sEq hM (by rw [c1]; exact hl.symm)).2, trivial⟩

end Go.Proofs.Ytcdejlgophpdjaa
end

section
namespace Go.Proofs.Ytcdejlgophpdjaa
open Go Go.RowKit Go.Proofs.Ytcdejlgophpdjaa.V
set_option linter.unusedVariables false
set_option linter.unusedSectionVars false
open Tile
namespace Tile

namespace LA
section
variable {w h : Nat} (ww : 1 ≤ w) (w1 : w ≤ 64) (hh : 1 ≤ h) (h1 : h ≤ 64) {t : Nat} (ht : t < (w + 7) / 8 * ((h + 7) / 8)) {l T' : List (List Int)} (hl : l.length = w * h) (c2 : ∀ a b j, a < 8 → b < 8 → j < 6 → rget T' (8 * b + a) j = if tq w t * 8 + b < h ∧ tr w t * 8 + a < w then rget l ((tq w t * 8 + b) * w + (tr w t * 8 + a)) j else 0)

structure FI (w h t : Nat) (l T' : List (List Int)) (y : Nat) (v : lTilLdA_l262569267_T) : Prop where
  e3 : v.a3 = (y : Int)
  e13 : v.a13 = (w : Int)
  e14 : v.a14 = (h : Int)
  e15 : v.a15 = l
  e16 : v.a16 = T'
  e17 : v.a17 = ((tr w t * 8 : Nat) : Int)
  e18 : v.a18 = ((tq w t * 8 : Nat) : Int)
  e19 : v.a19 = ((min w (tr w t * 8 + 8) : Nat) : Int)
  e20 : v.a20 = ((min h (tq w t * 8 + 8) : Nat) : Int)

def iS (v : lTilLdA_l262569267_T) (x : Nat) : lTilLdA_l262569267_T := { v with a12 := (x : Int) }
theorem is_s0 (v : lTilLdA_l262569267_T) (x : Nat) : lTilLdA_l262569267_s0 (iS v x) = decide (x < 8) := by
  unfold lTilLdA_l262569267_s0
  exact decide_eq_decide.2 (show (x : Int) < 8 ↔ x < 8 by omega)
section
variable {y : Nat} (hy : y < 8) {v : lTilLdA_l262569267_T} (F : FI w h t l T' y v)
include ww w1 h1 ht F hy
theorem is_s1 {x : Nat} (hx : x < 8) : lTilLdA_l262569267_s1 (iS v x) = ((8 * y + x : Nat) : Int) := by
  unfold lTilLdA_l262569267_s1
  show IntKind.wrap .i64 (IntKind.wrap .i64 (8 * v.a3) + (x : Int)) = _
  rw [F.e3, w64_in (n := 8 * (y : Int)) (by omega) (by omega), w64_in (by omega) (by omega)]; omega
theorem is_s2 {x : Nat} (hx : x < 8) : lTilLdA_l262569267_s2 (iS v x) = ((tr w t * 8 + x : Nat) : Int) := by
  have := tr_lt ww w1 h1 ht
  unfold lTilLdA_l262569267_s2
  show IntKind.wrap .i64 (v.a17 + (x : Int)) = _
  rw [F.e17, w64_in (by omega) (by omega)]; omega
theorem is_s3 (x : Nat) : lTilLdA_l262569267_s3 (iS v x) = ((tq w t * 8 + y : Nat) : Int) := by
  have := tq_lt ww w1 h1 ht
  unfold lTilLdA_l262569267_s3
  show IntKind.wrap .i64 (v.a18 + v.a3) = _
  rw [F.e18, F.e3, w64_in (by omega) (by omega)]; omega
theorem is_s4 {x : Nat} (hx : x < 8) : lTilLdA_l262569267_s4 (iS v x) = decide (tr w t * 8 + x < w ∧ tq w t * 8 + y < h) := by
  unfold lTilLdA_l262569267_s4
  rw [is_s2 ww w1 h1 ht hy F hx, is_s3 ww w1 h1 ht hy F x]
  show (bif decide (((tr w t * 8 + x : Nat) : Int) < v.a13) then decide (((tq w t * 8 + y : Nat) : Int) < v.a14) else false) = _
  rw [F.e13, F.e14]
  by_cases a : tr w t * 8 + x < w
  · rw [decide_eq_true (show ((tr w t * 8 + x : Nat) : Int) < (w : Int) by omega)]
    exact decide_eq_decide.2 (by omega)
  · have k : decide (tr w t * 8 + x < w ∧ tq w t * 8 + y < h) = false := decide_eq_false (by omega)
    rw [k, decide_eq_false (show ¬ ((tr w t * 8 + x : Nat) : Int) < (w : Int) by omega)]; rfl
theorem is_s5 {x : Nat} (hx : x < 8) : lTilLdA_l262569267_s5 (iS v x) = false := by
  have a0 := tr_lt ww w1 h1 ht
  have b0 := tq_lt ww w1 h1 ht
  have hh : lTilLdA_l262569267_s5 (iS v x) = (bif !(tHas_0 (lTilLdA_l262569267_s2 (iS v x)) (lTilLdA_l262569267_s3 (iS v x)) v.a17 v.a18 v.a19 v.a20 == lTilLdA_l262569267_s4 (iS v x)) then true else tPlace_0 (lTilLdA_l262569267_s2 (iS v x)) (lTilLdA_l262569267_s3 (iS v x)) != lTilLdA_l262569267_s1 (iS v x)) := rfl
  rw [hh, is_s1 ww w1 h1 ht hy F hx, is_s2 ww w1 h1 ht hy F hx, is_s3 ww w1 h1 ht hy F x, is_s4 ww w1 h1 ht hy F hx, F.e17, F.e18, F.e19, F.e20, has_iff ww w1 h1 ht, place_eq (by omega) (by omega)]
  have e : decide (tr w t * 8 + x < w ∧ tq w t * 8 + y < h ∧ tix w (tr w t * 8 + x) (tq w t * 8 + y) = t) = decide (tr w t * 8 + x < w ∧ tq w t * 8 + y < h) := by
    refine decide_eq_decide.2 ⟨fun k => ⟨k.1, k.2.1⟩, fun k => ⟨k.1, k.2, ?_⟩⟩
    exact ((pix_tile ww w1 h1 ht (p := tr w t * 8 + x) (q := tq w t * 8 + y)).1 ⟨by omega, by omega⟩).2
  rw [e, show 8 * ((tq w t * 8 + y) % 8) + (tr w t * 8 + x) % 8 = 8 * y + x by omega]
  simp
include c2 in
theorem is_s6 {x : Nat} (hx : x < 8) : lTilLdA_l262569267_s6 (iS v x) = false := by
  unfold lTilLdA_l262569267_s6
  rw [is_s4 ww w1 h1 ht hy F hx, is_s5 ww w1 h1 ht hy F hx, is_s1 ww w1 h1 ht hy F hx, Int.toNat_natCast]
  by_cases k : tr w t * 8 + x < w ∧ tq w t * 8 + y < h
  · rw [decide_eq_true k]; rfl
  · rw [decide_eq_false k]
    have z : ∀ j, j < 6 → rget (iS v x).a16 (8 * y + x) j = 0 := fun j hj => by
      show rget v.a16 _ _ = _
      rw [F.e16, c2 x y j hx hy hj, if_neg (by omega)]
    rw [z 0 (by omega), z 1 (by omega), z 2 (by omega), z 3 (by omega), z 4 (by omega), z 5 (by omega)]; rfl
include c2 hl in
theorem is_s7 {x : Nat} (hx : x < 8) : lTilLdA_l262569267_s7 (iS v x) = false := by
  unfold lTilLdA_l262569267_s7
  rw [is_s4 ww w1 h1 ht hy F hx, is_s6 ww w1 h1 ht c2 hy F hx, is_s1 ww w1 h1 ht hy F hx, is_s2 ww w1 h1 ht hy F hx, is_s3 ww w1 h1 ht hy F x, Int.toNat_natCast]
  by_cases k : tr w t * 8 + x < w ∧ tq w t * 8 + y < h
  · rw [decide_eq_true k]
    have f : ∀ j, px w h l ((tr w t * 8 + x : Nat) : Int) ((tq w t * 8 + y : Nat) : Int) j = rget l ((tq w t * 8 + y) * w + (tr w t * 8 + x)) j := fun j => by
      unfold px
      rw [inn_nat, decide_eq_true k, ixp_eq w1 h1 k.1 k.2]; rfl
    have z : ∀ j, j < 6 → rget (iS v x).a16 (8 * y + x) j = rget l ((tq w t * 8 + y) * w + (tr w t * 8 + x)) j := fun j hj => by
      show rget v.a16 _ _ = _
      rw [F.e16, c2 x y j hx hy hj, if_pos ⟨k.2, k.1⟩]
    have g13 : (iS v x).a13 = (w : Int) := F.e13
    have g14 : (iS v x).a14 = (h : Int) := F.e14
    have g15 : (iS v x).a15 = l := F.e15
    rw [g13, g14, g15, px_0 w1 h1 hl, px_1 w1 h1 hl, px_2 w1 h1 hl, px_3 w1 h1 hl, px_4 w1 h1 hl, px_5 w1 h1 hl, f, f, f, f, f, f, z 0 (by omega), z 1 (by omega), z 2 (by omega), z 3 (by omega), z 4 (by omega), z 5 (by omega)]
    simp
  · rw [decide_eq_false k]; rfl
include c2 hl in
theorem is_step (x : Nat) (hx : x < 8) : pick1 (lTilLdA_l262569267_st (iS v x)).2 = some (.n, iS v (x + 1)) := by
  unfold lTilLdA_l262569267_st
  rw [is_s0, decide_eq_true hx, is_s7 ww w1 h1 ht hl c2 hy F hx]
  have e : IntKind.wrap .i64 ((iS v x).a12 + 1) = ((x + 1 : Nat) : Int) := by
    show IntKind.wrap .i64 ((x : Int) + 1) = _
    rw [w64_in (by omega) (by omega)]; omega
  rw [e]; rfl
omit ww w1 h1 ht F hy in
theorem is_end : pick1 (lTilLdA_l262569267_st (iS v 8)).2 = some (.e 4, iS v 8) := by
  unfold lTilLdA_l262569267_st
  rw [is_s0, decide_eq_false (Nat.lt_irrefl _)]; rfl
include hl in
theorem is_obs (x : Nat) : Alls (lTilLdA_l262569267_st (iS v x)).1 := by
  unfold lTilLdA_l262569267_st
  rw [is_s0]
  refine ⟨fun k => ?_, fun k _ => ?_, trivial⟩
  · have := of_decide_eq_true k
    rw [is_s1 ww w1 h1 ht hy F this]
    show 0 ≤ ((8 * y + x : Nat) : Int) ∧ ((8 * y + x : Nat) : Int) < ((64 : Nat) : Int)
    omega
  · have g13 : (iS v x).a13 = (w : Int) := F.e13
    have g14 : (iS v x).a14 = (h : Int) := F.e14
    have g15 : (iS v x).a15 = l := F.e15
    rw [g13, g14, g15]
    exact fun k => at_ob w1 h1 hl k
include c2 hl in
theorem is_run (e : v.a12 = 0) : lrun lTilLdA_l262569267_st 18446744073709551616 v = some (.e 4, iS v 8) ∧ lok lTilLdA_l262569267_st 18446744073709551616 v := by
  have e0 : v = iS v 0 := by
    cases v
    simp only at e
    subst e
    rfl
  constructor
  · have : lrun lTilLdA_l262569267_st 18446744073709551616 (iS v 0) = some (.e 4, iS v 8) := lx_run (s := iS v) (is_step ww w1 h1 ht hl c2 hy F) is_end nofun (by omega)
    rw [← e0] at this; exact this
  · have : lok lTilLdA_l262569267_st 18446744073709551616 (iS v 0) := lx_lok (s := iS v) (is_step ww w1 h1 ht hl c2 hy F) is_end nofun (fun x _ => is_obs ww w1 h1 ht hl hy F x) (by omega)
    rw [← e0] at this; exact this
end

structure FO (w h t : Nat) (l T' : List (List Int)) (v : lTilLdA_l1025661_T) : Prop where
  e10 : v.a10 = (w : Int)
  e11 : v.a11 = (h : Int)
  e12 : v.a12 = l
  e13 : v.a13 = T'
  e14 : v.a14 = ((tr w t * 8 : Nat) : Int)
  e15 : v.a15 = ((tq w t * 8 : Nat) : Int)
  e16 : v.a16 = ((min w (tr w t * 8 + 8) : Nat) : Int)
  e17 : v.a17 = ((min h (tq w t * 8 + 8) : Nat) : Int)
def oS (v : lTilLdA_l1025661_T) (y : Nat) : lTilLdA_l1025661_T := { v with a9 := (y : Int) }
theorem os_s0 (v : lTilLdA_l1025661_T) (y : Nat) : lTilLdA_l1025661_s0 (oS v y) = decide (y < 8) := by
  unfold lTilLdA_l1025661_s0
  exact decide_eq_decide.2 (show (y : Int) < 8 ↔ y < 8 by omega)
def oI (v : lTilLdA_l1025661_T) (y : Nat) : lTilLdA_l262569267_T := .mk v.a0 v.a1 v.a2 (y : Int) v.a3 v.a4 v.a5 v.a6 v.a7 v.a8 (y : Int) true 0 v.a10 v.a11 v.a12 v.a13 v.a14 v.a15 v.a16 v.a17 v.a18 v.a19
section
variable {v : lTilLdA_l1025661_T} (F : FO w h t l T' v)
include ww w1 h1 ht F hl c2
theorem oi_run (y : Nat) (hy : y < 8) : lrun lTilLdA_l262569267_st 18446744073709551616 (oI v y) = some (.e 4, iS (oI v y) 8) ∧ lok lTilLdA_l262569267_st 18446744073709551616 (oI v y) :=
  is_run ww w1 h1 ht hl c2 hy ⟨rfl, F.e10, F.e11, F.e12, F.e13, F.e14, F.e15, F.e16, F.e17⟩ rfl
theorem os_s1 (y : Nat) (hy : y < 8) : lTilLdA_l1025661_s1 (oS v y) = some (.e 4, iS (oI v y) 8) := by
  unfold lTilLdA_l1025661_s1
  rw [os_s0, decide_eq_true hy]
  exact (oi_run ww w1 h1 ht hl c2 F y hy).1
theorem os_step (y : Nat) (hy : y < 8) : pick1 (lTilLdA_l1025661_st (oS v y)).2 = some (.n, oS v (y + 1)) := by
  unfold lTilLdA_l1025661_st
  rw [os_s1 ww w1 h1 ht hl c2 F y hy, os_s0, decide_eq_true hy]
  have e : IntKind.wrap .i64 ((y : Int) + 1) = ((y + 1 : Nat) : Int) := by
    rw [w64_in (by omega) (by omega)]; omega
  have e' : IntKind.wrap .i64 (lTilLdA_l262569267_T.a10 (V.valOf (some (X.e 4, iS (oI v y) 8))) + 1) = ((y + 1 : Nat) : Int) := e
  rw [e']; rfl
omit ww w1 h1 ht F hl c2 in
theorem os_end : pick1 (lTilLdA_l1025661_st (oS v 8)).2 = some (.e 2, oS v 8) := by
  unfold lTilLdA_l1025661_st
  rw [os_s0, decide_eq_false (Nat.lt_irrefl _)]; rfl
theorem os_obs (y : Nat) : Alls (lTilLdA_l1025661_st (oS v y)).1 := by
  unfold lTilLdA_l1025661_st
  refine ⟨fun k => ?_, trivial⟩
  rw [os_s0] at k
  rw [os_s0, k]
  exact (oi_run ww w1 h1 ht hl c2 F y (of_decide_eq_true k)).2
theorem os_run (e : v.a9 = 0) : lrun lTilLdA_l1025661_st 18446744073709551616 v = some (.e 2, oS v 8) ∧ lok lTilLdA_l1025661_st 18446744073709551616 v := by
  have e0 : v = oS v 0 := by
    cases v
    simp only at e
    subst e
    rfl
  constructor
  · have : lrun lTilLdA_l1025661_st 18446744073709551616 (oS v 0) = some (.e 2, oS v 8) := lx_run (s := oS v) (os_step ww w1 h1 ht hl c2 F) os_end nofun (by omega)
    rw [← e0] at this; exact this
  · have : lok lTilLdA_l1025661_st 18446744073709551616 (oS v 0) := lx_lok (s := oS v) (os_step ww w1 h1 ht hl c2 F) os_end nofun (fun y _ => os_obs ww w1 h1 ht hl c2 F y) (by omega)
    rw [← e0] at this; exact this
end
end
end LA

namespace LB
section
variable {w h : Nat} (ww : 1 ≤ w) (w1 : w ≤ 64) (hh : 1 ≤ h) (h1 : h ≤ 64) {t : Nat} (ht : t < (w + 7) / 8 * ((h + 7) / 8)) {l T' : List (List Int)} (hl : l.length = w * h) (c2 : ∀ a b j, a < 8 → b < 8 → j < 6 → rget T' (8 * b + a) j = if tq w t * 8 + b < h ∧ tr w t * 8 + a < w then rget l ((tq w t * 8 + b) * w + (tr w t * 8 + a)) j else 0)

structure FI (w h t : Nat) (l T' : List (List Int)) (y : Nat) (v : lTilLdB_l262569267_T) : Prop where
  e3 : v.a3 = (y : Int)
  e13 : v.a13 = (w : Int)
  e14 : v.a14 = (h : Int)
  e15 : v.a15 = l
  e16 : v.a16 = T'
  e17 : v.a17 = ((tr w t * 8 : Nat) : Int)
  e18 : v.a18 = ((tq w t * 8 : Nat) : Int)
  e19 : v.a19 = ((min w (tr w t * 8 + 8) : Nat) : Int)
  e20 : v.a20 = ((min h (tq w t * 8 + 8) : Nat) : Int)

def iS (v : lTilLdB_l262569267_T) (x : Nat) : lTilLdB_l262569267_T := { v with a12 := (x : Int) }
theorem is_s0 (v : lTilLdB_l262569267_T) (x : Nat) : lTilLdB_l262569267_s0 (iS v x) = decide (x < 8) := by
  unfold lTilLdB_l262569267_s0
  exact decide_eq_decide.2 (show (x : Int) < 8 ↔ x < 8 by omega)
section
variable {y : Nat} (hy : y < 8) {v : lTilLdB_l262569267_T} (F : FI w h t l T' y v)
include ww w1 h1 ht F hy
theorem is_s1 {x : Nat} (hx : x < 8) : lTilLdB_l262569267_s1 (iS v x) = ((8 * y + x : Nat) : Int) := by
  unfold lTilLdB_l262569267_s1
  show IntKind.wrap .i64 (IntKind.wrap .i64 (8 * v.a3) + (x : Int)) = _
  rw [F.e3, w64_in (n := 8 * (y : Int)) (by omega) (by omega), w64_in (by omega) (by omega)]; omega
theorem is_s2 {x : Nat} (hx : x < 8) : lTilLdB_l262569267_s2 (iS v x) = ((tr w t * 8 + x : Nat) : Int) := by
  have := tr_lt ww w1 h1 ht
  unfold lTilLdB_l262569267_s2
  show IntKind.wrap .i64 (v.a17 + (x : Int)) = _
  rw [F.e17, w64_in (by omega) (by omega)]; omega
theorem is_s3 (x : Nat) : lTilLdB_l262569267_s3 (iS v x) = ((tq w t * 8 + y : Nat) : Int) := by
  have := tq_lt ww w1 h1 ht
  unfold lTilLdB_l262569267_s3
  show IntKind.wrap .i64 (v.a18 + v.a3) = _
  rw [F.e18, F.e3, w64_in (by omega) (by omega)]; omega
theorem is_s4 {x : Nat} (hx : x < 8) : lTilLdB_l262569267_s4 (iS v x) = decide (tr w t * 8 + x < w ∧ tq w t * 8 + y < h) := by
  unfold lTilLdB_l262569267_s4
  rw [is_s2 ww w1 h1 ht hy F hx, is_s3 ww w1 h1 ht hy F x]
  show (bif decide (((tr w t * 8 + x : Nat) : Int) < v.a13) then decide (((tq w t * 8 + y : Nat) : Int) < v.a14) else false) = _
  rw [F.e13, F.e14]
  by_cases a : tr w t * 8 + x < w
  · rw [decide_eq_true (show ((tr w t * 8 + x : Nat) : Int) < (w : Int) by omega)]
    exact decide_eq_decide.2 (by omega)
  · have k : decide (tr w t * 8 + x < w ∧ tq w t * 8 + y < h) = false := decide_eq_false (by omega)
    rw [k, decide_eq_false (show ¬ ((tr w t * 8 + x : Nat) : Int) < (w : Int) by omega)]; rfl
theorem is_s5 {x : Nat} (hx : x < 8) : lTilLdB_l262569267_s5 (iS v x) = false := by
  have a0 := tr_lt ww w1 h1 ht
  have b0 := tq_lt ww w1 h1 ht
  have hh : lTilLdB_l262569267_s5 (iS v x) = (bif !(tHas_0 (lTilLdB_l262569267_s2 (iS v x)) (lTilLdB_l262569267_s3 (iS v x)) v.a17 v.a18 v.a19 v.a20 == lTilLdB_l262569267_s4 (iS v x)) then true else tPlace_0 (lTilLdB_l262569267_s2 (iS v x)) (lTilLdB_l262569267_s3 (iS v x)) != lTilLdB_l262569267_s1 (iS v x)) := rfl
  rw [hh, is_s1 ww w1 h1 ht hy F hx, is_s2 ww w1 h1 ht hy F hx, is_s3 ww w1 h1 ht hy F x, is_s4 ww w1 h1 ht hy F hx, F.e17, F.e18, F.e19, F.e20, has_iff ww w1 h1 ht, place_eq (by omega) (by omega)]
  have e : decide (tr w t * 8 + x < w ∧ tq w t * 8 + y < h ∧ tix w (tr w t * 8 + x) (tq w t * 8 + y) = t) = decide (tr w t * 8 + x < w ∧ tq w t * 8 + y < h) := by
    refine decide_eq_decide.2 ⟨fun k => ⟨k.1, k.2.1⟩, fun k => ⟨k.1, k.2, ?_⟩⟩
    exact ((pix_tile ww w1 h1 ht (p := tr w t * 8 + x) (q := tq w t * 8 + y)).1 ⟨by omega, by omega⟩).2
  rw [e, show 8 * ((tq w t * 8 + y) % 8) + (tr w t * 8 + x) % 8 = 8 * y + x by omega]
  simp
include c2 in
theorem is_s6 {x : Nat} (hx : x < 8) : lTilLdB_l262569267_s6 (iS v x) = false := by
  unfold lTilLdB_l262569267_s6
  rw [is_s4 ww w1 h1 ht hy F hx, is_s5 ww w1 h1 ht hy F hx, is_s1 ww w1 h1 ht hy F hx, Int.toNat_natCast]
  by_cases k : tr w t * 8 + x < w ∧ tq w t * 8 + y < h
  · rw [decide_eq_true k]; rfl
  · rw [decide_eq_false k]
    have z : ∀ j, j < 6 → rget (iS v x).a16 (8 * y + x) j = 0 := fun j hj => by
      show rget v.a16 _ _ = _
      rw [F.e16, c2 x y j hx hy hj, if_neg (by omega)]
    rw [z 0 (by omega), z 1 (by omega), z 2 (by omega), z 3 (by omega), z 4 (by omega), z 5 (by omega)]; rfl
include c2 hl in
theorem is_s7 {x : Nat} (hx : x < 8) : lTilLdB_l262569267_s7 (iS v x) = false := by
  unfold lTilLdB_l262569267_s7
  rw [is_s4 ww w1 h1 ht hy F hx, is_s6 ww w1 h1 ht c2 hy F hx, is_s1 ww w1 h1 ht hy F hx, is_s2 ww w1 h1 ht hy F hx, is_s3 ww w1 h1 ht hy F x, Int.toNat_natCast]
  by_cases k : tr w t * 8 + x < w ∧ tq w t * 8 + y < h
  · rw [decide_eq_true k]
    have f : ∀ j, px w h l ((tr w t * 8 + x : Nat) : Int) ((tq w t * 8 + y : Nat) : Int) j = rget l ((tq w t * 8 + y) * w + (tr w t * 8 + x)) j := fun j => by
      unfold px
      rw [inn_nat, decide_eq_true k, ixp_eq w1 h1 k.1 k.2]; rfl
    have z : ∀ j, j < 6 → rget (iS v x).a16 (8 * y + x) j = rget l ((tq w t * 8 + y) * w + (tr w t * 8 + x)) j := fun j hj => by
      show rget v.a16 _ _ = _
      rw [F.e16, c2 x y j hx hy hj, if_pos ⟨k.2, k.1⟩]
    have g13 : (iS v x).a13 = (w : Int) := F.e13
    have g14 : (iS v x).a14 = (h : Int) := F.e14
    have g15 : (iS v x).a15 = l := F.e15
    rw [g13, g14, g15, px_0 w1 h1 hl, px_1 w1 h1 hl, px_2 w1 h1 hl, px_3 w1 h1 hl, px_4 w1 h1 hl, px_5 w1 h1 hl, f, f, f, f, f, f, z 0 (by omega), z 1 (by omega), z 2 (by omega), z 3 (by omega), z 4 (by omega), z 5 (by omega)]
    simp
  · rw [decide_eq_false k]; rfl
include c2 hl in
theorem is_step (x : Nat) (hx : x < 8) : pick1 (lTilLdB_l262569267_st (iS v x)).2 = some (.n, iS v (x + 1)) := by
  unfold lTilLdB_l262569267_st
  rw [is_s0, decide_eq_true hx, is_s7 ww w1 h1 ht hl c2 hy F hx]
  have e : IntKind.wrap .i64 ((iS v x).a12 + 1) = ((x + 1 : Nat) : Int) := by
    show IntKind.wrap .i64 ((x : Int) + 1) = _
    rw [w64_in (by omega) (by omega)]; omega
  rw [e]; rfl
omit ww w1 h1 ht F hy in
theorem is_end : pick1 (lTilLdB_l262569267_st (iS v 8)).2 = some (.e 4, iS v 8) := by
  unfold lTilLdB_l262569267_st
  rw [is_s0, decide_eq_false (Nat.lt_irrefl _)]; rfl
include hl in
theorem is_obs (x : Nat) : Alls (lTilLdB_l262569267_st (iS v x)).1 := by
  unfold lTilLdB_l262569267_st
  rw [is_s0]
  refine ⟨fun k => ?_, fun k _ => ?_, trivial⟩
  · have := of_decide_eq_true k
    rw [is_s1 ww w1 h1 ht hy F this]
    show 0 ≤ ((8 * y + x : Nat) : Int) ∧ ((8 * y + x : Nat) : Int) < ((64 : Nat) : Int)
    omega
  · have g13 : (iS v x).a13 = (w : Int) := F.e13
    have g14 : (iS v x).a14 = (h : Int) := F.e14
    have g15 : (iS v x).a15 = l := F.e15
    rw [g13, g14, g15]
    exact fun k => at_ob w1 h1 hl k
include c2 hl in
theorem is_run (e : v.a12 = 0) : lrun lTilLdB_l262569267_st 18446744073709551616 v = some (.e 4, iS v 8) ∧ lok lTilLdB_l262569267_st 18446744073709551616 v := by
  have e0 : v = iS v 0 := by
    cases v
    simp only at e
    subst e
    rfl
  constructor
  · have : lrun lTilLdB_l262569267_st 18446744073709551616 (iS v 0) = some (.e 4, iS v 8) := lx_run (s := iS v) (is_step ww w1 h1 ht hl c2 hy F) is_end nofun (by omega)
    rw [← e0] at this; exact this
  · have : lok lTilLdB_l262569267_st 18446744073709551616 (iS v 0) := lx_lok (s := iS v) (is_step ww w1 h1 ht hl c2 hy F) is_end nofun (fun x _ => is_obs ww w1 h1 ht hl hy F x) (by omega)
    rw [← e0] at this; exact this
end

structure FO (w h t : Nat) (l T' : List (List Int)) (v : lTilLdB_l1025661_T) : Prop where
  e10 : v.a10 = (w : Int)
  e11 : v.a11 = (h : Int)
  e12 : v.a12 = l
  e13 : v.a13 = T'
  e14 : v.a14 = ((tr w t * 8 : Nat) : Int)
  e15 : v.a15 = ((tq w t * 8 : Nat) : Int)
  e16 : v.a16 = ((min w (tr w t * 8 + 8) : Nat) : Int)
  e17 : v.a17 = ((min h (tq w t * 8 + 8) : Nat) : Int)
def oS (v : lTilLdB_l1025661_T) (y : Nat) : lTilLdB_l1025661_T := { v with a9 := (y : Int) }
theorem os_s0 (v : lTilLdB_l1025661_T) (y : Nat) : lTilLdB_l1025661_s0 (oS v y) = decide (y < 8) := by
  unfold lTilLdB_l1025661_s0
  exact decide_eq_decide.2 (show (y : Int) < 8 ↔ y < 8 by omega)
def oI (v : lTilLdB_l1025661_T) (y : Nat) : lTilLdB_l262569267_T := .mk v.a0 v.a1 v.a2 (y : Int) v.a3 v.a4 v.a5 v.a6 v.a7 v.a8 (y : Int) true 0 v.a10 v.a11 v.a12 v.a13 v.a14 v.a15 v.a16 v.a17 v.a18
section
variable {v : lTilLdB_l1025661_T} (F : FO w h t l T' v)
include ww w1 h1 ht F hl c2
theorem oi_run (y : Nat) (hy : y < 8) : lrun lTilLdB_l262569267_st 18446744073709551616 (oI v y) = some (.e 4, iS (oI v y) 8) ∧ lok lTilLdB_l262569267_st 18446744073709551616 (oI v y) :=
  is_run ww w1 h1 ht hl c2 hy ⟨rfl, F.e10, F.e11, F.e12, F.e13, F.e14, F.e15, F.e16, F.e17⟩ rfl
theorem os_s1 (y : Nat) (hy : y < 8) : lTilLdB_l1025661_s1 (oS v y) = some (.e 4, iS (oI v y) 8) := by
  unfold lTilLdB_l1025661_s1
  rw [os_s0, decide_eq_true hy]
  exact (oi_run ww w1 h1 ht hl c2 F y hy).1
theorem os_step (y : Nat) (hy : y < 8) : pick1 (lTilLdB_l1025661_st (oS v y)).2 = some (.n, oS v (y + 1)) := by
  unfold lTilLdB_l1025661_st
  rw [os_s1 ww w1 h1 ht hl c2 F y hy, os_s0, decide_eq_true hy]
  have e : IntKind.wrap .i64 ((y : Int) + 1) = ((y + 1 : Nat) : Int) := by
    rw [w64_in (by omega) (by omega)]; omega
  have e' : IntKind.wrap .i64 (lTilLdB_l262569267_T.a10 (V.valOf (some (X.e 4, iS (oI v y) 8))) + 1) = ((y + 1 : Nat) : Int) := e
  rw [e']; rfl
omit ww w1 h1 ht F hl c2 in
theorem os_end : pick1 (lTilLdB_l1025661_st (oS v 8)).2 = some (.e 2, oS v 8) := by
  unfold lTilLdB_l1025661_st
  rw [os_s0, decide_eq_false (Nat.lt_irrefl _)]; rfl
theorem os_obs (y : Nat) : Alls (lTilLdB_l1025661_st (oS v y)).1 := by
  unfold lTilLdB_l1025661_st
  refine ⟨fun k => ?_, trivial⟩
  rw [os_s0] at k
  rw [os_s0, k]
  exact (oi_run ww w1 h1 ht hl c2 F y (of_decide_eq_true k)).2
theorem os_run (e : v.a9 = 0) : lrun lTilLdB_l1025661_st 18446744073709551616 v = some (.e 2, oS v 8) ∧ lok lTilLdB_l1025661_st 18446744073709551616 v := by
  have e0 : v = oS v 0 := by
    cases v
    simp only at e
    subst e
    rfl
  constructor
  · have : lrun lTilLdB_l1025661_st 18446744073709551616 (oS v 0) = some (.e 2, oS v 8) := lx_run (s := oS v) (os_step ww w1 h1 ht hl c2 F) os_end nofun (by omega)
    rw [← e0] at this; exact this
  · have : lok lTilLdB_l1025661_st 18446744073709551616 (oS v 0) := lx_lok (s := oS v) (os_step ww w1 h1 ht hl c2 F) os_end nofun (fun y _ => os_obs ww w1 h1 ht hl c2 F y) (by omega)
    rw [← e0] at this; exact this
end
end
end LB

section
variable {w h : Nat} (ww : 1 ≤ w) (w1 : w ≤ 64) (hh : 1 ≤ h) (h1 : h ≤ 64) {l : List (List Int)} (hl : l.length = w * h)
include ww w1 h1
/-- What is told of the tile is what is asked for. -/
theorem ld_facts (hl : l.length = w * h) {t : Nat} (ht : t < (w + 7) / 8 * ((h + 7) / 8)) : (tLd_1 w h t l == bBox_0 w h t && (tLd_2 w h t l == bBox_1 w h t && (tLd_3 w h t l == bBox_2 w h t && tLd_4 w h t l == bBox_3 w h t))) = true ∧ tRt_0 (tLd_1 w h t l) (tLd_2 w h t l) (tLd_3 w h t l) (tLd_4 w h t l) = true := by
  obtain ⟨⟨T', c1, c2, c3, c4, c5, c6, c7⟩, _⟩ := ld_ok ww w1 h1 ht hl
  obtain ⟨e0, e1, e2, e3⟩ := boxes ww w1 h1 ht
  rw [c4, c5, c6, c7, e0, e1, e2, e3]
  exact ⟨by simp, (bx_of ww w1 h1 ht).right⟩
theorem back_same (hl : l.length = w * h) {t : Nat} (ht : t < (w + 7) / 8 * ((h + 7) / 8)) : ∃ m, tSt_0 w h (tLd_0 w h t l) (tLd_1 w h t l) (tLd_2 w h t l) (tLd_3 w h t l) (tLd_4 w h t l) l = m ∧ m.length = w * h ∧ fSame_0 (w : Int) (h : Int) (w : Int) (h : Int) l m = true := by
  obtain ⟨m, c1, c2, c3⟩ := copy_ok ww w1 h1 ht hl hl
  exact ⟨m, c3, c1, same_all w1 h1 ww hl c1 fun p q j hp hq hj => by rw [c2 p q j hp hq hj]; split <;> rfl⟩
end

namespace TL
section
variable {w h : Nat} (ww : 1 ≤ w) (w1 : w ≤ 64) (hh : 1 ≤ h) (h1 : h ≤ 64) {l : List (List Int)} (hl : l.length = w * h) {t u : Nat} (ht : t < (w + 7) / 8 * ((h + 7) / 8)) (hu : u < (w + 7) / 8 * ((h + 7) / 8))
def oV (w h : Nat) (l : List (List Int)) (t u k s : Nat) : lTilLdB_l1025661_T := .mk false (s : Int) true 2 (k : Int) true false false false 0 (w : Int) (h : Int) l (tLd_0 (w : Int) (h : Int) (s : Int) l) (tLd_1 (w : Int) (h : Int) (s : Int) l) (tLd_2 (w : Int) (h : Int) (s : Int) l) (tLd_3 (w : Int) (h : Int) (s : Int) l) (tLd_4 (w : Int) (h : Int) (s : Int) l) [[(t : Int)], [(u : Int)]]
def bS (w h : Nat) (l : List (List Int)) (t u k : Nat) : lTilLdB_l125_T := .mk false 2 (k : Int) (w : Int) (h : Int) l [[(t : Int)], [(u : Int)]]
theorem bs_s0 (k : Nat) : lTilLdB_l125_s0 (bS w h l t u k) = decide (k < 2) := by
  unfold lTilLdB_l125_s0
  exact decide_eq_decide.2 (show (k : Int) < 2 ↔ k < 2 by omega)
def pickT (t u k : Nat) : Nat := if k = 0 then t else u
theorem rg (t u : Nat) {k : Nat} (hk : k < 2) : rget [[(t : Int)], [(u : Int)]] (Int.toNat (k : Int)) 0 = ((pickT t u k : Nat) : Int) := by
  match k, hk with
  | 0, _ => rfl
  | 1, _ => rfl
include ww w1 h1 hl ht hu
theorem bs_round {k : Nat} (hk : k < 2) : pick1 (lTilLdB_l125_st (bS w h l t u k)).2 = some (.n, bS w h l t u (k + 1)) ∧ Alls (lTilLdB_l125_st (bS w h l t u k)).1 := by
  have hp : pickT t u k < (w + 7) / 8 * ((h + 7) / 8) := by unfold pickT; split <;> assumption
  have g := rg t u hk
  generalize pickT t u k = s at hp g
  obtain ⟨⟨T', c1, c2, c3, c4, c5, c6, c7⟩, kl⟩ := ld_ok ww w1 h1 hp hl
  obtain ⟨fa, fb⟩ := ld_facts ww w1 h1 hl hp
  obtain ⟨m, m1, m2, m3⟩ := back_same ww w1 h1 hl hp
  have ks := copy_lok ww w1 h1 hp hl hl
  have tn := tiles_ne ww w1 h1 hp
  have bn := box_no ww w1 h1 hp
  have hpos : 1 ≤ w * h := by
    rcases Nat.eq_zero_or_pos h with e | e
    · subst e; exact absurd hp (by simp)
    · exact Nat.mul_pos ww e
  have hM : w * h ≤ 4096 := by
    have := Nat.mul_le_mul w1 h1
    omega
  have g6 : rget (bS w h l t u k).a6 (Int.toNat (bS w h l t u k).a2) 0 = (s : Int) := g
  have q1 : lTilLdB_l125_s1 (bS w h l t u k) = bBox_0 (w : Int) (h : Int) (s : Int) := by
    unfold lTilLdB_l125_s1
    rw [g6]; rfl
  have q2 : lTilLdB_l125_s2 (bS w h l t u k) = bBox_1 (w : Int) (h : Int) (s : Int) := by
    unfold lTilLdB_l125_s2
    rw [g6]; rfl
  have q3 : lTilLdB_l125_s3 (bS w h l t u k) = bBox_2 (w : Int) (h : Int) (s : Int) := by
    unfold lTilLdB_l125_s3
    rw [g6]; rfl
  have q4 : lTilLdB_l125_s4 (bS w h l t u k) = bBox_3 (w : Int) (h : Int) (s : Int) := by
    unfold lTilLdB_l125_s4
    rw [g6]; rfl
  have q6 : lTilLdB_l125_s6 (bS w h l t u k) = false := by
    unfold lTilLdB_l125_s6
    rw [g6]
    show (bif decide (0 ≤ (s : Int)) then bif !(true == decide ((s : Int) < bGTiles_0 (w : Int) (h : Int))) then true else !(true == true) else true) = false
    rw [gt_eq w1 h1, decide_eq_true (show (0 : Int) ≤ (s : Int) by omega), decide_eq_true (show (s : Int) < (((w + 7) / 8 * ((h + 7) / 8) : Nat) : Int) by omega)]; rfl
  have q7 : lTilLdB_l125_s7 (bS w h l t u k) = tLd_1 (w : Int) (h : Int) (s : Int) l := by
    unfold lTilLdB_l125_s7
    rw [g6]; rfl
  have q8 : lTilLdB_l125_s8 (bS w h l t u k) = tLd_2 (w : Int) (h : Int) (s : Int) l := by
    unfold lTilLdB_l125_s8
    rw [g6]; rfl
  have q9 : lTilLdB_l125_s9 (bS w h l t u k) = tLd_3 (w : Int) (h : Int) (s : Int) l := by
    unfold lTilLdB_l125_s9
    rw [g6]; rfl
  have q10 : lTilLdB_l125_s10 (bS w h l t u k) = tLd_4 (w : Int) (h : Int) (s : Int) l := by
    unfold lTilLdB_l125_s10
    rw [g6]; rfl
  have q11 : lTilLdB_l125_s11 (bS w h l t u k) = false := by
    unfold lTilLdB_l125_s11
    rw [q1, q2, q3, q4, q7, q8, q9, q10, fa, fb]; rfl
  have q12 : lTilLdB_l125_s12 (bS w h l t u k) = tLd_0 (w : Int) (h : Int) (s : Int) l := by
    unfold lTilLdB_l125_s12
    rw [g6]; rfl
  have run := LB.os_run ww w1 h1 hp hl c2 (v := oV w h l t u k s) ⟨rfl, rfl, rfl, c3, c4, c5, c6, c7⟩ rfl
  have i0 : lTilLdB_l1025661_T.mk (bS w h l t u k).a0 (rget (bS w h l t u k).a6 (Int.toNat (bS w h l t u k).a2) 0) true (bS w h l t u k).a1 (bS w h l t u k).a2 (lTilLdB_l125_s0 (bS w h l t u k)) (lTilLdB_l125_s6 (bS w h l t u k)) (!true) (lTilLdB_l125_s11 (bS w h l t u k)) 0 (bS w h l t u k).a3 (bS w h l t u k).a4 (bS w h l t u k).a5 (lTilLdB_l125_s12 (bS w h l t u k)) (lTilLdB_l125_s7 (bS w h l t u k)) (lTilLdB_l125_s8 (bS w h l t u k)) (lTilLdB_l125_s9 (bS w h l t u k)) (lTilLdB_l125_s10 (bS w h l t u k)) (bS w h l t u k).a6 = oV w h l t u k s := by
    rw [g6, bs_s0, decide_eq_true hk, q6, q11, q12, q7, q8, q9, q10]; rfl
  have q13 : lTilLdB_l125_s13 (bS w h l t u k) = some (.e 2, LB.oS (oV w h l t u k s) 8) := by
    unfold lTilLdB_l125_s13
    rw [i0]
    exact run.1
  have q14 : lTilLdB_l125_s14 (bS w h l t u k) = m := by
    unfold lTilLdB_l125_s14
    rw [q12, q7, q8, q9, q10]
    exact m1
  have q15 : lTilLdB_l125_s15 (bS w h l t u k) = false := by
    unfold lTilLdB_l125_s15
    rw [q14]
    show (!fSame_0 (w : Int) (h : Int) (w : Int) (h : Int) l m) = false
    rw [m3]; rfl
  constructor
  · unfold lTilLdB_l125_st
    rw [q13, q15, q11, q6, bs_s0, decide_eq_true hk]
    have e : IntKind.wrap .i64 ((k : Int) + 1) = ((k + 1 : Nat) : Int) := by
      rw [w64_in (by omega) (by omega)]; omega
    unfold bS
    rw [← e]; rfl
  · unfold lTilLdB_l125_st
    rw [i0, q13, q14, q15, q12, q11, q10, q9, q8, q7, q6, q4, q3, q2, q1, g6, bs_s0, decide_eq_true hk]
    refine ⟨fun _ => ⟨Int.natCast_nonneg k, ?_⟩, fun _ _ => tn, fun _ _ => tn, fun _ => bn, fun _ _ => kl, fun _ _ _ => tn, fun _ _ _ => tn, fun _ _ _ => run.2, fun _ _ _ _ => ?_, fun _ _ _ _ => ?_, fun _ _ _ _ _ => ks, fun _ _ _ _ _ _ => ?_, trivial⟩
    · show (k : Int) < ((2 : Nat) : Int)
      omega
    · show l.length ≠ 0
      omega
    · show l.length * 24 ≤ _
      omega
    · exact same_lok w1 h1 hl m2
omit ww w1 h1 hl ht hu in
theorem bs_end : pick1 (lTilLdB_l125_st (bS w h l t u 2)).2 = some (.e 0, bS w h l t u 2) := by
  unfold lTilLdB_l125_st
  rw [bs_s0, decide_eq_false (Nat.lt_irrefl _)]; rfl
omit ww w1 h1 hl ht hu in
theorem bs_obs2 : Alls (lTilLdB_l125_st (bS w h l t u 2)).1 := by
  unfold lTilLdB_l125_st
  rw [bs_s0, decide_eq_false (Nat.lt_irrefl _)]
  exact ⟨nofun, nofun, nofun, nofun, nofun, nofun, nofun, nofun, nofun, nofun, nofun, nofun, trivial⟩
theorem bs_run : lrun lTilLdB_l125_st 18446744073709551616 (bS w h l t u 0) = some (.e 0, bS w h l t u 2) ∧ lok lTilLdB_l125_st 18446744073709551616 (bS w h l t u 0) :=
  ⟨lx_run (s := bS w h l t u) (fun k hk => (bs_round ww w1 h1 hl ht hu hk).1) bs_end nofun (by omega), lx_lok (s := bS w h l t u) (fun k hk => (bs_round ww w1 h1 hl ht hu hk).1) bs_end nofun (fun k hk => by
    by_cases e : k < 2
    · exact (bs_round ww w1 h1 hl ht hu e).2
    · have : k = 2 := by omega
      subst this; exact bs_obs2) (by omega)⟩
end
end TL
end Tile
theorem TileLoads_true (x0_0 : Int) (a0_0 : IntKind.min .u8 ≤ x0_0) (b0_0 : x0_0 ≤ IntKind.max .u8) (x0_1 : Int) (a0_1 : IntKind.min .u8 ≤ x0_1) (b0_1 : x0_1 ≤ IntKind.max .u8) (y0_2 : List (List Int)) (p0_2 : ∀ row ∈ y0_2, RowFit [.int .u8, .int .u8, .int .u8, .int .u8, .int .u16, .int .u8] row) (q0_2 : y0_2.length ≤ maxLen) (x1 : Int) (a1 : IntKind.min .i64 ≤ x1) (b1 : x1 ≤ IntKind.max .i64) (x2 : Int) (a2 : IntKind.min .u8 ≤ x2) (b2 : x2 ≤ IntKind.max .u8) (hq : (decide (0 ≤ x1) && decide (x1 < bGTiles_0 (fSmF_0 x0_0 x0_1 (List.length y0_2) y0_2) (fSmF_1 x0_0 x0_1 (List.length y0_2) y0_2))) = true) : lTilLdB_0 x0_0 x0_1 (List.length y0_2) x1 x2 y0_2 = true := by
  obtain ⟨l0_0, g0_0⟩ := bd_u8 a0_0 b0_0
  have w0_0 : IntKind.wrap .i64 x0_0 = x0_0 := w64_in (by omega) (by omega)
  obtain ⟨l0_1, g0_1⟩ := bd_u8 a0_1 b0_1
  have w0_1 : IntKind.wrap .i64 x0_1 = x0_1 := w64_in (by omega) (by omega)
  obtain ⟨l1, g1⟩ := bd_i64 a1 b1
  have w1 : IntKind.wrap .i64 x1 = x1 := w64_in (by omega) (by omega)
  obtain ⟨l2, g2⟩ := bd_u8 a2 b2
  have w2 : IntKind.wrap .i64 x2 = x2 := w64_in (by omega) (by omega)
  have hd := row_dep p0_2
  have hc := row_col p0_2
  have s0 := sm_0 l0_0 g0_0
  have s1 := sm_1 l0_1 g0_1
  obtain ⟨⟨e0, e1, g⟩, zk⟩ := sizedC (x1 := fSmF_s0 x0_0) (x2 := fSmF_s1 x0_1) (by omega) (by omega) (by omega) (by omega) x0_0 x0_1 y0_2.length hd hc
  have W1 := cl_1 (fSmF_s0 x0_0)
  have W2 := cl_64 (fSmF_s0 x0_0)
  have H1 := cl_1 (fSmF_s1 x0_1)
  have H2 := cl_64 (fSmF_s1 x0_1)
  unfold lTilLdB_0 lTilLdB_s2 lTilLdB_s1
  unfold fSmF_0 fSmF_1 at hq
  unfold fSmF_0 fSmF_1 fSmF_2
  rw [Tile.awake]
  rw [e0, e1] at hq ⊢
  generalize fSized_2 x0_0 x0_1 y0_2.length (fSmF_s0 x0_0) (fSmF_s1 x0_1) y0_2 = l at *
  generalize cl (fSmF_s0 x0_0) = w at *
  generalize cl (fSmF_s1 x0_1) = h at *
  have hT : (w + 7) / 8 * ((h + 7) / 8) ≠ 0 := Nat.mul_ne_zero (by omega) (by omega)
  rw [gt_eq W2 H2] at hq ⊢
  rw [tm_nat l2 g2 (by omega)]
  have hu : x2.toNat % ((w + 7) / 8 * ((h + 7) / 8)) < (w + 7) / 8 * ((h + 7) / 8) := Nat.mod_lt _ (by omega)
  generalize x2.toNat % ((w + 7) / 8 * ((h + 7) / 8)) = u at *
  rw [Bool.and_eq_true, decide_eq_true_iff, decide_eq_true_iff] at hq
  obtain ⟨t, rfl⟩ := Int.eq_ofNat_of_zero_le hq.1
  have r : lrun lTilLdB_l125_st 18446744073709551616 (.mk false (Int.ofNat (List.length [[(t : Int)], [(u : Int)]])) 0 (w : Int) (h : Int) l [[(t : Int)], [(u : Int)]]) = _ := (TL.bs_run W1 W2 H2 g.1.1 (show t < _ by omega) hu).1
  rw [r]
  cases lTilLdB_s0 (List.length y0_2) <;> rfl

theorem TileLoads_obs (x0_0 : Int) (a0_0 : IntKind.min .u8 ≤ x0_0) (b0_0 : x0_0 ≤ IntKind.max .u8) (x0_1 : Int) (a0_1 : IntKind.min .u8 ≤ x0_1) (b0_1 : x0_1 ≤ IntKind.max .u8) (y0_2 : List (List Int)) (p0_2 : ∀ row ∈ y0_2, RowFit [.int .u8, .int .u8, .int .u8, .int .u8, .int .u16, .int .u8] row) (q0_2 : y0_2.length ≤ maxLen) (x1 : Int) (a1 : IntKind.min .i64 ≤ x1) (b1 : x1 ≤ IntKind.max .i64) (x2 : Int) (a2 : IntKind.min .u8 ≤ x2) (b2 : x2 ≤ IntKind.max .u8) (hq : (decide (0 ≤ x1) && decide (x1 < bGTiles_0 (fSmF_0 x0_0 x0_1 (List.length y0_2) y0_2) (fSmF_1 x0_0 x0_1 (List.length y0_2) y0_2))) = true) : Alls (lTilLdB_o x0_0 x0_1 (List.length y0_2) x1 x2 y0_2) := by
  obtain ⟨l0_0, g0_0⟩ := bd_u8 a0_0 b0_0
  have w0_0 : IntKind.wrap .i64 x0_0 = x0_0 := w64_in (by omega) (by omega)
  obtain ⟨l0_1, g0_1⟩ := bd_u8 a0_1 b0_1
  have w0_1 : IntKind.wrap .i64 x0_1 = x0_1 := w64_in (by omega) (by omega)
  obtain ⟨l1, g1⟩ := bd_i64 a1 b1
  have w1 : IntKind.wrap .i64 x1 = x1 := w64_in (by omega) (by omega)
  obtain ⟨l2, g2⟩ := bd_u8 a2 b2
  have w2 : IntKind.wrap .i64 x2 = x2 := w64_in (by omega) (by omega)
  have hd := row_dep p0_2
  have hc := row_col p0_2
  have s0 := sm_0 l0_0 g0_0
  have s1 := sm_1 l0_1 g0_1
  obtain ⟨⟨e0, e1, g⟩, zk⟩ := sizedC (x1 := fSmF_s0 x0_0) (x2 := fSmF_s1 x0_1) (by omega) (by omega) (by omega) (by omega) x0_0 x0_1 y0_2.length hd hc
  have W1 := cl_1 (fSmF_s0 x0_0)
  have W2 := cl_64 (fSmF_s0 x0_0)
  have H1 := cl_1 (fSmF_s1 x0_1)
  have H2 := cl_64 (fSmF_s1 x0_1)
  have hN := cl_N (fSmF_s0 x0_0) (fSmF_s1 x0_1)
  obtain ⟨q1, q2, q3, q4, _⟩ := rep_obs (p0 := 0) (p1 := 0) (p2 := 0) (p3 := 0) (p4 := 65535) (p5 := 0) hN.1 hN.2 false
  rw [← n_s6] at q1 q2 q3 q4
  obtain ⟨a1', a2', a3', a4', a5', a6', a7', a8', a9', a10', a11', _⟩ := Tile.aw_obs
  refine ⟨a1', a2', a3', a4', a5', a6', a7', a8', a9', a10', a11', fun _ _ => q1, fun _ _ => q2, fun _ _ => q3, fun _ _ => q4, fun _ _ => zk, ?_⟩
  clear q1 q2 q3 q4 zk
  unfold lTilLdB_s1
  unfold fSmF_0 fSmF_1 at hq
  unfold fSmF_0 fSmF_1 fSmF_2
  rw [e0, e1] at hq ⊢
  generalize fSized_2 x0_0 x0_1 y0_2.length (fSmF_s0 x0_0) (fSmF_s1 x0_1) y0_2 = l at *
  generalize cl (fSmF_s0 x0_0) = w at *
  generalize cl (fSmF_s1 x0_1) = h at *
  have hT : (w + 7) / 8 * ((h + 7) / 8) ≠ 0 := Nat.mul_ne_zero (by omega) (by omega)
  rw [gt_eq W2 H2] at hq ⊢
  rw [tm_nat l2 g2 (by omega)]
  have hu : x2.toNat % ((w + 7) / 8 * ((h + 7) / 8)) < (w + 7) / 8 * ((h + 7) / 8) := Nat.mod_lt _ (by omega)
  generalize x2.toNat % ((w + 7) / 8 * ((h + 7) / 8)) = u at *
  rw [Bool.and_eq_true, decide_eq_true_iff, decide_eq_true_iff] at hq
  obtain ⟨t, rfl⟩ := Int.eq_ofNat_of_zero_le hq.1
  have hT' : (((w + 7) / 8 * ((h + 7) / 8) : Nat) : Int) ≠ 0 := by omega
  exact ⟨fun _ _ => hT', fun _ _ => (TL.bs_run W1 W2 H2 g.1.1 (show t < _ by omega) hu).2, trivial⟩

theorem TileLoadsB_true (x0_0 : Int) (a0_0 : IntKind.min .u8 ≤ x0_0) (b0_0 : x0_0 ≤ IntKind.max .u8) (x0_1 : Int) (a0_1 : IntKind.min .u8 ≤ x0_1) (b0_1 : x0_1 ≤ IntKind.max .u8) (y0_2 : List (List Int)) (p0_2 : ∀ row ∈ y0_2, RowFit [.int .u8, .int .u8, .int .u8, .int .u8, .int .u16, .int .u8] row) (q0_2 : y0_2.length ≤ maxLen) (x1 : Int) (a1 : IntKind.min .i64 ≤ x1) (b1 : x1 ≤ IntKind.max .i64) (x2 : Int) (a2 : IntKind.min .u8 ≤ x2) (b2 : x2 ≤ IntKind.max .u8) (hq : (decide (0 ≤ x1) && decide (x1 < bGTiles_0 (fSmF_0 x0_0 x0_1 (List.length y0_2) y0_2) (fSmF_1 x0_0 x0_1 (List.length y0_2) y0_2))) = false) : lTilLdA_0 x0_0 x0_1 (List.length y0_2) x1 x2 y0_2 = true := by
  obtain ⟨l0_0, g0_0⟩ := bd_u8 a0_0 b0_0
  have w0_0 : IntKind.wrap .i64 x0_0 = x0_0 := w64_in (by omega) (by omega)
  obtain ⟨l0_1, g0_1⟩ := bd_u8 a0_1 b0_1
  have w0_1 : IntKind.wrap .i64 x0_1 = x0_1 := w64_in (by omega) (by omega)
  obtain ⟨l1, g1⟩ := bd_i64 a1 b1
  have w1 : IntKind.wrap .i64 x1 = x1 := w64_in (by omega) (by omega)
  obtain ⟨l2, g2⟩ := bd_u8 a2 b2
  have w2 : IntKind.wrap .i64 x2 = x2 := w64_in (by omega) (by omega)
  have hd := row_dep p0_2
  have hc := row_col p0_2
  have s0 := sm_0 l0_0 g0_0
  have s1 := sm_1 l0_1 g0_1
  obtain ⟨⟨e0, e1, g⟩, zk⟩ := sizedC (x1 := fSmF_s0 x0_0) (x2 := fSmF_s1 x0_1) (by omega) (by omega) (by omega) (by omega) x0_0 x0_1 y0_2.length hd hc
  have W1 := cl_1 (fSmF_s0 x0_0)
  have W2 := cl_64 (fSmF_s0 x0_0)
  have H1 := cl_1 (fSmF_s1 x0_1)
  have H2 := cl_64 (fSmF_s1 x0_1)
  unfold lTilLdA_0 lTilLdA_s18 lTilLdA_s17 lTilLdA_s16 lTilLdA_s15 lTilLdA_s14 lTilLdA_s13 lTilLdA_s12 lTilLdA_s11 lTilLdA_s10 lTilLdA_s9 lTilLdA_s8 lTilLdA_s7 lTilLdA_s6 lTilLdA_s5 lTilLdA_s4 lTilLdA_s3 lTilLdA_s2 lTilLdA_s1
  unfold fSmF_0 fSmF_1 at hq
  unfold fSmF_0 fSmF_1 fSmF_2
  rw [Tile.awake]
  rw [e0, e1] at hq ⊢
  generalize fSized_2 x0_0 x0_1 y0_2.length (fSmF_s0 x0_0) (fSmF_s1 x0_1) y0_2 = l at *
  generalize cl (fSmF_s0 x0_0) = w at *
  generalize cl (fSmF_s1 x0_1) = h at *
  have hT : (w + 7) / 8 * ((h + 7) / 8) ≠ 0 := Nat.mul_ne_zero (by omega) (by omega)
  rw [gt_eq W2 H2] at hq ⊢
  rw [tm_nat l2 g2 (by omega)]
  have hu : x2.toNat % ((w + 7) / 8 * ((h + 7) / 8)) < (w + 7) / 8 * ((h + 7) / 8) := Nat.mod_lt _ (by omega)
  generalize x2.toNat % ((w + 7) / 8 * ((h + 7) / 8)) = u at *
  have no1 : ¬ (0 ≤ x1 ∧ x1 < (((w + 7) / 8 * ((h + 7) / 8) : Nat) : Int)) := by
    rw [Bool.and_eq_false_iff, decide_eq_false_iff_not, decide_eq_false_iff_not] at hq
    omega
  have z1 : (bif decide (0 ≤ x1) then bif !(false == decide (x1 < (((w + 7) / 8 * ((h + 7) / 8) : Nat) : Int))) then true else !(false == !true) else !(false == !true)) = false := by
    by_cases k : 0 ≤ x1
    · rw [decide_eq_true k, decide_eq_false (show ¬ x1 < (((w + 7) / 8 * ((h + 7) / 8) : Nat) : Int) by omega)]; rfl
    · rw [decide_eq_false k]; rfl
  have z3 : (bif decide (0 ≤ (u : Int)) then bif !(true == decide ((u : Int) < (((w + 7) / 8 * ((h + 7) / 8) : Nat) : Int))) then true else !(true == true) else true) = false := by
    rw [decide_eq_true (show (0 : Int) ≤ (u : Int) by omega), decide_eq_true (show (u : Int) < (((w + 7) / 8 * ((h + 7) / 8) : Nat) : Int) by omega)]; rfl
  have hl := g.1.1
  obtain ⟨⟨T', c1, c2, c3, c4, c5, c6, c7⟩, kl⟩ := ld_ok W1 W2 H2 hu hl
  obtain ⟨fa, fb⟩ := ld_facts W1 W2 H2 hl hu
  obtain ⟨m, m1, m2, m3⟩ := back_same W1 W2 H2 hl hu
  have m1' : tSt_0 (w : Int) (h : Int) (tLd_0 (w : Int) (h : Int) (u : Int) l) (tLd_1 (w : Int) (h : Int) (u : Int) l) (tLd_2 (w : Int) (h : Int) (u : Int) l) (tLd_3 (w : Int) (h : Int) (u : Int) l) (tLd_4 (w : Int) (h : Int) (u : Int) l) (sClone_s0 l) = m := m1
  have run := LA.os_run W1 W2 H2 hu hl c2 (v := .mk false (u : Int) true 2 1 true false false false 0 (w : Int) (h : Int) l (tLd_0 (w : Int) (h : Int) (u : Int) l) (tLd_1 (w : Int) (h : Int) (u : Int) l) (tLd_2 (w : Int) (h : Int) (u : Int) l) (tLd_3 (w : Int) (h : Int) (u : Int) l) (tLd_4 (w : Int) (h : Int) (u : Int) l) x1 (u : Int)) ⟨rfl, rfl, rfl, c3, c4, c5, c6, c7⟩ rfl
  rw [z1, z3, fa, fb, m1']
  have w01 : IntKind.wrap .i64 (0 + 1) = 1 := by decide
  rw [w01]
  have i0 : lTilLdA_l1025661_T.mk false (u : Int) true (Int.ofNat 2) 1 (decide (1 < Int.ofNat 2)) false (!true) (bif !true then true else !true) 0 (w : Int) (h : Int) l (tLd_0 (w : Int) (h : Int) (u : Int) l) (tLd_1 (w : Int) (h : Int) (u : Int) l) (tLd_2 (w : Int) (h : Int) (u : Int) l) (tLd_3 (w : Int) (h : Int) (u : Int) l) (tLd_4 (w : Int) (h : Int) (u : Int) l) x1 (u : Int) = .mk false (u : Int) true 2 1 true false false false 0 (w : Int) (h : Int) l (tLd_0 (w : Int) (h : Int) (u : Int) l) (tLd_1 (w : Int) (h : Int) (u : Int) l) (tLd_2 (w : Int) (h : Int) (u : Int) l) (tLd_3 (w : Int) (h : Int) (u : Int) l) (tLd_4 (w : Int) (h : Int) (u : Int) l) x1 (u : Int) := rfl
  rw [i0, run.1]
  rw [m3]
  cases lTilLdA_s0 (List.length y0_2) <;> rfl

theorem TileLoadsB_obs (x0_0 : Int) (a0_0 : IntKind.min .u8 ≤ x0_0) (b0_0 : x0_0 ≤ IntKind.max .u8) (x0_1 : Int) (a0_1 : IntKind.min .u8 ≤ x0_1) (b0_1 : x0_1 ≤ IntKind.max .u8) (y0_2 : List (List Int)) (p0_2 : ∀ row ∈ y0_2, RowFit [.int .u8, .int .u8, .int .u8, .int .u8, .int .u16, .int .u8] row) (q0_2 : y0_2.length ≤ maxLen) (x1 : Int) (a1 : IntKind.min .i64 ≤ x1) (b1 : x1 ≤ IntKind.max .i64) (x2 : Int) (a2 : IntKind.min .u8 ≤ x2) (b2 : x2 ≤ IntKind.max .u8) (hq : (decide (0 ≤ x1) && decide (x1 < bGTiles_0 (fSmF_0 x0_0 x0_1 (List.length y0_2) y0_2) (fSmF_1 x0_0 x0_1 (List.length y0_2) y0_2))) = false) : Alls (lTilLdA_o x0_0 x0_1 (List.length y0_2) x1 x2 y0_2) := by
  obtain ⟨l0_0, g0_0⟩ := bd_u8 a0_0 b0_0
  have w0_0 : IntKind.wrap .i64 x0_0 = x0_0 := w64_in (by omega) (by omega)
  obtain ⟨l0_1, g0_1⟩ := bd_u8 a0_1 b0_1
  have w0_1 : IntKind.wrap .i64 x0_1 = x0_1 := w64_in (by omega) (by omega)
  obtain ⟨l1, g1⟩ := bd_i64 a1 b1
  have w1 : IntKind.wrap .i64 x1 = x1 := w64_in (by omega) (by omega)
  obtain ⟨l2, g2⟩ := bd_u8 a2 b2
  have w2 : IntKind.wrap .i64 x2 = x2 := w64_in (by omega) (by omega)
  have hd := row_dep p0_2
  have hc := row_col p0_2
  have s0 := sm_0 l0_0 g0_0
  have s1 := sm_1 l0_1 g0_1
  obtain ⟨⟨e0, e1, g⟩, zk⟩ := sizedC (x1 := fSmF_s0 x0_0) (x2 := fSmF_s1 x0_1) (by omega) (by omega) (by omega) (by omega) x0_0 x0_1 y0_2.length hd hc
  have W1 := cl_1 (fSmF_s0 x0_0)
  have W2 := cl_64 (fSmF_s0 x0_0)
  have H1 := cl_1 (fSmF_s1 x0_1)
  have H2 := cl_64 (fSmF_s1 x0_1)
  have hN := cl_N (fSmF_s0 x0_0) (fSmF_s1 x0_1)
  obtain ⟨q1, q2, q3, q4, _⟩ := rep_obs (p0 := 0) (p1 := 0) (p2 := 0) (p3 := 0) (p4 := 65535) (p5 := 0) hN.1 hN.2 false
  rw [← n_s6] at q1 q2 q3 q4
  obtain ⟨a1', a2', a3', a4', a5', a6', a7', a8', a9', a10', a11', _⟩ := Tile.aw_obs
  refine ⟨a1', a2', a3', a4', a5', a6', a7', a8', a9', a10', a11', fun _ _ => q1, fun _ _ => q2, fun _ _ => q3, fun _ _ => q4, fun _ _ => zk, ?_⟩
  clear q1 q2 q3 q4 zk
  unfold lTilLdA_s18 lTilLdA_s17 lTilLdA_s16 lTilLdA_s15 lTilLdA_s14 lTilLdA_s13 lTilLdA_s12 lTilLdA_s11 lTilLdA_s10 lTilLdA_s9 lTilLdA_s8 lTilLdA_s7 lTilLdA_s6 lTilLdA_s5 lTilLdA_s4 lTilLdA_s3 lTilLdA_s2 lTilLdA_s1
  unfold fSmF_0 fSmF_1 at hq
  unfold fSmF_0 fSmF_1 fSmF_2
  rw [e0, e1] at hq ⊢
  generalize fSized_2 x0_0 x0_1 y0_2.length (fSmF_s0 x0_0) (fSmF_s1 x0_1) y0_2 = l at *
  generalize cl (fSmF_s0 x0_0) = w at *
  generalize cl (fSmF_s1 x0_1) = h at *
  have hT : (w + 7) / 8 * ((h + 7) / 8) ≠ 0 := Nat.mul_ne_zero (by omega) (by omega)
  rw [gt_eq W2 H2] at hq ⊢
  rw [tm_nat l2 g2 (by omega)]
  have hu : x2.toNat % ((w + 7) / 8 * ((h + 7) / 8)) < (w + 7) / 8 * ((h + 7) / 8) := Nat.mod_lt _ (by omega)
  generalize x2.toNat % ((w + 7) / 8 * ((h + 7) / 8)) = u at *
  have no1 : ¬ (0 ≤ x1 ∧ x1 < (((w + 7) / 8 * ((h + 7) / 8) : Nat) : Int)) := by
    rw [Bool.and_eq_false_iff, decide_eq_false_iff_not, decide_eq_false_iff_not] at hq
    omega
  have z1 : (bif decide (0 ≤ x1) then bif !(false == decide (x1 < (((w + 7) / 8 * ((h + 7) / 8) : Nat) : Int))) then true else !(false == !true) else !(false == !true)) = false := by
    by_cases k : 0 ≤ x1
    · rw [decide_eq_true k, decide_eq_false (show ¬ x1 < (((w + 7) / 8 * ((h + 7) / 8) : Nat) : Int) by omega)]; rfl
    · rw [decide_eq_false k]; rfl
  have z3 : (bif decide (0 ≤ (u : Int)) then bif !(true == decide ((u : Int) < (((w + 7) / 8 * ((h + 7) / 8) : Nat) : Int))) then true else !(true == true) else true) = false := by
    rw [decide_eq_true (show (0 : Int) ≤ (u : Int) by omega), decide_eq_true (show (u : Int) < (((w + 7) / 8 * ((h + 7) / 8) : Nat) : Int) by omega)]; rfl
  have hl := g.1.1
  obtain ⟨⟨T', c1, c2, c3, c4, c5, c6, c7⟩, kl⟩ := ld_ok W1 W2 H2 hu hl
  obtain ⟨fa, fb⟩ := ld_facts W1 W2 H2 hl hu
  obtain ⟨m, m1, m2, m3⟩ := back_same W1 W2 H2 hl hu
  have m1' : tSt_0 (w : Int) (h : Int) (tLd_0 (w : Int) (h : Int) (u : Int) l) (tLd_1 (w : Int) (h : Int) (u : Int) l) (tLd_2 (w : Int) (h : Int) (u : Int) l) (tLd_3 (w : Int) (h : Int) (u : Int) l) (tLd_4 (w : Int) (h : Int) (u : Int) l) (sClone_s0 l) = m := m1
  have run := LA.os_run W1 W2 H2 hu hl c2 (v := .mk false (u : Int) true 2 1 true false false false 0 (w : Int) (h : Int) l (tLd_0 (w : Int) (h : Int) (u : Int) l) (tLd_1 (w : Int) (h : Int) (u : Int) l) (tLd_2 (w : Int) (h : Int) (u : Int) l) (tLd_3 (w : Int) (h : Int) (u : Int) l) (tLd_4 (w : Int) (h : Int) (u : Int) l) x1 (u : Int)) ⟨rfl, rfl, rfl, c3, c4, c5, c6, c7⟩ rfl
  rw [z1, z3, fa, fb, m1']
  have w01 : IntKind.wrap .i64 (0 + 1) = 1 := by decide
  rw [w01]
  have i0 : lTilLdA_l1025661_T.mk false (u : Int) true (Int.ofNat 2) 1 (decide (1 < Int.ofNat 2)) false (!true) (bif !true then true else !true) 0 (w : Int) (h : Int) l (tLd_0 (w : Int) (h : Int) (u : Int) l) (tLd_1 (w : Int) (h : Int) (u : Int) l) (tLd_2 (w : Int) (h : Int) (u : Int) l) (tLd_3 (w : Int) (h : Int) (u : Int) l) (tLd_4 (w : Int) (h : Int) (u : Int) l) x1 (u : Int) = .mk false (u : Int) true 2 1 true false false false 0 (w : Int) (h : Int) l (tLd_0 (w : Int) (h : Int) (u : Int) l) (tLd_1 (w : Int) (h : Int) (u : Int) l) (tLd_2 (w : Int) (h : Int) (u : Int) l) (tLd_3 (w : Int) (h : Int) (u : Int) l) (tLd_4 (w : Int) (h : Int) (u : Int) l) x1 (u : Int) := rfl
  rw [i0, run.1]
  have tn := tiles_ne W1 W2 H2 hu
  have bn := box_no W1 W2 H2 hu
  have ks := copy_lok W1 W2 H2 hu hl hl
  have hM := r_len W2 H2 g.1
  have hpos : 1 ≤ w * h := Nat.mul_pos (by omega) (by omega)
  have hT' : (((w + 7) / 8 * ((h + 7) / 8) : Nat) : Int) ≠ 0 := by omega
  have hlc : List.length (sClone_s0 l) * 24 ≤ 70368744177664 := by
    show l.length * 24 ≤ _
    omega
  have bx0 : bBox_s0 (w : Int) (h : Int) x1 = true := by
    unfold bBox_s0
    rw [gt_eq W2 H2]
    by_cases k : x1 < 0
    · rw [decide_eq_true k]; rfl
    · rw [decide_eq_false k, decide_eq_true (show (((w + 7) / 8 * ((h + 7) / 8) : Nat) : Int) ≤ x1 by omega)]; rfl
  have bz : (bBox_0 (w : Int) (h : Int) x1 == 0 && (bBox_1 (w : Int) (h : Int) x1 == 0 && (bBox_2 (w : Int) (h : Int) x1 == 0 && bBox_3 (w : Int) (h : Int) x1 == 0))) = true := by
    unfold bBox_0 bBox_1 bBox_2 bBox_3
    rw [bx0]; rfl
  exact ⟨fun _ _ => hT', fun _ _ _ => tn, fun _ _ _ => tn, fun _ _ => bz, fun _ _ _ _ => tn, fun _ _ _ _ => tn, fun _ _ _ => bn, fun _ _ _ _ => kl, fun _ _ _ _ _ => tn, fun _ _ _ _ _ => tn, fun _ _ _ _ _ => run.2, fun _ _ _ _ _ _ => rfl, fun _ _ _ _ _ _ => rfl, (fun _ _ _ _ _ k => by cases k), (fun _ _ _ _ _ k => by cases k), fun _ _ _ _ _ _ => by omega, fun _ _ _ _ _ _ => hlc, fun _ _ _ _ _ _ _ => ks, fun _ _ _ _ _ _ _ _ => (sEq hM (by rw [m2]; exact hl.symm)).2, trivial⟩

end Go.Proofs.Ytcdejlgophpdjaa
end

