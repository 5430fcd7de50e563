/-
  From a contract of a law to the row's step, for laws whose arguments hold slices of numbers, bools, and structs and arrays of these.
-/
import Derived.Carry
import Derived.Deep.Slices
import Derived.Test.YtcdejlgophpdjaaQVmNone8
section
namespace Go.Proofs.Ytcdejlgophpdjaa.V
open Go Go.RowKit Go.ChangeShapes Go.WideShapes Go.ChangeAt

/-- A cell's kind: a plain one's; a slice's, by the kinds of its elements' cells. -/
inductive Kc where
  | one (k : Kn)
  | slc (sh : List Kd)

def kdsKc : List Kc → Option (List Kd)
  | [] => some []
  | .one (.int k) :: r => match kdsKc r with
    | some l => some (.int k :: l)
    | none => none
  | .one .bool :: r => match kdsKc r with
    | some l => some (.bool :: l)
    | none => none
  | _ => none

def kcFs (P : Program) (rec : TypeId → Option (List Kc)) : Nat → List Field → Option (List Kc)
  | _, [] => some []
  | off, f :: fs => match rec f.type with
    | some ks => match Nat.beq f.offset off && Nat.beq ks.length (P.cellsOf f.type), kcFs P rec (off + ks.length) fs with
      | true, some r => some (ks ++ r)
      | _, _ => none
    | none => none

/-- A type's cells. -/
def kcT (P : Program) : Nat → TypeId → Option (List Kc)
  | 0, _ => none
  | d + 1, t => match P.underlying t with
    | some .bool => some [.one .bool]
    | some (.int k) => some [.one (.int k)]
    | some .string => some [.one .str]
    | some (.slice e) => match (kcT P d e).bind kdsKc with
      | some sh => match Nat.ble 1 sh.length && Nat.beq sh.length (P.cellsOf e) with
        | true => some [.slc sh]
        | false => none
      | none => none
    | some (.struct fs) => match kcFs P (kcT P d) 0 fs.toList with
      | some ks => match Nat.beq ks.length (P.cellsOf t) with
        | true => some ks
        | false => none
      | none => none
    | some (.array n e) => match kcT P d e with
      | some ks => match Nat.beq ks.length (P.cellsOf e) && Nat.beq (n * ks.length) (P.cellsOf t) with
        | true => some ((List.replicate n ks).flatten)
        | false => none
      | none => none
    | _ => none

def KdFit : Kd → Int → Prop
  | .int k, n => k.min ≤ n ∧ n ≤ k.max
  | .bool, n => n = 0 ∨ n = 1

def RowFit (sh : List Kd) (row : List Int) : Prop := row.length = sh.length ∧ ∀ (j : Nat) k n, sh[j]? = some k → row[j]? = some n → KdFit k n

/-- A slice's cells stand in the world. -/
def SlcIn (w : World) (sh : List Kd) (l : List (List Int)) (v : Value) : Prop :=
  ∃ a cap, v = .slice a l.length cap ∧ l.length ≤ cap ∧ cap ≤ maxLen ∧
    (l = [] ∨ ∃ r o arr ty fz, a = some ⟨r, o, none⟩ ∧ w.heap[r]? = some (.cells arr ty fz) ∧ RowsIn arr o ⟨0, sh, l, none⟩)

def CF (w : World) : Kc → Value → Prop
  | .one k, v => ∃ x : At, FitAt k x ∧ x.rel (fun _ => none) v
  | .slc sh, v => ∃ l : List (List Int), (∀ row ∈ l, RowFit sh row) ∧ l.length ≤ maxLen ∧ SlcIn w sh l v

theorem pick_list {α : Type} {p : Nat → α → Prop} : ∀ (n : Nat), (∀ i, i < n → ∃ x, p i x) → ∃ l : List α, l.length = n ∧ ∀ i x, l[i]? = some x → p i x
  | 0, _ => ⟨[], rfl, fun i x h => by simp at h⟩
  | n + 1, h => by
    obtain ⟨l, l1, l2⟩ := pick_list n fun i hi => h i (by omega)
    obtain ⟨x, hx⟩ := h n (by omega)
    refine ⟨l ++ [x], by simp [l1], fun i y hy => ?_⟩
    rw [List.getElem?_append] at hy
    split at hy
    · exact l2 i y hy
    · rename_i hi
      have e : i = n := by
        rcases Nat.lt_or_ge (i - l.length) 1 with h1 | h1
        · omega
        · rw [List.getElem?_eq_none (by simpa using h1)] at hy; cases hy
      subst e
      rw [l1, Nat.sub_self] at hy
      simp only [List.getElem?_cons_zero, Option.some.injEq] at hy
      subst hy; exact hx

theorem All2.get2 {α β : Type} {R : α → β → Prop} : ∀ {l : List α} {m : List β}, All2 R l m → ∀ {i : Nat} {x : α} {y : β}, l[i]? = some x → m[i]? = some y → R x y
  | _, _, .cons r _, 0, _, _, h, g => by simp at h g; subst h g; exact r
  | _, _, .cons _ a, i + 1, _, _, h, g => a.get2 (i := i) (by simpa using h) (by simpa using g)

/-- Cells of an element as a row. -/
theorem row_of {w : World} : ∀ {ks : List Kc} {sh : List Kd} {cs : List Value}, kdsKc ks = some sh → All2 (CF w) ks cs →
    ∃ row : List Int, RowFit sh row ∧ cs.length = sh.length ∧ ∀ (j : Nat) k n, sh[j]? = some k → row[j]? = some n → cs[j]? = some (k.val n)
  | [], sh, cs, h, hl => by
    simp only [kdsKc, Option.some.injEq] at h; subst h
    cases hl
    exact ⟨[], ⟨rfl, fun j k n h => by simp at h⟩, rfl, fun j k n h => by simp at h⟩
  | .one (.int kk) :: ks, sh, cs, h, hl => by
    unfold kdsKc at h
    split at h
    · rename_i l hk
      simp only [Option.some.injEq] at h; subst h
      cases hl with
      | cons a b =>
        obtain ⟨x, ⟨n, rfl, h1, h2⟩, hv⟩ := a
        obtain ⟨row, ⟨r1, r2⟩, r3, r4⟩ := row_of hk b
        have hv' : _ = Value.int kk n := hv
        refine ⟨n :: row, ⟨by simp [r1], fun j k m g1 g2 => ?_⟩, by simp [r3], fun j k m g1 g2 => ?_⟩
        · cases j with
          | zero => simp at g1 g2; subst g1 g2; exact ⟨h1, h2⟩
          | succ j => exact r2 j k m (by simpa using g1) (by simpa using g2)
        · cases j with
          | zero => simp at g1 g2; subst g1 g2; simp [hv', Kd.val]
          | succ j => simpa using r4 j k m (by simpa using g1) (by simpa using g2)
    · cases h
  | .one .bool :: ks, sh, cs, h, hl => by
    unfold kdsKc at h
    split at h
    · rename_i l hk
      simp only [Option.some.injEq] at h; subst h
      cases hl with
      | cons a b =>
        obtain ⟨x, ⟨n, rfl⟩, hv⟩ := a
        obtain ⟨row, ⟨r1, r2⟩, r3, r4⟩ := row_of hk b
        have hv' : _ = Value.bool n := hv
        refine ⟨(bif n then 1 else 0) :: row, ⟨by simp [r1], fun j k m g1 g2 => ?_⟩, by simp [r3], fun j k m g1 g2 => ?_⟩
        · cases j with
          | zero => simp at g1 g2; subst g1 g2; cases n <;> simp [KdFit]
          | succ j => exact r2 j k m (by simpa using g1) (by simpa using g2)
        · cases j with
          | zero => simp at g1 g2; subst g1 g2; cases n <;> simp [hv', Kd.val]
          | succ j => simpa using r4 j k m (by simpa using g1) (by simpa using g2)
    · cases h
  | .one .str :: ks, sh, cs, h, hl => by simp [kdsKc] at h
  | .slc _ :: ks, sh, cs, h, hl => by simp [kdsKc] at h

theorem kcFs_all {P : Program} {w : World} {rec : TypeId → Option (List Kc)} {cs : List Value} : ∀ {fs : List Field} {off : Nat} {ks : List Kc}, kcFs P rec off fs = some ks →
    (∀ f ∈ fs, ∀ ks, rec f.type = some ks → ks.length = P.cellsOf f.type → All2 (CF w) ks ((cs.drop f.offset).take (P.cellsOf f.type))) →
    cs.length = off + ks.length → All2 (CF w) ks (cs.drop off)
  | [], off, ks, h, _, hl => by
    simp only [kcFs, Option.some.injEq] at h; subst h
    rw [List.drop_eq_nil_of_le (by simp at hl; omega)]; exact .nil
  | f :: fs, off, ks, h, hh, hl => by
    unfold kcFs at h
    split at h
    · rename_i k0 hk0
      split at h
      · rename_i r hb hr
        simp only [Option.some.injEq] at h; subst h
        simp only [Bool.and_eq_true] at hb
        have e1 := Nat.eq_of_beq_eq_true hb.1
        have e2 := Nat.eq_of_beq_eq_true hb.2
        have a := hh f (by simp) k0 hk0 e2
        have b := kcFs_all hr (fun g hg => hh g (by simp [hg])) (by simp at hl; omega)
        rw [e1, ← e2] at a
        have e : cs.drop off = (cs.drop off).take k0.length ++ cs.drop (off + k0.length) := by
          rw [← List.drop_drop]; exact (List.take_append_drop _ _).symm
        rw [e]
        exact a.append b
      · cases h
    · cases h

theorem rep_all {w : World} {ks : List Kc} {cs : List Value} {n : Nat} (hl : cs.length = n * ks.length) (h : ∀ i, i < n → All2 (CF w) ks ((cs.drop (i * ks.length)).take ks.length)) : ∀ m, m ≤ n → All2 (CF w) ((List.replicate m ks).flatten) (cs.drop ((n - m) * ks.length))
  | 0, _ => by
    rw [Nat.sub_zero, List.drop_eq_nil_of_le (by omega)]; exact .nil
  | m + 1, hm => by
    rw [List.replicate_succ, List.flatten_cons]
    have a := h (n - (m + 1)) (by omega)
    have b := rep_all hl h m (by omega)
    have e : cs.drop ((n - (m + 1)) * ks.length) = (cs.drop ((n - (m + 1)) * ks.length)).take ks.length ++ cs.drop ((n - m) * ks.length) := by
      have e' : (n - m) * ks.length = (n - (m + 1)) * ks.length + ks.length := by
        rw [← Nat.succ_mul]; congr 1; omega
      rw [e', ← List.drop_drop]; exact (List.take_append_drop _ _).symm
    rw [e]
    exact a.append b

section
variable {H : Type} {enc : TypeId × Value → H} {P : Program} {w : World}

theorem trod_kc : ∀ (d : Nat) {t : TypeId} {ks : List Kc} {fuel : Nat} {cs : List Value} {x : DataW H × List MemPlace}, kcT P d t = some ks → DataW.trod enc P w 0 (fun _ => true) true fuel t cs = some x → All2 (CF w) ks cs
  | 0, t, ks, fuel, cs, x, h, _ => by simp [kcT] at h
  | d + 1, t, ks, fuel, cs, x, h, hx => by
    unfold kcT at h
    split at h
    · rename_i hu
      simp only [Option.some.injEq] at h; subst h
      obtain ⟨b, rfl, _⟩ := DataW.trod_bool hu hx
      exact .cons ⟨.bool true b, ⟨b, rfl⟩, rfl⟩ .nil
    · rename_i k hu
      simp only [Option.some.injEq] at h; subst h
      obtain ⟨n, rfl, _, hw⟩ := DataW.trod_int hu hx
      have hn : k.min ≤ n ∧ n ≤ k.max := by simpa [Lit.wf, IntKind.has] using hw
      exact .cons ⟨.int true k n, ⟨n, rfl, hn.1, hn.2⟩, rfl⟩ .nil
    · rename_i hu
      simp only [Option.some.injEq] at h; subst h
      obtain ⟨s, rfl, _, hw⟩ := DataW.trod_string hu hx
      have hm : (maxLen : Int) ≤ IntKind.i64.max := by decide
      exact .cons ⟨.str true s, ⟨s, rfl, by omega⟩, rfl⟩ .nil
    · rename_i e hu
      split at h
      · rename_i sh hsh
        obtain ⟨kse, hk1, hk2⟩ := Option.bind_eq_some_iff.1 hsh
        split at h
        · rename_i hb
          simp only [Option.some.injEq] at h; subst h
          simp only [Bool.and_eq_true] at hb
          have p1 : 1 ≤ sh.length := Nat.le_of_ble_eq_true hb.1
          have p2 : sh.length = P.cellsOf e := Nat.eq_of_beq_eq_true hb.2
          rcases Go.Deep.open_slice hu hx with ⟨rfl, _⟩ | ⟨a, len, cap, m, n, D, Pl, rfl, _, h1, h2, h3, _, h4⟩
          · exact .cons ⟨[], nofun, by simp, none, 0, rfl, by simp, by simp, .inl rfl⟩ .nil
          · simp only [if_true] at h3
            subst h3
            obtain ⟨l, l1, l2⟩ := pick_list (p := fun i (row : List Int) => RowFit sh row ∧ ∀ (j : Nat) k n, sh[j]? = some k → row[j]? = some n → w.cell? ((a.add (i * sh.length)).add j) = some (k.val n)) len fun i hi => by
              obtain ⟨cs', c1, c2⟩ := h4 i (by omega)
              obtain ⟨_, q2, q3⟩ := World.cells?_some c1
              obtain ⟨row, r1, r2, r3⟩ := row_of hk2 (trod_kc d hk1 c2)
              refine ⟨row, r1, fun j k n g1 g2 => ?_⟩
              have hj : j < sh.length := (List.getElem?_eq_some_iff.1 g1).1
              rw [p2, q3 j (by omega)]
              exact r3 j k n g1 g2
            refine .cons ⟨l, fun row hrow => ?_, by omega, some a, _, by rw [l1], by omega, h2, ?_⟩ .nil
            · obtain ⟨i, hi⟩ := List.getElem?_of_mem hrow
              exact (l2 i row hi).1
            · rcases Nat.eq_zero_or_pos len with h0 | h0
              · left; exact List.eq_nil_of_length_eq_zero (by omega)
              · right
                have get : ∀ i, i < len → ∃ row, l[i]? = some row := fun i hi => ⟨_, List.getElem?_eq_getElem (by omega)⟩
                have cell : ∀ i j, i < len → j < sh.length → ∃ row n k, l[i]? = some row ∧ row[j]? = some n ∧ sh[j]? = some k ∧ w.cell? ((a.add (i * sh.length)).add j) = some (k.val n) := fun i j hi hj => by
                  obtain ⟨row, hr⟩ := get i hi
                  obtain ⟨⟨q1, _⟩, q2⟩ := l2 i row hr
                  have hn : row[j]? = some row[j] := List.getElem?_eq_getElem (by omega)
                  have hk : sh[j]? = some sh[j] := List.getElem?_eq_getElem (by omega)
                  exact ⟨row, _, _, hr, hn, hk, q2 j _ _ hk hn⟩
                obtain ⟨r, o, spot⟩ := a
                obtain ⟨row0, n0, k0, _, _, _, hc0⟩ := cell 0 0 h0 p1
                have hspot : spot = none := by
                  have := World.cell?_spot hc0
                  simpa [Addr.add] using this
                subst hspot
                simp only [add_eq] at cell l2 hc0
                unfold World.cell? at hc0
                split at hc0
                · rename_i arr ty fz hheap
                  have ha : ∀ k, w.cell? ⟨r, k, none⟩ = arr[k]? := fun k => by
                    unfold World.cell?
                    simp only at hheap
                    simp only [hheap]
                    rfl
                  refine ⟨r, o, arr, ty, fz, rfl, hheap, fun p row hr => ⟨(l2 p row hr).1.1, fun j n k g1 g2 => ?_⟩, ?_⟩
                  · have := (l2 p row hr).2 j k n g2 g1
                    rw [ha] at this
                    rw [show o + (0 + p * sh.length + j) = o + p * sh.length + j by omega]
                    exact this
                  · obtain ⟨row, n, k, _, _, _, hc⟩ := cell (len - 1) (sh.length - 1) (by omega) (by omega)
                    rw [ha] at hc
                    have hlt := (Array.getElem?_eq_some_iff.1 hc).1
                    have e : len * sh.length = (len - 1) * sh.length + sh.length := by
                      rw [← Nat.succ_mul]; congr 1; omega
                    show 0 + l.length * sh.length + o ≤ arr.size
                    rw [l1, e]
                    omega
                · cases hc0
        · cases h
      · cases h
    · rename_i fs hu
      split at h
      · rename_i ks' hk
        split at h
        · rename_i hb
          simp only [Option.some.injEq] at h; subst h
          have hb' := Nat.eq_of_beq_eq_true hb
          obtain ⟨xs, n, rfl, _, hl, hxs, hf⟩ := DataW.trod_struct hu hx
          have := kcFs_all (w := w) (cs := cs) hk (fun f hf' ks0 h1 h2 => by
            obtain ⟨i, hi⟩ := List.getElem?_of_mem hf'
            have hi' : fs[i]? = some f := by simpa using hi
            have e := hf i f hi'
            have hlt : i < xs.length := by rw [hxs]; exact (Array.getElem?_eq_some_iff.1 hi').1
            rw [List.getElem?_eq_getElem hlt] at e
            exact trod_kc d h1 e) (by rw [hl, ← hb']; simp)
          simpa using this
        · cases h
      · cases h
    · rename_i n e hu
      split at h
      · rename_i ks' hk
        split at h
        · rename_i hb
          simp only [Option.some.injEq] at h; subst h
          simp only [Bool.and_eq_true] at hb
          have b1 := Nat.eq_of_beq_eq_true hb.1
          have b2 := Nat.eq_of_beq_eq_true hb.2
          obtain ⟨xs, m, rfl, _, hl, hxs, hf⟩ := DataW.trod_array hu hx
          have := rep_all (w := w) (ks := ks') (cs := cs) (n := n) (by rw [hl, ← b2]) (fun i hi => by
            have e := hf i hi
            rw [List.getElem?_eq_getElem (by omega)] at e
            rw [b1]
            exact trod_kc d hk e) n (Nat.le_refl _)
          simpa using this
        · cases h
      · cases h
    · cases h

end

/-- A slice that came in, as a block that is not written. -/
def roBC (sh : List Kd) (l : List (List Int)) : BC := ⟨⟨0, 0, true, some ⟨0, sh, l, none⟩⟩, []⟩

/-- For all cells of these kinds, and the blocks behind them. -/
def AllC : List Kc → List BC → (List At → List BC → Prop) → Prop
  | [], bs, Q => Q [] bs
  | .one (.int k) :: ks, bs, Q => ∀ n : Int, k.min ≤ n → n ≤ k.max → AllC ks bs fun l bs' => Q (.int true k n :: l) bs'
  | .one .bool :: ks, bs, Q => ∀ b : Bool, AllC ks bs fun l bs' => Q (.bool true b :: l) bs'
  | .one .str :: ks, bs, Q => ∀ s : ByteArray, (s.size : Int) ≤ IntKind.i64.max → AllC ks bs fun l bs' => Q (.str true s :: l) bs'
  | .slc sh :: ks, bs, Q => ∀ l : List (List Int), (∀ row ∈ l, RowFit sh row) → l.length ≤ maxLen → AllC ks (bs ++ [roBC sh l]) fun ags bs' => Q (.slc true bs.length 0 0 sh.length 0 l.length :: ags) bs'

/-- For all arguments of these shapes. -/
def AllB : List (Bool × List Kc) → List BC → (List LV → List BC → Prop) → Prop
  | [], bs, Q => Q [] bs
  | (true, ks) :: r, bs, Q => AllC ks bs fun l bs' => AllB r bs' fun ags bs'' => Q (.g l :: ags) bs''
  | (false, ks) :: r, bs, Q => AllC ks bs fun l bs' => match l with
    | [x] => AllB r bs' fun ags bs'' => Q (.a x :: ags) bs''
    | _ => True

/-- The blocks stand in the world, none of them written. -/
structure RoB (w : World) (φ : Phi) (bs : List BC) : Prop where
  at_ : ∀ (b : Nat) c, bs[b]? = some c → ∃ i sh l, φ b = some i ∧ c = roBC sh l ∧ i.v = 0 ∧ i.ro = true ∧ i.n = l.length ∧
    ((i.a = none ∧ l = []) ∨ ∃ r o arr ty fz, i.a = some (r, o) ∧ w.heap[r]? = some (.cells arr ty fz) ∧ RowsIn arr o ⟨0, sh, l, none⟩ ∧ l.length * sh.length ≤ i.z)
  dom : ∀ b, bs.length ≤ b → φ b = none

theorem RoB.nil (w : World) : RoB w (fun _ => none) [] := ⟨fun b c h => by simp at h, fun _ _ => rfl⟩

theorem memOf_ro {bs : List BC} (h : ∀ (b : Nat) c, bs[b]? = some c → c.cs = []) (k : Nat) : memOf bs k = none := by
  unfold memOf
  split
  · rename_i c hc
    unfold cellOf
    rw [h _ c hc]; rfl
  · rfl

theorem hdsIn_none {bs : List BC} {out : List (Option BC)} (ho : ∀ (b : Nat) c, bs[b]? = some c → c.h.ro = true) : hdsIn bs out = fun b => (bs[b]?).map (·.h) := by
  funext b
  unfold hdsIn
  split
  · rename_i c hc
    have e : roH c.h = c.h := by
      have := ho b c hc
      unfold roH
      rw [← this]
    split
    · rw [e, hc]; rfl
    · rw [hc]; rfl
  · rename_i hc
    rw [hc]; rfl

theorem RoB.mr {w : World} {φ : Phi} {bs : List BC} (h : RoB w φ bs) (out : List (Option BC)) : MR w (fun _ => False) φ (memOf bs) (hdsIn bs out) (fun b => bs.length ≤ b) w := by
  have lt : ∀ b i, φ b = some i → b < bs.length := fun b i hi => by
    rcases Nat.lt_or_ge b bs.length with h1 | h1
    · exact h1
    · rw [h.dom b h1] at hi; cases hi
  have get : ∀ b i, φ b = some i → i.ro = true ∧ ∀ r o, i.a = some (r, o) → r < w.heap.size := fun b i hi => by
    obtain ⟨j, sh, l, h1, _, _, h2, _, h3⟩ := h.at_ b _ (List.getElem?_eq_getElem (lt b i hi))
    rw [hi] at h1
    simp only [Option.some.injEq] at h1; subst h1
    refine ⟨h2, fun r o ha => ?_⟩
    rcases h3 with ⟨h3, _⟩ | ⟨r', o', arr, ty, fz, h3, h4, _⟩
    · rw [h3] at ha; cases ha
    · rw [h3] at ha
      simp only [Option.some.injEq, Prod.mk.injEq] at ha
      obtain ⟨rfl, _⟩ := ha
      exact (Array.getElem?_eq_some_iff.1 h4).1
  have hm : ∀ k, memOf bs k = none := memOf_ro fun b c hc => by
    obtain ⟨_, _, _, _, rfl, _⟩ := h.at_ b c hc; rfl
  have hh : hdsIn bs out = fun b => (bs[b]?).map (·.h) := hdsIn_none fun b c hc => by
    obtain ⟨_, _, _, _, rfl, _⟩ := h.at_ b c hc; rfl
  refine ⟨fun k x hk => ?_, fun b g hg => ?_, fun k x g hk => ?_, fun b b' i i' r o o' h1 h2 _ _ => ?_, fun b i r o h1 _ h3 => ?_, fun b i r o h1 h2 _ => ?_, fun b hb => h.dom b hb, fun b i r o h1 h2 => ?_, rfl, rfl, rfl, Nat.le_refl _, fun _ _ _ => rfl, fun _ => rfl⟩
  · rw [hm] at hk; cases hk
  · rw [hh] at hg
    obtain ⟨c, hc, rfl⟩ := Option.map_eq_some_iff.1 hg
    obtain ⟨i, sh, l, g1, rfl, g2, g3, g4, g5⟩ := h.at_ b c hc
    refine ⟨i, g1, g2, g3, nofun, fun R hR => ?_⟩
    have hR' : some (⟨0, sh, l, none⟩ : Rw) = some R := hR
    simp only [Option.some.injEq] at hR'; subst hR'
    refine ⟨g4.symm, fun N hN => (nomatch hN), ?_⟩
    rcases g5 with ⟨g5, g6⟩ | ⟨r, o, arr, ty, fz, g5, g6, g7, g8⟩
    · exact .inl ⟨g5, g6, rfl⟩
    · exact .inr ⟨r, o, arr, ty, fz, g5, g6, g7, by simpa using g8⟩
  · rw [hm] at hk; cases hk
  · exact .inr ⟨(get b i h1).1, (get b' i' h2).1⟩
  · rw [(get b i h1).1] at h3; cases h3
  · exact ⟨(get b i h1).2 r o h2, id⟩
  · exact (get b i h1).2 r o h2

/-- One slice more. -/
theorem RoB.add {w : World} {φ : Phi} {bs : List BC} (h : RoB w φ bs) {sh : List Kd} {l : List (List Int)} {v : Value} (hv : SlcIn w sh l v) :
    ∃ ψ, φ.le ψ ∧ RoB w ψ (bs ++ [roBC sh l]) ∧ At.rel ψ (.slc true bs.length 0 0 sh.length 0 l.length) v ∧ (l ≠ [] → At.rel ψ (.vec bs.length 0 sh.length) v) := by
  obtain ⟨a, cap, rfl, hc, hm, hl⟩ := hv
  have hd := h.dom bs.length (Nat.le_refl _)
  have mk : ∀ j : Inf, j.v = 0 → j.ro = true → j.n = l.length → ((j.a = none ∧ l = []) ∨ ∃ r o arr ty fz, j.a = some (r, o) ∧ w.heap[r]? = some (.cells arr ty fz) ∧ RowsIn arr o ⟨0, sh, l, none⟩ ∧ l.length * sh.length ≤ j.z) →
      φ.le (setP φ bs.length j) ∧ RoB w (setP φ bs.length j) (bs ++ [roBC sh l]) := fun j j1 j2 j3 j4 => by
    refine ⟨phi_upd_le (.inl hd), ⟨fun b c hb => ?_, fun b hb => ?_⟩⟩
    · rw [List.getElem?_append] at hb
      split at hb
      · rename_i hlt
        obtain ⟨i, sh', l', g1, g2⟩ := h.at_ b c hb
        exact ⟨i, sh', l', by unfold setP; rw [if_neg (by omega)]; exact g1, g2⟩
      · rename_i hge
        have e : b = bs.length := by
          rcases Nat.lt_or_ge (b - bs.length) 1 with h1 | h1
          · omega
          · rw [List.getElem?_eq_none (by simpa using h1)] at hb; cases hb
        subst e
        rw [Nat.sub_self] at hb
        simp only [List.getElem?_cons_zero, Option.some.injEq] at hb
        exact ⟨j, sh, l, setP_same .., hb.symm, j1, j2, j3, j4⟩
    · unfold setP
      rw [List.length_append] at hb
      simp only [List.length_cons, List.length_nil] at hb
      rw [if_neg (by omega)]
      exact h.dom b (by omega)
  rcases hl with rfl | ⟨r, o, arr, ty, fz, rfl, h1, h2⟩
  · obtain ⟨m1, m2⟩ := mk ⟨0, none, 0, 0, 0, true⟩ rfl rfl rfl (.inl ⟨rfl, rfl⟩)
    refine ⟨_, m1, m2, ⟨⟨rfl, rfl⟩, _, setP_same .., Nat.le_refl _, fun _ => ⟨Nat.le_refl _, a, cap, rfl, hc, .inl rfl⟩⟩, fun h => absurd rfl h⟩
  · obtain ⟨m1, m2⟩ := mk ⟨ty, some (r, o), cap * sh.length, l.length, 0, true⟩ rfl rfl rfl (.inr ⟨r, o, arr, ty, fz, rfl, h1, h2, Nat.mul_le_mul_right _ hc⟩)
    refine ⟨_, m1, m2, ⟨⟨rfl, rfl⟩, _, setP_same .., Nat.le_refl _, fun _ => ⟨by simp, some ⟨r, o, none⟩, cap, rfl, hc, .inr ⟨r, o, rfl, by simp⟩⟩⟩, fun _ => ⟨⟨rfl, rfl⟩, _, setP_same .., Nat.le_refl _, fun _ => .inr ⟨r, o, cap, rfl, rfl, hc, rfl, hm⟩⟩⟩

theorem AllC.use {w : World} : ∀ {ks : List Kc} {bs : List BC} {Q : List At → List BC → Prop} {cs : List Value} {φ : Phi}, AllC ks bs Q → All2 (CF w) ks cs → RoB w φ bs →
    ∃ ags bs' ψ, φ.le ψ ∧ RoB w ψ bs' ∧ All2 (At.rel ψ) ags cs ∧ Q ags bs'
  | [], bs, Q, cs, φ, h, hc, hb => by cases hc; exact ⟨[], bs, φ, φ.le_refl, hb, .nil, h⟩
  | .one (.int k) :: ks, bs, Q, cs, φ, h, hc, hb => by
    cases hc with
    | cons a b =>
      obtain ⟨x, ⟨n, rfl, h1, h2⟩, hv⟩ := a
      obtain ⟨ags, bs', ψ, p1, p2, p3, p4⟩ := (h n h1 h2).use b hb
      exact ⟨_ :: ags, bs', ψ, p1, p2, .cons (At.rel_mono (φ := fun _ => none) (fun _ _ h => nomatch h) hv) p3, p4⟩
  | .one .bool :: ks, bs, Q, cs, φ, h, hc, hb => by
    cases hc with
    | cons a b =>
      obtain ⟨x, ⟨n, rfl⟩, hv⟩ := a
      obtain ⟨ags, bs', ψ, p1, p2, p3, p4⟩ := (h n).use b hb
      exact ⟨_ :: ags, bs', ψ, p1, p2, .cons (At.rel_mono (φ := fun _ => none) (fun _ _ h => nomatch h) hv) p3, p4⟩
  | .one .str :: ks, bs, Q, cs, φ, h, hc, hb => by
    cases hc with
    | cons a b =>
      obtain ⟨x, ⟨n, rfl, h1⟩, hv⟩ := a
      obtain ⟨ags, bs', ψ, p1, p2, p3, p4⟩ := (h n h1).use b hb
      exact ⟨_ :: ags, bs', ψ, p1, p2, .cons (At.rel_mono (φ := fun _ => none) (fun _ _ h => nomatch h) hv) p3, p4⟩
  | .slc sh :: ks, bs, Q, cs, φ, h, hc, hb => by
    cases hc with
    | cons a b =>
      obtain ⟨l, h1, h2, h3⟩ := a
      obtain ⟨χ, q1, q2, q3, -⟩ := hb.add h3
      obtain ⟨ags, bs', ψ, p1, p2, p3, p4⟩ := (h l h1 h2).use b q2
      exact ⟨_ :: ags, bs', ψ, Phi.le_trans q1 p1, p2, .cons (At.rel_mono p1 q3) p3, p4⟩

/-- The shape of a parameter. -/
def kcShape (P : Program) (t : TypeId) : Option (Bool × List Kc) :=
  match P.underlying t with
  | some (.struct _) | some (.array _ _) => match kcT P 20 t with
    | some ks => some (true, ks)
    | none => none
  | some _ => match kcT P 20 t with
    | some [k] => some (false, [k])
    | _ => none
  | none => none

def kcShapes (P : Program) : List TypeId → Option (List (Bool × List Kc))
  | [] => some []
  | t :: ts => match kcShape P t, kcShapes P ts with
    | some s, some ss => some (s :: ss)
    | _, _ => none

theorem argsB_open {H : Type} {enc : TypeId × Value → H} {P : Program} {w : World} {r : Reach} {base : Nat} : ∀ {ts : List TypeId} {vs : List Value} {ds : List (DataW H)} {ps : List MemPlace} {ss : List (Bool × List Kc)} {bs : List BC} {Q : List LV → List BC → Prop} {φ : Phi}, kcShapes P ts = some ss →
    DataW.TrodAll enc P w 0 (fun _ => true) true ts vs ds ps → (∀ (j : Nat) t v, ts[j]? = some t → vs[j]? = some v → Value.okWide P w r base t v) → AllB ss bs Q → RoB w φ bs →
    ∃ ags bs' ψ, φ.le ψ ∧ RoB w ψ bs' ∧ All2 (LV.rel ψ) ags vs ∧ Q ags bs'
  | [], [], [], ps, ss, bs, Q, φ, hs, _, _, h, hb => by
    simp only [kcShapes, Option.some.injEq] at hs; subst hs
    exact ⟨[], bs, φ, φ.le_refl, hb, .nil, h⟩
  | [], [], _ :: _, ps, ss, bs, Q, φ, hs, ht, _, _, _ => ht.elim
  | [], _ :: _, _, ps, ss, bs, Q, φ, hs, ht, _, _, _ => ht.elim
  | t :: ts, [], _, ps, ss, bs, Q, φ, hs, ht, _, _, _ => ht.elim
  | t :: ts, v :: vs, [], ps, ss, bs, Q, φ, hs, ht, _, _, _ => ht.elim
  | t :: ts, v :: vs, d :: ds, ps, ss, bs, Q, φ, hs, ht, hw, h, hb => by
    obtain ⟨p, q, ⟨fuel, h1⟩, h2, rfl⟩ := ht
    unfold kcShapes at hs
    split at hs
    · rename_i s ss' k1 k2
      simp only [Option.some.injEq] at hs; subst hs
      obtain ⟨qq, ks⟩ := s
      have hw0 := hw 0 t v (by simp) (by simp)
      have rest := fun {Q'} {bs'} {ψ} => argsB_open (enc := enc) (Q := Q') (bs := bs') (φ := ψ) k2 h2 (fun j u x hj hx => hw (j + 1) u x (by simpa using hj) (by simpa using hx))
      have agg : (∃ cs, v = .agg cs) → kcT P 20 t = some ks → qq = true → ∃ ags bs' ψ, φ.le ψ ∧ RoB w ψ bs' ∧ All2 (LV.rel ψ) ags (v :: vs) ∧ Q ags bs' := fun ⟨cs, hv⟩ hk hq => by
        subst hq hv
        have hcf := trod_kc 20 hk h1
        obtain ⟨l, bs', ψ, p1, p2, p3, p4⟩ := AllC.use h hcf hb
        obtain ⟨ags, bs'', χ, r1, r2, r3, r4⟩ := rest p4 p2
        exact ⟨.g l :: ags, bs'', χ, Phi.le_trans p1 r1, r2, .cons ⟨cs, rfl, p3.mono fun _ _ => At.rel_mono r1⟩ r3, r4⟩
      unfold kcShape at k1
      unfold Value.okWide at hw0
      split at k1
      · rename_i hu
        simp only [hu] at hw0
        obtain ⟨cs, e, _, _⟩ := hw0
        split at k1
        · rename_i ks' hk
          simp only [Option.some.injEq, Prod.mk.injEq] at k1
          obtain ⟨rfl, rfl⟩ := k1
          exact agg ⟨cs, e⟩ hk rfl
        · cases k1
      · rename_i hu
        simp only [hu] at hw0
        obtain ⟨cs, e, _, _⟩ := hw0
        split at k1
        · rename_i ks' hk
          simp only [Option.some.injEq, Prod.mk.injEq] at k1
          obtain ⟨rfl, rfl⟩ := k1
          exact agg ⟨cs, e⟩ hk rfl
        · cases k1
      · rename_i dd hne1 hne2 hu
        simp only [hu] at hw0
        have hwc : Cell.okWide P w r base t v := by
          cases dd <;> first | exact hw0 | exact absurd rfl (hne1 _) | exact absurd rfl (hne2 _ _)
        split at k1
        · rename_i k hk
          simp only [Option.some.injEq, Prod.mk.injEq] at k1
          obtain ⟨rfl, rfl⟩ := k1
          have hone : v.cells = #[v] := by
            cases v with
            | agg cs =>
              exfalso
              unfold Cell.okWide at hwc
              unfold kcT at hk
              cases dd <;> simp only [hu, reduceCtorEq] at hk hwc <;> first | exact absurd rfl (hne1 _) | exact absurd rfl (hne2 _ _) | (unfold Cell.ok at hwc; simp [hu] at hwc)
            | _ => rfl
          have hcf := trod_kc 20 hk h1
          obtain ⟨l, bs', ψ, p1, p2, p3, p4⟩ := AllC.use h hcf hb
          have hlen := p3.length
          have hlen2 := hcf.length
          match l, hlen with
          | [x], hlen =>
            obtain ⟨ags, bs'', χ, r1, r2, r3, r4⟩ := rest p4 p2
            refine ⟨.a x :: ags, bs'', χ, Phi.le_trans p1 r1, r2, .cons ?_ r3, r4⟩
            rw [hone] at p3
            cases p3 with
            | cons p _ => exact At.rel_mono r1 p
          | [], hlen => simp at hlen hlen2; omega
          | _ :: _ :: _, hlen => simp at hlen hlen2; omega
        · cases k1
      · cases k1
    · cases hs

theorem trodAll_stays' {H : Type} {enc : TypeId × Value → H} {P : Program} (hl : laidOutB P = true) {W W' : World} (hb : Below W.heap.size W W') {sp : Nat → Bool} : ∀ {ts : List TypeId} {vs : List Value} {ds : List (DataW H)} {ps : List MemPlace},
    (ts.all fun t => P.readableRec t && decide (t < P.types.size)) = true → DataW.TrodAll enc P W 0 (fun _ => true) true ts vs ds ps → (∀ p ∈ ps, p.block < W.heap.size) → (∀ p ∈ ps, sp p.block = true) →
    DataW.TrodAll enc P W' 0 sp true ts vs ds ps
  | [], [], [], ps, _, h, _, _ => h
  | [], [], _ :: _, ps, _, h, _, _ => h.elim
  | [], _ :: _, _, ps, _, h, _, _ => h.elim
  | t :: ts, [], _, ps, _, h, _, _ => h.elim
  | t :: ts, v :: vs, [], ps, _, h, _, _ => h.elim
  | t :: ts, v :: vs, d :: ds, ps, hr, h, hlt, hs => by
    obtain ⟨p, q, h1, h2, rfl⟩ := h
    simp only [List.all_cons, Bool.and_eq_true] at hr
    exact ⟨p, q, WideElems.Trod_stays hl hr.1.1 (of_decide_eq_true hr.1.2) h1 (fun x hx => hb.same (hlt x (List.mem_append.2 (.inl hx)))) (fun x hx => hs x (List.mem_append.2 (.inl hx))),
      trodAll_stays' hl hb hr.2 h2 (fun x hx => hlt x (List.mem_append.2 (.inr hx))) (fun x hx => hs x (List.mem_append.2 (.inr hx))), rfl⟩

theorem trodAll_len {H : Type} {enc : TypeId × Value → H} {P : Program} {W : World} {sp : Nat → Bool} {hd : Bool} : ∀ {ts : List TypeId} {vs : List Value} {ds : List (DataW H)} {ps : List MemPlace},
    DataW.TrodAll enc P W 0 sp hd ts vs ds ps → ds.length = ts.length
  | [], [], [], ps, _ => rfl
  | [], [], _ :: _, ps, h => h.elim
  | [], _ :: _, _, ps, h => h.elim
  | t :: ts, [], _, ps, h => h.elim
  | t :: ts, v :: vs, [], ps, h => h.elim
  | t :: ts, v :: vs, d :: ds, ps, h => by
    obtain ⟨p, q, _, h2, _⟩ := h
    simp [trodAll_len h2]

/-- The row's step for a law whose arguments hold slices: whatever the arguments, it returns true. -/
theorem law_liftedB {C : Checked} {os : Os} (started : os.Started) {H : Type} (enc : TypeId × Value → H) {f : Nat} {fn : Func} {s : ChangeSpec} {ss : List (Bool × List Kc)} {tb : TypeId}
    (own : ownKnob C.prog.godebug = none) (hi : C.prog.inits.idxOf? f = none) (hf : C.prog.funcs[f]? = some fn) (hv : s.vars = [])
    (hfn : ∀ ds : List (DataW H), ds.length = fn.params.toList.length → s.fn H (ds ++ []) = { results := [.lit (.bool true)], args := ds })
    (hlo : laidOutB C.prog = true) (hp : (fn.params.toList.all fun t => C.prog.readableRec t && decide (t < C.prog.types.size)) = true) (hs : kcShapes C.prog fn.params.toList = some ss) (hr : fn.resultTypes = #[tb]) (htb : C.prog.underlying tb = some .bool)
    (wit : ∃ (w : World) (tape : Tape) (i : Input), w.os = os ∧ World.Shaped C.prog (w.forCall tape i) ∧ i.vars = [] ∧ Input.okWide C.prog (w.forCall tape i) Reach.any w.heap.size f i ∧
      ChangeSpec.pre6 enc C.prog fn s [] false (w.forCall tape i).memory i.args ∧ Assume.holds {} C.prog (lone (Frame.enter C.prog f i.args CallKind.normal) [] (w.forCall tape i)))
    (core : AllB ss [] fun ags bs => ∀ (vs : Array Value) (w : World) (φ : Phi), All2 (LV.rel φ) ags vs.toList → (∀ out, MR w (fun _ => False) φ (memOf bs) (hdsIn bs out) (fun b => bs.length ≤ b) w) → Calls C.prog f vs w fun e w' => e = .returned (.bool true) ∧ Grows w w') :
    ReturnsInHanded {} C os f .any (s.pre6 enc C.prog fn [] false) (s.post enc C.prog fn false true false false) := by
  refine returnsInHanded_of_change own started hi hf wit ?_
  intro W base args ds gs before hval hW hcnd _
  have hW' := hW
  obtain ⟨p, q, hA, hV, rfl, hfz, hnd⟩ := hW
  rw [hv] at hV
  obtain ⟨rfl, rfl⟩ := trodVars_none hV
  have hlt : ∀ x ∈ p, x.block < W.heap.size := fun x hx => by simpa using hW'.lt x (List.mem_append.2 (.inl hx))
  obtain ⟨ags, bs, φ, _, a0, a1, a2⟩ := argsB_open hs hA (fun j t v h1 h2 => hval j t v (by simpa using h1) (by simpa using h2)) core (RoB.nil W)
  have hdl : ds.length = fn.params.toList.length := trodAll_len hA
  refine (a2 args W φ a1 (fun out => a0.mr out)).mono fun e W' ⟨he, hg⟩ => ?_
  subst he
  have e1 := hfn ds hdl
  refine ⟨_, rfl, post_of_same (pa := p) (pv := []) hW' ?_ ?_ ?_ rfl (hg.below.frame _) hg.frz ?_⟩
  · intro b sp hd
    rw [e1, hr]
    exact trodAll_cons_mk (shut_bool htb _) trodAll_mk0
  · intro sp hsp
    rw [e1]
    exact trodAll_stays' hlo hg.below hp hA hlt (fun x hx => hsp x (List.mem_append.2 (.inl hx)))
  · intro sp _
    rw [hv, e1]
    exact rfl
  · exact ok_one hr rfl (okWide_bool_mk htb _)

theorem law_coreB {P : Program} {f : Nat} {c : Con} (hc : ConOK P f c) {args : List LV} {bs : List BC} {obs : List Prop} {m b : Bool} {out : List (Option BC)} (he : c args bs = some (obs, .a (.bool m b), out)) (ho : Alls obs) (hb : b = true) (vs : Array Value) (w : World) (φ : Phi)
    (h : All2 (LV.rel φ) args vs.toList) (hM : ∀ out, MR w (fun _ => False) φ (memOf bs) (hdsIn bs out) (fun b => bs.length ≤ b) w) : Calls P f vs w fun e w' => e = .returned (.bool true) ∧ Grows w w' := by
  refine (hc _ _ _ _ _ he ho φ vs w (fun _ => False) h (hM out)).mono fun e w' hh => ?_
  obtain ⟨v', φ', rfl, _, hv, hm⟩ := hh
  have hv' : v' = .bool b := hv
  exact ⟨by rw [hv', hb], ⟨hm.os, hm.tape, hm.output, hm.size, fun k hk => hm.block k hk id⟩, hm.frz⟩

end Go.Proofs.Ytcdejlgophpdjaa.V
end

section
namespace Go.Proofs.Ytcdejlgophpdjaa.V
open Go Go.RowKit Go.ChangeShapes Go.WideShapes Go.ChangeAt

theorem all2_hd {α β : Type} {R : α → β → Prop} {x y : α} {l : List α} {m : List β} (h : All2 R (x :: l) m) (k : ∀ v, R x v → R y v) : All2 R (y :: l) m := by
  cases h with
  | cons a b => exact .cons (k _ a) b

def slcOr (b : Nat) (sh : List Kd) (l : List (List Int)) : At := match Nat.beq sh.length 5 with
  | true => match l with
    | _ :: _ => .vec b 0 sh.length
    | [] => .slc true b 0 0 sh.length 0 l.length
  | false => .slc true b 0 0 sh.length 0 l.length

theorem slcOr_rel {φ : Phi} {b : Nat} {sh : List Kd} {l : List (List Int)} {v : Value} (h : At.rel φ (.slc true b 0 0 sh.length 0 l.length) v) (k : l ≠ [] → At.rel φ (.vec b 0 sh.length) v) : At.rel φ (slcOr b sh l) v := by
  unfold slcOr
  split
  · cases l with
    | nil => exact h
    | cons r m => exact k (by simp)
  · exact h

/-- For all cells of these kinds, and the blocks behind them. -/
def AllCn : List Kc → List BC → (List At → List BC → Prop) → Prop
  | [], bs, Q => Q [] bs
  | .one (.int k) :: ks, bs, Q => ∀ n : Int, k.min ≤ n → n ≤ k.max → AllCn ks bs fun l bs' => Q (.int true k n :: l) bs'
  | .one .bool :: ks, bs, Q => ∀ b : Bool, AllCn ks bs fun l bs' => Q (.bool true b :: l) bs'
  | .one .str :: ks, bs, Q => ∀ s : ByteArray, (s.size : Int) ≤ IntKind.i64.max → AllCn ks bs fun l bs' => Q (.str true s :: l) bs'
  | .slc sh :: ks, bs, Q => ∀ l : List (List Int), (∀ row ∈ l, RowFit sh row) → l.length ≤ maxLen → AllCn ks (bs ++ [roBC sh l]) fun ags bs' => Q (slcOr bs.length sh l :: ags) bs'

/-- For all arguments of these shapes. -/
def AllBn : List (Bool × List Kc) → List BC → (List LV → List BC → Prop) → Prop
  | [], bs, Q => Q [] bs
  | (true, ks) :: r, bs, Q => AllCn ks bs fun l bs' => AllBn r bs' fun ags bs'' => Q (.g l :: ags) bs''
  | (false, ks) :: r, bs, Q => AllCn ks bs fun l bs' => match l with
    | [x] => AllBn r bs' fun ags bs'' => Q (.a x :: ags) bs''
    | _ => True

theorem AllCn.use {w : World} : ∀ {ks : List Kc} {bs : List BC} {Q : List At → List BC → Prop} {cs : List Value} {φ : Phi}, AllCn ks bs Q → All2 (CF w) ks cs → RoB w φ bs →
    ∃ ags bs' ψ, φ.le ψ ∧ RoB w ψ bs' ∧ All2 (At.rel ψ) ags cs ∧ Q ags bs'
  | [], bs, Q, cs, φ, h, hc, hb => by cases hc; exact ⟨[], bs, φ, φ.le_refl, hb, .nil, h⟩
  | .one (.int k) :: ks, bs, Q, cs, φ, h, hc, hb => by
    cases hc with
    | cons a b =>
      obtain ⟨x, ⟨n, rfl, h1, h2⟩, hv⟩ := a
      obtain ⟨ags, bs', ψ, p1, p2, p3, p4⟩ := (h n h1 h2).use b hb
      exact ⟨_ :: ags, bs', ψ, p1, p2, .cons (At.rel_mono (φ := fun _ => none) (fun _ _ h => nomatch h) hv) p3, p4⟩
  | .one .bool :: ks, bs, Q, cs, φ, h, hc, hb => by
    cases hc with
    | cons a b =>
      obtain ⟨x, ⟨n, rfl⟩, hv⟩ := a
      obtain ⟨ags, bs', ψ, p1, p2, p3, p4⟩ := (h n).use b hb
      exact ⟨_ :: ags, bs', ψ, p1, p2, .cons (At.rel_mono (φ := fun _ => none) (fun _ _ h => nomatch h) hv) p3, p4⟩
  | .one .str :: ks, bs, Q, cs, φ, h, hc, hb => by
    cases hc with
    | cons a b =>
      obtain ⟨x, ⟨n, rfl, h1⟩, hv⟩ := a
      obtain ⟨ags, bs', ψ, p1, p2, p3, p4⟩ := (h n h1).use b hb
      exact ⟨_ :: ags, bs', ψ, p1, p2, .cons (At.rel_mono (φ := fun _ => none) (fun _ _ h => nomatch h) hv) p3, p4⟩
  | .slc sh :: ks, bs, Q, cs, φ, h, hc, hb => by
    cases hc with
    | cons a b =>
      obtain ⟨l, h1, h2, h3⟩ := a
      obtain ⟨χ, q1, q2, q3, q4⟩ := hb.add h3
      obtain ⟨ags, bs', ψ, p1, p2, p3, p4⟩ := (h l h1 h2).use b q2
      exact ⟨_ :: ags, bs', ψ, Phi.le_trans q1 p1, p2, .cons (At.rel_mono p1 (slcOr_rel q3 q4)) p3, p4⟩

theorem argsBn_open {H : Type} {enc : TypeId × Value → H} {P : Program} {w : World} {r : Reach} {base : Nat} : ∀ {ts : List TypeId} {vs : List Value} {ds : List (DataW H)} {ps : List MemPlace} {ss : List (Bool × List Kc)} {bs : List BC} {Q : List LV → List BC → Prop} {φ : Phi}, kcShapes P ts = some ss →
    DataW.TrodAll enc P w 0 (fun _ => true) true ts vs ds ps → (∀ (j : Nat) t v, ts[j]? = some t → vs[j]? = some v → Value.okWide P w r base t v) → AllBn ss bs Q → RoB w φ bs →
    ∃ ags bs' ψ, φ.le ψ ∧ RoB w ψ bs' ∧ All2 (LV.rel ψ) ags vs ∧ Q ags bs'
  | [], [], [], ps, ss, bs, Q, φ, hs, _, _, h, hb => by
    simp only [kcShapes, Option.some.injEq] at hs; subst hs
    exact ⟨[], bs, φ, φ.le_refl, hb, .nil, h⟩
  | [], [], _ :: _, ps, ss, bs, Q, φ, hs, ht, _, _, _ => ht.elim
  | [], _ :: _, _, ps, ss, bs, Q, φ, hs, ht, _, _, _ => ht.elim
  | t :: ts, [], _, ps, ss, bs, Q, φ, hs, ht, _, _, _ => ht.elim
  | t :: ts, v :: vs, [], ps, ss, bs, Q, φ, hs, ht, _, _, _ => ht.elim
  | t :: ts, v :: vs, d :: ds, ps, ss, bs, Q, φ, hs, ht, hw, h, hb => by
    obtain ⟨p, q, ⟨fuel, h1⟩, h2, rfl⟩ := ht
    unfold kcShapes at hs
    split at hs
    · rename_i s ss' k1 k2
      simp only [Option.some.injEq] at hs; subst hs
      obtain ⟨qq, ks⟩ := s
      have hw0 := hw 0 t v (by simp) (by simp)
      have rest := fun {Q'} {bs'} {ψ} => argsBn_open (enc := enc) (Q := Q') (bs := bs') (φ := ψ) k2 h2 (fun j u x hj hx => hw (j + 1) u x (by simpa using hj) (by simpa using hx))
      have agg : (∃ cs, v = .agg cs) → kcT P 20 t = some ks → qq = true → ∃ ags bs' ψ, φ.le ψ ∧ RoB w ψ bs' ∧ All2 (LV.rel ψ) ags (v :: vs) ∧ Q ags bs' := fun ⟨cs, hv⟩ hk hq => by
        subst hq hv
        have hcf := trod_kc 20 hk h1
        obtain ⟨l, bs', ψ, p1, p2, p3, p4⟩ := AllCn.use h hcf hb
        obtain ⟨ags, bs'', χ, r1, r2, r3, r4⟩ := rest p4 p2
        exact ⟨.g l :: ags, bs'', χ, Phi.le_trans p1 r1, r2, .cons ⟨cs, rfl, p3.mono fun _ _ => At.rel_mono r1⟩ r3, r4⟩
      unfold kcShape at k1
      unfold Value.okWide at hw0
      split at k1
      · rename_i hu
        simp only [hu] at hw0
        obtain ⟨cs, e, _, _⟩ := hw0
        split at k1
        · rename_i ks' hk
          simp only [Option.some.injEq, Prod.mk.injEq] at k1
          obtain ⟨rfl, rfl⟩ := k1
          exact agg ⟨cs, e⟩ hk rfl
        · cases k1
      · rename_i hu
        simp only [hu] at hw0
        obtain ⟨cs, e, _, _⟩ := hw0
        split at k1
        · rename_i ks' hk
          simp only [Option.some.injEq, Prod.mk.injEq] at k1
          obtain ⟨rfl, rfl⟩ := k1
          exact agg ⟨cs, e⟩ hk rfl
        · cases k1
      · rename_i dd hne1 hne2 hu
        simp only [hu] at hw0
        have hwc : Cell.okWide P w r base t v := by
          cases dd <;> first | exact hw0 | exact absurd rfl (hne1 _) | exact absurd rfl (hne2 _ _)
        split at k1
        · rename_i k hk
          simp only [Option.some.injEq, Prod.mk.injEq] at k1
          obtain ⟨rfl, rfl⟩ := k1
          have hone : v.cells = #[v] := by
            cases v with
            | agg cs =>
              exfalso
              unfold Cell.okWide at hwc
              unfold kcT at hk
              cases dd <;> simp only [hu, reduceCtorEq] at hk hwc <;> first | exact absurd rfl (hne1 _) | exact absurd rfl (hne2 _ _) | (unfold Cell.ok at hwc; simp [hu] at hwc)
            | _ => rfl
          have hcf := trod_kc 20 hk h1
          obtain ⟨l, bs', ψ, p1, p2, p3, p4⟩ := AllCn.use h hcf hb
          have hlen := p3.length
          have hlen2 := hcf.length
          match l, hlen with
          | [x], hlen =>
            obtain ⟨ags, bs'', χ, r1, r2, r3, r4⟩ := rest p4 p2
            refine ⟨.a x :: ags, bs'', χ, Phi.le_trans p1 r1, r2, .cons ?_ r3, r4⟩
            rw [hone] at p3
            cases p3 with
            | cons p _ => exact At.rel_mono r1 p
          | [], hlen => simp at hlen hlen2; omega
          | _ :: _ :: _, hlen => simp at hlen hlen2; omega
        · cases k1
      · cases k1
    · cases hs

/-- The row's step for a law whose arguments hold slices: whatever the arguments, it returns true. -/
theorem law_liftedBn {C : Checked} {os : Os} (started : os.Started) {H : Type} (enc : TypeId × Value → H) {f : Nat} {fn : Func} {s : ChangeSpec} {ss : List (Bool × List Kc)} {tb : TypeId}
    (own : ownKnob C.prog.godebug = none) (hi : C.prog.inits.idxOf? f = none) (hf : C.prog.funcs[f]? = some fn) (hv : s.vars = [])
    (hfn : ∀ ds : List (DataW H), ds.length = fn.params.toList.length → s.fn H (ds ++ []) = { results := [.lit (.bool true)], args := ds })
    (hlo : laidOutB C.prog = true) (hp : (fn.params.toList.all fun t => C.prog.readableRec t && decide (t < C.prog.types.size)) = true) (hs : kcShapes C.prog fn.params.toList = some ss) (hr : fn.resultTypes = #[tb]) (htb : C.prog.underlying tb = some .bool)
    (wit : ∃ (w : World) (tape : Tape) (i : Input), w.os = os ∧ World.Shaped C.prog (w.forCall tape i) ∧ i.vars = [] ∧ Input.okWide C.prog (w.forCall tape i) Reach.any w.heap.size f i ∧
      ChangeSpec.pre6 enc C.prog fn s [] false (w.forCall tape i).memory i.args ∧ Assume.holds {} C.prog (lone (Frame.enter C.prog f i.args CallKind.normal) [] (w.forCall tape i)))
    (core : AllBn ss [] fun ags bs => ∀ (vs : Array Value) (w : World) (φ : Phi), All2 (LV.rel φ) ags vs.toList → (∀ out, MR w (fun _ => False) φ (memOf bs) (hdsIn bs out) (fun b => bs.length ≤ b) w) → Calls C.prog f vs w fun e w' => e = .returned (.bool true) ∧ Grows w w') :
    ReturnsInHanded {} C os f .any (s.pre6 enc C.prog fn [] false) (s.post enc C.prog fn false true false false) := by
  refine returnsInHanded_of_change own started hi hf wit ?_
  intro W base args ds gs before hval hW hcnd _
  have hW' := hW
  obtain ⟨p, q, hA, hV, rfl, hfz, hnd⟩ := hW
  rw [hv] at hV
  obtain ⟨rfl, rfl⟩ := trodVars_none hV
  have hlt : ∀ x ∈ p, x.block < W.heap.size := fun x hx => by simpa using hW'.lt x (List.mem_append.2 (.inl hx))
  obtain ⟨ags, bs, φ, _, a0, a1, a2⟩ := argsBn_open hs hA (fun j t v h1 h2 => hval j t v (by simpa using h1) (by simpa using h2)) core (RoB.nil W)
  have hdl : ds.length = fn.params.toList.length := trodAll_len hA
  refine (a2 args W φ a1 (fun out => a0.mr out)).mono fun e W' ⟨he, hg⟩ => ?_
  subst he
  have e1 := hfn ds hdl
  refine ⟨_, rfl, post_of_same (pa := p) (pv := []) hW' ?_ ?_ ?_ rfl (hg.below.frame _) hg.frz ?_⟩
  · intro b sp hd
    rw [e1, hr]
    exact trodAll_cons_mk (shut_bool htb _) trodAll_mk0
  · intro sp hsp
    rw [e1]
    exact trodAll_stays' hlo hg.below hp hA hlt (fun x hx => hsp x (List.mem_append.2 (.inl hx)))
  · intro sp _
    rw [hv, e1]
    exact rfl
  · exact ok_one hr rfl (okWide_bool_mk htb _)


end Go.Proofs.Ytcdejlgophpdjaa.V
end

section
namespace Go.Proofs.Ytcdejlgophpdjaa
open Go Go.RowKit Go.Proofs.Ytcdejlgophpdjaa.V
set_option linter.unusedVariables false
set_option linter.unusedSectionVars false

namespace Vm

/-- What Program is told. -/
structure Sb (l : List (List Int)) : Prop where
  f : ∀ i j, j < 4 → 0 ≤ rget l i j ∧ rget l i j ≤ 255
  m : ∀ i, -32768 ≤ rget l i 4 ∧ rget l i 4 ≤ 32767

theorem fit_get {s : List (List Int)} {sh : List Kd} (p : ∀ row ∈ s, RowFit sh row) {j : Nat} {kd : IntKind} (hj : sh[j]? = some (.int kd)) (i : Nat) : rget s i j = 0 ∨ (IntKind.min kd ≤ rget s i j ∧ rget s i j ≤ IntKind.max kd) := by
  unfold rget
  cases h : s[i]? with
  | none =>
    have : s.getD i [] = [] := by rw [List.getD_eq_getElem?_getD, h]; rfl
    rw [this]; exact .inl rfl
  | some row =>
    have : s.getD i [] = row := by rw [List.getD_eq_getElem?_getD, h]; rfl
    rw [this]
    obtain ⟨a, b⟩ := p row (List.mem_of_getElem? h)
    have hl : j < row.length := by
      rw [a]; exact (List.getElem?_eq_some_iff.1 hj).1
    have e : row[j]? = some row[j] := List.getElem?_eq_getElem hl
    have e' : row.getD j 0 = row[j] := by rw [List.getD_eq_getElem?_getD, e]; rfl
    rw [e']
    exact .inr (b j (.int kd) _ hj e)
theorem sb_of {l : List (List Int)} (p : ∀ row ∈ l, RowFit [.int .u8, .int .u8, .int .u8, .int .u8, .int .i16, .bool] row) : Sb l := by
  have m8 : IntKind.min .u8 = 0 := rfl
  have M8 : IntKind.max .u8 = 255 := rfl
  have m16 : IntKind.min .i16 = -32768 := rfl
  have M16 : IntKind.max .i16 = 32767 := rfl
  refine ⟨fun i j hj => ?_, fun i => ?_⟩
  · match j, hj with
    | 0, _ => have := fit_get p (j := 0) (kd := .u8) rfl i; omega
    | 1, _ => have := fit_get p (j := 1) (kd := .u8) rfl i; omega
    | 2, _ => have := fit_get p (j := 2) (kd := .u8) rfl i; omega
    | 3, _ => have := fit_get p (j := 3) (kd := .u8) rfl i; omega
  · have := fit_get p (j := 4) (kd := .i16) rfl i; omega

theorem rp_app {p : List (List Int)} (R : Rp p) (hl : p.length < 20) {o d a b m : Int} (ho : 0 ≤ o ∧ o < 15) (hd : 0 ≤ d ∧ d < 12) (ha : 0 ≤ a ∧ a < 9) (hb : 0 ≤ b ∧ b < 12) (hm : -32768 ≤ m ∧ m ≤ 32767) : Rp (p ++ [[o, d, a, b, m]]) := by
  refine ⟨by rw [List.length_append, List.length_singleton]; omega, fun k hk => ?_⟩
  rw [List.length_append, List.length_singleton] at hk
  by_cases h : k < p.length
  · have f := R.f k h
    refine ⟨?_, ?_, ?_, ?_, ?_⟩ <;> rw [rget_app, if_pos h]
    · exact f.op
    · exact f.dst
    · exact f.a
    · exact f.b
    · exact f.m
  · have h' : k = p.length := by omega
    refine ⟨?_, ?_, ?_, ?_, ?_⟩ <;> rw [rget_app, if_neg h, if_pos h']
    · exact ho
    · exact hd
    · exact ha
    · exact hb
    · exact hm
theorem set_app (p : List (List Int)) (r s : List Int) : (p ++ [r]).set p.length s = p ++ [s] := by
  rw [List.set_append_right _ _ (Nat.le_refl _), Nat.sub_self]; rfl
theorem rset_app (p : List (List Int)) (o d a b m b' m' : Int) : rset (rset (p ++ [[o, d, a, b, m]]) p.length 3 [b']) p.length 4 [m'] = p ++ [[o, d, a, b', m']] := by
  have e : ∀ r : List Int, (p ++ [r]).getD p.length [] = r := fun r => by rw [getD_app, if_neg (Nat.lt_irrefl _), if_pos rfl]
  unfold rset
  rw [e, set_app, e, set_app]; rfl

theorem pr1_run {l : List (List Int)} (S : Sb l) (d : Bool) {n : Nat} (hn : n ≤ 9223372036854775807) :
    (∃ x v', pPr_s0 n d l = some (x, v') ∧ v'.a0 = d ∧ Rp v'.a5 ∧ v'.a5.length = min n 20) ∧ lok pPr_l29_st 18446744073709551616 (pPr_l29_T.mk d n (Int.ofNat n) 0 l []) := by
  obtain ⟨⟨x, v', e, hx, Q⟩, ok⟩ := mr_run (st := pPr_l29_st) (I := fun D v => ∃ (k : Nat) (out : List (List Int)), v = pPr_l29_T.mk d n (Int.ofNat n) (k : Int) l out ∧ k ≤ n ∧ D = n - k ∧ Rp out ∧ out.length = min k 20)
    (R := fun x v' => v'.a0 = d ∧ Rp v'.a5 ∧ v'.a5.length = min n 20) (by
      rintro D v ⟨k, out, rfl, hk, hD, R, hl⟩
      have s0 : pPr_l29_s0 (pPr_l29_T.mk d n (Int.ofNat n) (k : Int) l out) = decide (k < n) := by
        unfold pPr_l29_s0
        exact decide_eq_decide.2 (show (k : Int) < (n : Int) ↔ k < n by omega)
      have s1 : pPr_l29_s1 (pPr_l29_T.mk d n (Int.ofNat n) (k : Int) l out) = decide (k < 20) := by
        unfold pPr_l29_s1
        exact decide_eq_decide.2 (show (k : Int) < 20 ↔ k < 20 by omega)
      have f0 := S.f k 0 (by omega)
      have f1 := S.f k 1 (by omega)
      have f2 := S.f k 2 (by omega)
      have f3 := S.f k 3 (by omega)
      have f4 := S.m k
      have s2 : pPr_l29_s2 (pPr_l29_T.mk d n (Int.ofNat n) (k : Int) l out) = rget l k 3 := by
        unfold pPr_l29_s2
        show rget l (0 + Int.toNat (k : Int)) 3 = _
        rw [Nat.zero_add, Int.toNat_natCast]
      have s3 : pPr_l29_s3 (pPr_l29_T.mk d n (Int.ofNat n) (k : Int) l out) = rget l k 4 := by
        unfold pPr_l29_s3
        show rget l (0 + Int.toNat (k : Int)) 4 = _
        rw [Nat.zero_add, Int.toNat_natCast]
      have s4 : pPr_l29_s4 (pPr_l29_T.mk d n (Int.ofNat n) (k : Int) l out) = out ++ [[rget l k 0 % 15, rget l k 1 % 12, rget l k 2 % 9, rget l k 3 % 12, rget l k 4]] := by
        unfold pPr_l29_s4
        rw [s2, s3]
        show out ++ [[Int.tmod (rget l (0 + Int.toNat (k : Int)) 0) 15, Int.tmod (rget l (0 + Int.toNat (k : Int)) 1) 12, Int.tmod (rget l (0 + Int.toNat (k : Int)) 2) 9, _, _]] = _
        rw [Nat.zero_add, Int.toNat_natCast, Int.tmod_eq_emod_of_nonneg f0.1, Int.tmod_eq_emod_of_nonneg f1.1, Int.tmod_eq_emod_of_nonneg f2.1, Int.tmod_eq_emod_of_nonneg f3.1]
      have hlen : (pPr_l29_s4 (pPr_l29_T.mk d n (Int.ofNat n) (k : Int) l out)).length = min k 20 + 1 := by
        rw [s4, List.length_append, List.length_singleton, hl]
      refine ⟨?_, ?_⟩
      · unfold pPr_l29_st
        rw [s0, s1]
        refine ⟨fun h => ?_, fun _ _ => ?_, fun _ h => ?_, trivial⟩
        · have := of_decide_eq_true h
          show (0 : Int) ≤ (k : Int) ∧ (k : Int) < (n : Int)
          omega
        · rw [hlen]; omega
        · have := of_decide_eq_true h
          rw [hlen]
          show (0 : Int) ≤ (k : Int) ∧ (k : Int) < ((min k 20 + 1 : Nat) : Int)
          omega
      · unfold pPr_l29_st
        rw [s0]
        by_cases h : k < n
        · rw [decide_eq_true h]
          have e1 : IntKind.wrap .i64 ((k : Int) + 1) = ((k + 1 : Nat) : Int) := by rw [w64_in (by omega) (by omega)]; rfl
          rw [s1, s2, s3]
          refine .inl ⟨pPr_l29_T.mk d n (Int.ofNat n) ((k + 1 : Nat) : Int) l (bif decide (k < 20) then bif (bif rget (out ++ [[rget l k 0 % 15, rget l k 1 % 12, rget l k 2 % 9, rget l k 3 % 12, rget l k 4]]) k 0 == 12 then true else rget (out ++ [[rget l k 0 % 15, rget l k 1 % 12, rget l k 2 % 9, rget l k 3 % 12, rget l k 4]]) k 0 == 11) then out ++ [[rget l k 0 % 15, rget l k 1 % 12, rget l k 2 % 9, IntKind.wrap .u8 (1 + Int.tmod (rget l k 3) 4), IntKind.wrap .i16 (1 + IntKind.wrap .i16 (Int.ofNat (Int.toNat (rget l k 4 % pPr_l29_s5) &&& Int.toNat (3 % pPr_l29_s5))))]] else out ++ [[rget l k 0 % 15, rget l k 1 % 12, rget l k 2 % 9, rget l k 3 % 12, rget l k 4]] else out), n - (k + 1), ?_, by omega, k + 1, _, rfl, by omega, rfl, ?_, ?_⟩
          · rw [s4]
            show some (X.n, pPr_l29_T.mk d n (Int.ofNat n) (IntKind.wrap .i64 ((k : Int) + 1)) l (bif decide (k < 20) then bif (bif rget _ (Int.toNat (k : Int)) 0 == 12 then true else rget _ (Int.toNat (k : Int)) 0 == 11) then rset (rset _ (Int.toNat (k : Int)) 3 _) (Int.toNat (k : Int)) 4 _ else _ else out)) = _
            rw [e1, Int.toNat_natCast]
            by_cases q : k < 20
            · have hk' : k = out.length := by omega
              rw [decide_eq_true q]
              simp only [cond_true]
              congr 3
              rw [show rset (rset (out ++ [[rget l k 0 % 15, rget l k 1 % 12, rget l k 2 % 9, rget l k 3 % 12, rget l k 4]]) k 3 [IntKind.wrap .u8 (1 + Int.tmod (rget l k 3) 4)]) k 4 [IntKind.wrap .i16 (1 + IntKind.wrap .i16 (Int.ofNat (Int.toNat (rget l k 4 % pPr_l29_s5) &&& Int.toNat (3 % pPr_l29_s5))))] = rset (rset (out ++ [[rget l k 0 % 15, rget l k 1 % 12, rget l k 2 % 9, rget l k 3 % 12, rget l k 4]]) out.length 3 [IntKind.wrap .u8 (1 + Int.tmod (rget l k 3) 4)]) out.length 4 [IntKind.wrap .i16 (1 + IntKind.wrap .i16 (Int.ofNat (Int.toNat (rget l k 4 % pPr_l29_s5) &&& Int.toNat (3 % pPr_l29_s5))))] by rw [← hk'], rset_app]
            · rw [decide_eq_false q]; rfl
          · by_cases q : k < 20
            · rw [decide_eq_true q]
              have lo : out.length < 20 := by omega
              have hb' : 0 ≤ IntKind.wrap .u8 (1 + Int.tmod (rget l k 3) 4) ∧ IntKind.wrap .u8 (1 + Int.tmod (rget l k 3) 4) < 12 := by
                rw [Int.tmod_eq_emod_of_nonneg f3.1, wu8]; omega
              have hm' : -32768 ≤ IntKind.wrap .i16 (1 + IntKind.wrap .i16 (Int.ofNat (Int.toNat (rget l k 4 % pPr_l29_s5) &&& Int.toNat (3 % pPr_l29_s5)))) ∧ IntKind.wrap .i16 (1 + IntKind.wrap .i16 (Int.ofNat (Int.toNat (rget l k 4 % pPr_l29_s5) &&& Int.toNat (3 % pPr_l29_s5)))) ≤ 32767 := by
                have e : pPr_l29_s5 = 65536 := by decide
                rw [e]
                have := and3 (rget l k 4) 65536 (.inr rfl)
                generalize Int.toNat (rget l k 4 % 65536) &&& Int.toNat (3 % 65536) = z at this
                match z, this with
                | 0, _ => decide
                | 1, _ => decide
                | 2, _ => decide
                | 3, _ => decide
              simp only [cond_true]
              cases (bif rget (out ++ [[rget l k 0 % 15, rget l k 1 % 12, rget l k 2 % 9, rget l k 3 % 12, rget l k 4]]) k 0 == 12 then true else rget (out ++ [[rget l k 0 % 15, rget l k 1 % 12, rget l k 2 % 9, rget l k 3 % 12, rget l k 4]]) k 0 == 11)
              · exact rp_app R lo (by omega) (by omega) (by omega) (by omega) (by omega)
              · exact rp_app R lo (by omega) (by omega) (by omega) hb' hm'
            · rw [decide_eq_false q]; exact R
          · by_cases q : k < 20
            · rw [decide_eq_true q]
              simp only [cond_true]
              cases (bif rget (out ++ [[rget l k 0 % 15, rget l k 1 % 12, rget l k 2 % 9, rget l k 3 % 12, rget l k 4]]) k 0 == 12 then true else rget (out ++ [[rget l k 0 % 15, rget l k 1 % 12, rget l k 2 % 9, rget l k 3 % 12, rget l k 4]]) k 0 == 11) <;>
              · simp only [cond_true, cond_false]
                rw [List.length_append, List.length_singleton]; omega
            · rw [decide_eq_false q]
              show out.length = _
              omega
        · rw [decide_eq_false h]
          obtain rfl : k = n := by omega
          exact .inr ⟨.e 0, _, by simp, rfl, rfl, R, hl⟩)
    18446744073709551616 n _ ⟨0, [], rfl, Nat.zero_le _, rfl, ⟨by simp, fun i h => by simp at h⟩, rfl⟩ (by omega)
  exact ⟨⟨x, v', e, Q⟩, ok⟩

theorem pr_spec {l : List (List Int)} (S : Sb l) (d : Bool) {n : Nat} (hn : n ≤ 9223372036854775807) :
    Rp (pPr_0 n d l) ∧ (pPr_0 n d l).length = min n 20 ∧ pCh_0 d (pPr_0 n d l) = 0 ∧ lok pPr_l29_st 18446744073709551616 (pPr_l29_T.mk d n (Int.ofNat n) 0 l []) ∧
    lok pPr_l61_st 18446744073709551616 (pPr_l61_T.mk (pPr_l29_T.a0 (V.valOf (pPr_s0 n d l))) 0 (pPr_l29_T.a5 (V.valOf (pPr_s0 n d l)))) := by
  obtain ⟨⟨x, v', e, e0, R, hl⟩, ok⟩ := pr1_run S d hn
  unfold pPr_0
  rw [e]
  have g0 : pPr_l29_T.a0 (V.valOf (some (x, v'))) = d := e0
  rw [g0]
  obtain ⟨⟨y, u, e2, R2, hl2, c2⟩, ok2⟩ := fix_run (d := d) R
  have e2' : lrun pPr_l61_st 18446744073709551616 (pPr_l61_T.mk d 0 (pPr_l29_T.a5 (V.valOf (some (x, v'))))) = some (y, u) := e2
  rw [e2']
  exact ⟨R2, hl2.trans hl, c2, ok, ok2⟩

section
variable {p : List (List Int)} (B : Pb p)
include B
/-- What a run asks for, and what it takes. -/
theorem run_lok (g : List (List Int)) (h : vRun_s0 p = true) : lok vRa5_l13_st 18446744073709551616 (vRa5_l13_T.mk (Int.ofNat p.length) false 0 g false 0 p) := by
  have h0 : pCh_0 true p = 0 := beq_iff_eq.1 h
  exact (top_run (ok_of B h0) ((ch_spec B true).1 h0).2.2 ⟨g, false, 0⟩ rfl).1
theorem run_st (g : List (List Int)) : (bif vRun_s0 p then vRa5_3 0 (Int.ofNat p.length) g false 0 p else 0) ≤ pFu_0 p := by
  have F0 := Fs_bd B p.length
  rw [(fu_spec B).1]
  cases h : vRun_s0 p with
  | false => show (0 : Int) ≤ _; omega
  | true =>
    have h0 : pCh_0 true p = 0 := beq_iff_eq.1 h
    have := top_run (ok_of B h0) ((ch_spec B true).1 h0).2.2 ⟨g, false, 0⟩ rfl
    show vRa5_3 0 (Int.ofNat p.length) g false 0 p ≤ _
    rw [this.2.2.2.2.1]
    exact this.2.2.2.2.2.2
end

theorem awake : vAw_0 = true := by kernel_rfl
theorem aw_rp : Rp vAw_s1 := by
  refine ⟨by decide, fun i h => ?_⟩
  match i, h with
  | 0, _ => exact ⟨by decide, by decide, by decide, by decide, by decide⟩
theorem aw_pb : Pb vAw_s1 := aw_rp.pb

theorem fwi_bd (x : Int) : -4194304 ≤ fWi_0 x 4194304 ∧ fWi_0 x 4194304 ≤ 4194304 := by
  have e : fWi_s1 4194304 = -4194304 := by decide
  unfold fWi_0 fWi_s0
  rw [e]
  split <;> split <;> omega
theorem col_bd (x : Int) : 0 ≤ vCol_0 x ∧ vCol_0 x ≤ 65536 := by
  unfold vCol_0 vCol_s0
  split <;> split <;> omega
theorem col_col (x : Int) : vCol_0 (vCol_0 x) = vCol_0 x := by
  have := col_bd x
  generalize vCol_0 x = y at this
  unfold vCol_0 vCol_s0
  split <;> split <;> omega
theorem col1 : vCol_1 = vCol_0 := rfl
theorem col2 : vCol_2 = vCol_0 := rfl
theorem col3 : vCol_3 = vCol_0 := rfl
end Vm

end Go.Proofs.Ytcdejlgophpdjaa
end

section
namespace Go.Proofs.Ytcdejlgophpdjaa
open Go Go.RowKit Go.Proofs.Ytcdejlgophpdjaa.V
set_option linter.unusedVariables false
set_option linter.unusedSectionVars false

namespace Vm
theorem both {p : List (List Int)} (B : Pb p) (h : pCh_0 true p = 0) (z : List Int) :
    vRun_s3 z p = r7Ru2_0 0 (Int.ofNat (pRef_0 p).length) (pRef_0 p) (rowsOf rCl_0 z) false false 0 ∧
    vRun_48 z p = r7Ru2_1 0 (Int.ofNat (pRef_0 p).length) (pRef_0 p) (rowsOf rCl_0 z) false false 0 ∧
    vRun_49 z p = r7Ru2_3 0 (Int.ofNat (pRef_0 p).length) (pRef_0 p) (rowsOf rCl_0 z) false false 0 ∧
    lok r7Ru2_l3_st 18446744073709551616 (r7Ru2_l3_T.mk (Int.ofNat (pRef_0 p).length) 0 (pRef_0 p) (rowsOf rCl_0 z) false false 0) := by
  have O := ok_of B h
  have F := ((ch_spec B true).1 h).2.2
  obtain ⟨Q, -⟩ := ref_spec B
  obtain ⟨ok, v', e, e3, e4, e6, -⟩ := ref_top O Q F ⟨rowsOf rCl_0 z, false, 0⟩ rfl (rows_rg z)
  obtain ⟨-, -, a1, a2, a3, -, -⟩ := top_run O F ⟨rowsOf rCl_0 z, false, 0⟩ rfl
  have s0 : vRun_s0 p = true := beq_iff_eq.2 h
  rw [Q.len]
  unfold vRun_s3 vRun_48 vRun_49 r7Ru2_0 r7Ru2_1 r7Ru2_3
  rw [s0, run_rows]
  simp only at a1 a2 a3 e e3 e4 e6
  rw [e]
  exact ⟨a1.trans e3.symm, a2.trans e4.symm, a3.trans e6.symm, ok⟩
end Vm

end Go.Proofs.Ytcdejlgophpdjaa
end

section
namespace Go.Proofs.Ytcdejlgophpdjaa
open Go Go.RowKit Go.Proofs.Ytcdejlgophpdjaa.V
set_option linter.unusedVariables false
set_option linter.unusedSectionVars false

namespace Vm
theorem rget_l {p q : List (List Int)} {i : Nat} (h : i < p.length) (j : Nat) : rget (p ++ q) i j = rget p i j := by
  have e : (p ++ q).getD i [] = p.getD i [] := by
    rw [List.getD_eq_getElem?_getD, List.getD_eq_getElem?_getD, List.getElem?_append_left h]
  unfold rget
  rw [e]
theorem rget_r (p q : List (List Int)) (i j : Nat) : rget (p ++ q) (p.length + i) j = rget q i j := by
  have e : (p ++ q).getD (p.length + i) [] = q.getD i [] := by
    rw [List.getD_eq_getElem?_getD, List.getD_eq_getElem?_getD, List.getElem?_append_right (by omega), Nat.add_sub_cancel_left]
  unfold rget
  rw [e]

/-- What may be, told by the instruction, is what Check finds. -/
theorem ck_conv {p : List (List Int)} (B : Pb p) {i : Nat} (hi : i < p.length) (I : Ins p i) : ckAt p true i = 0 := by
  have hl := B.len
  have b0 := B.f i 0 (by omega)
  have b3 := B.f i 3 (by omega)
  have bm := B.m i
  have e6 : pCk_s6 (i : Int) (rget p i 4) = (i : Int) + 1 + rget p i 4 := by
    unfold pCk_s6
    rw [w64_in (n := (i : Int) + 1) (by omega) (by omega), w64_in (n := rget p i 4) (by omega) (by omega), w64_in (by omega) (by omega)]
  have h0 : pCk_s0 (rget p i 0) true = false := by
    unfold pCk_s0
    have := I.op
    rw [decide_eq_false (by omega)]
    cases rget p i 0 == 13 <;> rfl
  have h1 : pCk_s1 (rget p i 0) (rget p i 2) = false := by
    unfold pCk_s1
    by_cases q : rget p i 0 = 14
    · have := I.mat q
      rw [decide_eq_false (by omega)]
      cases rget p i 0 == 14 <;> rfl
    · rw [show (rget p i 0 == 14) = false from beq_eq_false_iff_ne.2 q]; rfl
  have h2 : pCk_s2 (rget p i 0) (rget p i 1) (rget p i 2) (rget p i 3) = false := by
    unfold pCk_s2
    have := I.dst
    have := I.a
    rw [h1, decide_eq_false (by omega), decide_eq_false (by omega)]
    by_cases q : rget p i 0 = 12
    · rw [show (rget p i 0 != 12) = false by rw [q]; rfl]; rfl
    · have := I.b q
      rw [show (rget p i 0 != 12) = true from bne_iff_ne.2 q, decide_eq_false (by omega)]; rfl
  have h5 : pCk_s5 (i : Int) (rget p i 0) (rget p i 3) (rget p i 4) p = false := by
    unfold pCk_s5 pCk_s4
    by_cases q : rget p i 0 = 12
    · obtain ⟨c1, c2, c3, c4, c5⟩ := I.loop q
      have w : pWi_2 (i : Int) p = false := by
        rcases (wi_spec B (i : Int)).1 with ⟨_, l, b, _⟩ | ⟨b, _⟩
        · exact absurd b (c1 l)
        · exact b
      rw [q, w, w64_in (n := rget p i 3) (by omega) (by omega), w64_in (n := Int.ofNat p.length - (i : Int)) (by simp only [Int.ofNat_eq_natCast]; omega) (by simp only [Int.ofNat_eq_natCast]; omega), w64_in (by simp only [Int.ofNat_eq_natCast]; omega) (by simp only [Int.ofNat_eq_natCast]; omega)]
      simp only [Int.ofNat_eq_natCast]
      rw [decide_eq_false (by omega), decide_eq_false (by omega), decide_eq_false (by omega), decide_eq_false (by omega)]; rfl
    · rw [show (rget p i 0 == 12) = false from beq_eq_false_iff_ne.2 q]; rfl
  unfold ckAt pCk_0
  rw [h0, h2, h5]
  by_cases q : rget p i 0 = 11
  · obtain ⟨c1, c2, c3, c4⟩ := I.skip q
    have h7 : pCk_s7 (i : Int) (rget p i 4) p = false := by
      unfold pCk_s7 pCk_s4
      rw [e6]
      simp only [Int.ofNat_eq_natCast]
      rw [decide_eq_false (by omega), decide_eq_false (by omega)]
      cases w : pWi_2 (i : Int) p with
      | false => rfl
      | true =>
        have := c3 w
        rw [decide_eq_false (by omega)]; rfl
    rw [q, h7, e6]
    show (bif _ then (12 : Int) else 0) = 0
    cases w : pWi_2 ((i : Int) + 1 + rget p i 4) p with
    | false => rfl
    | true =>
      obtain ⟨d1, d2⟩ := c4 w
      rw [d1, d2, beq_self_eq_true]; rfl
  · rw [show (rget p i 0 != 11) = true from bne_iff_ne.2 q]; rfl

section
variable {p q : List (List Int)} (O : Ok p) (O' : Ok q) (hp : p.length ≤ 400) (hq : q.length ≤ 400)
include O O' hp hq

theorem pb_app : Pb (p ++ q) := by
  have key : ∀ i, (∃ k, ∀ j, rget (p ++ q) i j = rget p k j) ∨ (∃ k, ∀ j, rget (p ++ q) i j = rget q k j) := fun i => by
    by_cases h : i < p.length
    · exact .inl ⟨i, rget_l h⟩
    · exact .inr ⟨i - p.length, fun j => by
        have := rget_r p q (i - p.length) j
        rwa [show p.length + (i - p.length) = i by omega] at this⟩
  refine ⟨by rw [List.length_append]; omega, fun i j hj => ?_, fun i => ?_⟩
  · rcases key i with ⟨k, h⟩ | ⟨k, h⟩ <;> rw [h]
    · exact O.f k j hj
    · exact O'.f k j hj
  · rcases key i with ⟨k, h⟩ | ⟨k, h⟩ <;> rw [h]
    · exact O.m k
    · exact O'.m k
theorem inb_l {k : Nat} (hk : k < p.length) (x : Int) : Inb (p ++ q) k x ↔ Inb p k x := by
  unfold Inb
  rw [rget_l hk, rget_l hk, List.length_append]
  exact ⟨fun h => ⟨hk, h.2⟩, fun h => ⟨by omega, h.2⟩⟩
theorem inb_r (k : Nat) (x : Int) : Inb (p ++ q) (p.length + k) ((p.length : Int) + x) ↔ Inb q k x := by
  unfold Inb
  rw [rget_r, rget_r, List.length_append]
  exact ⟨fun h => ⟨by omega, h.2.1, by omega, by omega⟩, fun h => ⟨by omega, h.2.1, by omega, by omega⟩⟩
theorem inb_lt {k : Nat} {x : Int} (h : Inb p k x) : x < p.length := by
  have := ((O.ins k h.1).loop h.2.1).2.2.1
  have := h.2.2.2
  omega
theorem inb_app {k : Nat} {x : Int} (h : Inb (p ++ q) k x) : (k < p.length ∧ Inb p k x) ∨ ((p.length : Int) < x ∧ ∃ k', k = p.length + k' ∧ Inb q k' (x - p.length)) := by
  by_cases c : k < p.length
  · exact .inl ⟨c, (inb_l O O' hp hq c x).1 h⟩
  · refine .inr ⟨by have := h.2.2.1; omega, k - p.length, by omega, ?_⟩
    have e : k = p.length + (k - p.length) := by omega
    rw [e] at h
    have := (inb_r O O' hp hq (k - p.length) (x - p.length)).1 (by rw [show (p.length : Int) + (x - p.length) = x by omega]; exact h)
    exact this

theorem wi_l {x : Int} (hx : x ≤ p.length) : pWi_2 x (p ++ q) = pWi_2 x p ∧ (pWi_2 x p = true → pWi_0 x (p ++ q) = pWi_0 x p ∧ pWi_1 x (p ++ q) = pWi_1 x p) := by
  have C := pb_app O O' hp hq
  rcases (wi_spec C x).1 with ⟨a, k, b, c, d, e⟩ | ⟨a, b⟩
  · rcases inb_app O O' hp hq b with ⟨hk, b'⟩ | ⟨h, _⟩
    · rcases (wi_spec O.toPb x).1 with ⟨a', k', b2, c', d', e'⟩ | ⟨a', b2⟩
      · have : k = k' := by
          rcases Nat.lt_trichotomy k k' with h | h | h
          · exact absurd b' (c' k h)
          · exact h
          · exact absurd ((inb_l O O' hp hq b2.1 x).2 b2) (c k' h)
        subst this
        exact ⟨a.trans a'.symm, fun _ => ⟨d.trans d'.symm, by rw [e, e', rget_l hk]⟩⟩
      · exact absurd b' (b2 k)
    · omega
  · rcases (wi_spec O.toPb x).1 with ⟨a', k', b2, c', d', e'⟩ | ⟨a', b2⟩
    · exact absurd ((inb_l O O' hp hq b2.1 x).2 b2) (b k')
    · exact ⟨a.trans a'.symm, fun h => by rw [a'] at h; cases h⟩
theorem wi_r {x : Int} (hx : 0 ≤ x) : pWi_2 ((p.length : Int) + x) (p ++ q) = pWi_2 x q ∧ (pWi_2 x q = true → pWi_0 ((p.length : Int) + x) (p ++ q) = p.length + pWi_0 x q ∧ pWi_1 ((p.length : Int) + x) (p ++ q) = p.length + pWi_1 x q) := by
  have C := pb_app O O' hp hq
  rcases (wi_spec C ((p.length : Int) + x)).1 with ⟨a, k, b, c, d, e⟩ | ⟨a, b⟩
  · rcases inb_app O O' hp hq b with ⟨hk, b'⟩ | ⟨h, k1, rfl, b'⟩
    · have := inb_lt O O' hp hq b'; omega
    · rw [show (p.length : Int) + x - p.length = x by omega] at b'
      rcases (wi_spec O'.toPb x).1 with ⟨a', k', b2, c', d', e'⟩ | ⟨a', b2⟩
      · have : k1 = k' := by
          rcases Nat.lt_trichotomy k1 k' with h | h | h
          · exact absurd b' (c' k1 h)
          · exact h
          · exact absurd ((inb_r O O' hp hq k' x).2 b2) (c (p.length + k') (by omega))
        subst this
        exact ⟨a.trans a'.symm, fun _ => ⟨by rw [d, d']; omega, by rw [e, e', rget_r]; omega⟩⟩
      · exact absurd b' (b2 k1)
  · rcases (wi_spec O'.toPb x).1 with ⟨a', k', b2, c', d', e'⟩ | ⟨a', b2⟩
    · exact absurd ((inb_r O O' hp hq k' x).2 b2) (b (p.length + k'))
    · exact ⟨a.trans a'.symm, fun h => by rw [a'] at h; cases h⟩

theorem ins_l {i : Nat} (hi : i < p.length) : Ins (p ++ q) i := by
  have I := O.ins i hi
  have e : ∀ j, rget (p ++ q) i j = rget p i j := rget_l hi
  refine ⟨by rw [e]; exact I.op, by rw [e]; exact I.dst, by rw [e]; exact I.a, by rw [e, e]; exact I.b, by rw [e, e]; exact I.mat, fun h => ?_, fun h => ?_⟩
  · rw [e] at h
    obtain ⟨a, b, c, d, f⟩ := I.loop h
    rw [e, e, List.length_append]
    refine ⟨fun k hk => ?_, b, by omega, d, f⟩
    rcases inb_app O O' hp hq hk with ⟨_, hk⟩ | ⟨hk, _⟩
    · exact a k hk
    · omega
  · rw [e] at h
    obtain ⟨a, b, c, d⟩ := I.skip h
    obtain ⟨w1, w2⟩ := wi_l O O' hp hq (x := (i : Int)) (by omega)
    obtain ⟨v1, v2⟩ := wi_l O O' hp hq (x := (i : Int) + 1 + rget p i 4) (by omega)
    rw [e, List.length_append, w1, v1]
    refine ⟨a, by omega, fun k => by rw [(w2 k).2]; exact c k, fun k => ?_⟩
    obtain ⟨d1, d2⟩ := d k
    exact ⟨d1, by rw [(v2 k).1, (w2 d1).1]; exact d2⟩
theorem ins_r {i : Nat} (hi : i < q.length) : Ins (p ++ q) (p.length + i) := by
  have I := O'.ins i hi
  have e : ∀ j, rget (p ++ q) (p.length + i) j = rget q i j := rget_r p q i
  have ci : ((p.length + i : Nat) : Int) = (p.length : Int) + (i : Int) := by omega
  refine ⟨by rw [e]; exact I.op, by rw [e]; exact I.dst, by rw [e]; exact I.a, by rw [e, e]; exact I.b, by rw [e, e]; exact I.mat, fun h => ?_, fun h => ?_⟩
  · rw [e] at h
    obtain ⟨a, b, c, d, f⟩ := I.loop h
    rw [e, e, List.length_append, ci]
    refine ⟨fun k hk => ?_, b, by omega, d, f⟩
    rcases inb_app O O' hp hq hk with ⟨_, hk⟩ | ⟨_, k', _, hk⟩
    · have := inb_lt O O' hp hq hk; omega
    · rw [show (p.length : Int) + (i : Int) - p.length = (i : Int) by omega] at hk
      exact a k' hk
  · rw [e] at h
    obtain ⟨a, b, c, d⟩ := I.skip h
    obtain ⟨w1, w2⟩ := wi_r O O' hp hq (x := (i : Int)) (by omega)
    obtain ⟨v1, v2⟩ := wi_r O O' hp hq (x := (i : Int) + 1 + rget q i 4) (by omega)
    rw [e, List.length_append, ci, show (p.length : Int) + (i : Int) + 1 + rget q i 4 = (p.length : Int) + ((i : Int) + 1 + rget q i 4) by omega, w1, v1]
    refine ⟨a, by omega, fun k => by rw [(w2 k).2]; have := c k; omega, fun k => ?_⟩
    obtain ⟨d1, d2⟩ := d k
    exact ⟨d1, by rw [(v2 k).1, (w2 d1).1, d2]⟩
theorem ok_app : Ok (p ++ q) := ⟨pb_app O O' hp hq, fun i hi => by
  rw [List.length_append] at hi
  by_cases h : i < p.length
  · exact ins_l O O' hp hq h
  · have := ins_r O O' hp hq (i := i - p.length) (by omega)
    rwa [show p.length + (i - p.length) = i by omega] at this⟩
theorem ch_app (h24 : p.length + q.length ≤ 24) (hF : pFu_0 (p ++ q) ≤ 200) : pCh_0 true (p ++ q) = 0 := by
  have C := ok_app O O' hp hq
  refine (ch_spec C.toPb true).2 ⟨by rw [List.length_append]; omega, fun i hi => ck_conv C.toPb hi (C.ins i hi), ?_⟩
  rw [(fu_spec C.toPb).1] at hF
  exact hF

/-- One step hangs on the instruction alone. -/
theorem st_l {i : Nat} (hi : i < p.length) (g : List (List Int)) (gn : Bool) :
    vSt1_0 (i : Int) g (p ++ q) = vSt1_0 (i : Int) g p ∧ vSt1_1 (i : Int) g (p ++ q) = vSt1_1 (i : Int) g p ∧ vSt1_2 (i : Int) g (p ++ q) = vSt1_2 (i : Int) g p ∧ vSt1_3 (i : Int) g gn (p ++ q) = vSt1_3 (i : Int) g gn p := by
  have h : ∀ j, rget (p ++ q) i j = rget p i j := rget_l hi
  delta vSt1_0 vSt1_1 vSt1_2 vSt1_3
  refine ⟨?_, ?_, ?_, ?_⟩
  all_goals
    delta vSt1_s0 vSt1_s1 vSt1_s2 vSt1_s3 vSt1_s4 vSt1_s5 vSt1_s6 vSt1_s7 vSt1_s8 vSt1_s9 vSt1_s10 vSt1_s11 vSt1_s12 vSt1_s13 vSt1_s14 vSt1_s15 vSt1_s16 vSt1_s17 vSt1_s18 vSt1_s19 vSt1_s20 vSt1_s21 vSt1_s22 vSt1_s23 vSt1_s24 vSt1_s25 vSt1_s26 vSt1_s27 vSt1_s28 vSt1_s29 vSt1_s30 vSt1_s31 vSt1_s32 vSt1_s33 vSt1_s34 vSt1_s35 vSt1_s36 vSt1_s37 vSt1_s38 vSt1_s39
    rw [Int.toNat_natCast]
    try rw [h 0]
    try rw [h 1]
    try rw [h 2]
    try rw [h 3]
    try rw [h 4]
/-- The body of the first program's loop. -/
theorem seg_l {to : Int} (ht : to ≤ p.length) : ∀ (d : Nat) (i : Nat) (s : G), (∀ j : Nat, i ≤ j → (j : Int) < to → rget p j 0 ≠ 12) → seg (p ++ q) to d (i : Int) s = seg p to d (i : Int) s
  | 0, i, s, _ => rfl
  | d + 1, i, s, hn => by
    unfold seg
    by_cases h : (i : Int) < to
    · rw [if_pos h, if_pos h]
      obtain ⟨e0, e1, e2, e3⟩ := st_l O O' hp hq (i := i) (by omega) s.g s.gn
      rw [e0, e1, e2, e3]
      cases on : vSt1_1 (i : Int) s.g p with
      | false => rfl
      | true =>
        obtain ⟨n, hn', n1⟩ : ∃ n : Nat, vSt1_0 (i : Int) s.g p = (n : Int) ∧ i < n := by
          have I := O.ins i (by omega)
          rcases nx1 O.toPb (i := i) (by omega) I (hn i (Nat.le_refl _) h) s.g on with e | ⟨e, e'⟩
          · exact ⟨i + 1, by rw [e]; rfl, by omega⟩
          · have := (I.skip e).1
            exact ⟨((i : Int) + 1 + rget p i 4).toNat, by rw [e']; omega, by omega⟩
        rw [hn']
        exact seg_l ht d n _ fun j h1 h2 => hn j (by omega) h2
    · rw [if_neg h, if_neg h]
/-- More fuel changes nothing. -/
theorem seg_fuel {r : List (List Int)} (C : Ok r) {k : Nat} (hk : k < r.length) (h12 : rget r k 0 = 12) : ∀ (d e : Nat) (i : Nat) (s : G), k + 1 ≤ i → (k : Int) + 1 + rget r k 3 ≤ i + d → seg r ((k : Int) + 1 + rget r k 3) (d + e) (i : Int) s = seg r ((k : Int) + 1 + rget r k 3) d (i : Int) s
  | 0, e, i, s, h1, h2 => by
    cases e with
    | zero => rfl
    | succ e => rw [Nat.zero_add]; unfold seg; rw [if_neg (by omega)]
  | d + 1, e, i, s, h1, h2 => by
    rw [show d + 1 + e = (d + e) + 1 by omega]
    unfold seg
    by_cases h : (i : Int) < (k : Int) + 1 + rget r k 3
    · rw [if_pos h, if_pos h]
      have hb : Inb r k i := ⟨hk, h12, by omega, by omega⟩
      obtain ⟨q1, q2, q3⟩ := in_body C hb
      cases on : vSt1_1 (i : Int) s.g r with
      | false => rfl
      | true =>
        obtain ⟨n, hn', n1⟩ : ∃ n : Nat, vSt1_0 (i : Int) s.g r = (n : Int) ∧ i < n := by
          rcases nx1 C.toPb q1 (C.ins i q1) q2 s.g on with e | ⟨e, e'⟩
          · exact ⟨i + 1, by rw [e]; rfl, by omega⟩
          · have := (q3 e).1
            exact ⟨((i : Int) + 1 + rget r i 4).toNat, by rw [e']; omega, by omega⟩
        rw [hn']
        exact seg_fuel C hk h12 d e n _ (by omega) (by omega)
    · rw [if_neg h, if_neg h]
theorem lp_l {k : Nat} (hk : k < p.length) (h12 : rget p k 0 = 12) : ∀ (T : Nat) (s : G), lp (p ++ q) k T s = lp p k T s
  | 0, s => rfl
  | T + 1, s => by
    have C := ok_app O O' hp hq
    obtain ⟨n1, b1, b2, -, -⟩ := (O.ins k hk).loop h12
    have e3 : rget (p ++ q) k 3 = rget p k 3 := rget_l hk 3
    have e : seg (p ++ q) ((k : Int) + 1 + rget (p ++ q) k 3) (p ++ q).length ((k : Int) + 1) s = seg p ((k : Int) + 1 + rget p k 3) p.length ((k : Int) + 1) s := by
      rw [e3, List.length_append]
      have := seg_fuel O O' hp hq O hk h12 p.length q.length (k + 1) s (Nat.le_refl _) (by omega)
      rw [show ((k + 1 : Nat) : Int) = (k : Int) + 1 from rfl] at this
      rw [← this]
      have := seg_l O O' hp hq (to := (k : Int) + 1 + rget p k 3) b2 (p.length + q.length) (k + 1) s fun j h1 h2 => (in_body O ⟨hk, h12, by omega, h2⟩).2.1
      exact this
    unfold lp
    rw [e]
    cases (seg p ((k : Int) + 1 + rget p k 3) p.length ((k : Int) + 1) s).1 with
    | false => rfl
    | true => exact lp_l hk h12 T _

theorem top_fuel {r : List (List Int)} (C : Ok r) : ∀ (d e i : Nat) (s : G), r.length ≤ i + d → top r (d + e) i s = top r d i s
  | 0, e, i, s, h => by
    cases e with
    | zero => rfl
    | succ e => rw [Nat.zero_add]; unfold top; rw [if_neg (by omega)]
  | d + 1, e, i, s, h => by
    rw [show d + 1 + e = (d + e) + 1 by omega]
    unfold top
    by_cases hi : i < r.length
    · rw [if_pos hi, if_pos hi]
      by_cases h12 : rget r i 0 = 12
      · rw [if_pos h12, if_pos h12]
        obtain ⟨-, b1, -, -, -⟩ := (C.ins i hi).loop h12
        cases (lp r i (rget r i 4).toNat ⟨s.g, s.gn, s.st + 1⟩).1 with
        | false => rfl
        | true => exact top_fuel C d e _ _ (by omega)
      · rw [if_neg h12, if_neg h12]
        cases on : vSt1_1 (i : Int) s.g r with
        | false => rfl
        | true =>
          obtain ⟨n, hn', n1⟩ : ∃ n : Nat, vSt1_0 (i : Int) s.g r = (n : Int) ∧ i < n := by
            rcases nx1 C.toPb hi (C.ins i hi) h12 s.g on with e | ⟨e, e'⟩
            · exact ⟨i + 1, by rw [e]; rfl, by omega⟩
            · have := ((C.ins i hi).skip e).1
              exact ⟨((i : Int) + 1 + rget r i 4).toNat, by rw [e']; omega, by omega⟩
          rw [hn', Int.toNat_natCast]
          exact top_fuel C d e n _ (by omega)
    · rw [if_neg hi, if_neg hi]

/-- The first program, with another one behind it. -/
theorem top_l : ∀ (d i : Nat) (s : G), i ≤ p.length → p.length ≤ i + d → top (p ++ q) (d + q.length) i s = (match (top p d i s).1 with
    | true => top (p ++ q) q.length p.length (top p d i s).2
    | false => (false, (top p d i s).2))
  | 0, i, s, h1, h2 => by
    obtain rfl : i = p.length := by omega
    rw [Nat.zero_add]; rfl
  | d + 1, i, s, h1, h2 => by
    have C := ok_app O O' hp hq
    by_cases hi : i < p.length
    · have e : ∀ j, rget (p ++ q) i j = rget p i j := rget_l hi
      rw [show d + 1 + q.length = (d + q.length) + 1 by omega]
      conv => lhs; unfold top
      rw [if_pos (by rw [List.length_append]; omega), e, e, e]
      have et : top p (d + 1) i s = (if rget p i 0 = 12 then
        (match (lp p i (rget p i 4).toNat ⟨s.g, s.gn, s.st + 1⟩).1 with
        | true => top p d (((i : Int) + 1 + rget p i 3).toNat) (lp p i (rget p i 4).toNat ⟨s.g, s.gn, s.st + 1⟩).2
        | false => (false, (lp p i (rget p i 4).toNat ⟨s.g, s.gn, s.st + 1⟩).2))
      else
        (match vSt1_1 (i : Int) s.g p with
        | true => top p d (vSt1_0 (i : Int) s.g p).toNat ⟨vSt1_2 (i : Int) s.g p, vSt1_3 (i : Int) s.g s.gn p, s.st + 1⟩
        | false => (false, ⟨vSt1_2 (i : Int) s.g p, vSt1_3 (i : Int) s.g s.gn p, s.st + 1⟩))) := by
        conv => lhs; unfold top
        rw [if_pos hi]
        rfl
      rw [et]
      by_cases h12 : rget p i 0 = 12
      · rw [if_pos h12, if_pos h12, lp_l O O' hp hq hi h12]
        obtain ⟨-, b1, b2, -, -⟩ := (O.ins i hi).loop h12
        cases (lp p i (rget p i 4).toNat ⟨s.g, s.gn, s.st + 1⟩).1 with
        | false => rfl
        | true => exact top_l d _ _ (by omega) (by omega)
      · rw [if_neg h12, if_neg h12]
        obtain ⟨e0, e1, e2, e3⟩ := st_l O O' hp hq hi s.g s.gn
        rw [e0, e1, e2, e3]
        cases on : vSt1_1 (i : Int) s.g p with
        | false => rfl
        | true =>
          obtain ⟨n, hn', n1, n2⟩ : ∃ n : Nat, vSt1_0 (i : Int) s.g p = (n : Int) ∧ i < n ∧ n ≤ p.length := by
            rcases nx1 O.toPb hi (O.ins i hi) h12 s.g on with e | ⟨e, e'⟩
            · exact ⟨i + 1, by rw [e]; rfl, by omega, by omega⟩
            · have := (O.ins i hi).skip e
              exact ⟨((i : Int) + 1 + rget p i 4).toNat, by rw [e']; omega, by omega, by omega⟩
          rw [hn', Int.toNat_natCast]
          exact top_l d n _ n2 (by omega)
    · obtain rfl : i = p.length := by omega
      have e : top p (d + 1) p.length s = (true, s) := by unfold top; rw [if_neg (by omega)]
      rw [e, show d + 1 + q.length = q.length + (d + 1) by omega]
      exact top_fuel O O' hp hq C q.length (d + 1) p.length s (by rw [List.length_append]; omega)

/-- So many steps ahead. -/
def ad (c : Int) (s : G) : G := ⟨s.g, s.gn, s.st + c⟩
omit O O' hp hq in
theorem ad1 (c : Int) (g : List (List Int)) (gn : Bool) (st : Int) : (⟨g, gn, (ad c ⟨g, gn, st⟩).st + 1⟩ : G) = ad c ⟨g, gn, st + 1⟩ := by
  unfold ad
  simp only [G.mk.injEq, true_and]
  omega
omit hp hq in
theorem st_r {i : Nat} (hi : i < q.length) (g : List (List Int)) (gn : Bool) :
    vSt1_1 ((p.length + i : Nat) : Int) g (p ++ q) = vSt1_1 (i : Int) g q ∧ vSt1_2 ((p.length + i : Nat) : Int) g (p ++ q) = vSt1_2 (i : Int) g q ∧ vSt1_3 ((p.length + i : Nat) : Int) g gn (p ++ q) = vSt1_3 (i : Int) g gn q := by
  have h : ∀ j, rget (p ++ q) (p.length + i) j = rget q i j := rget_r p q i
  delta vSt1_1 vSt1_2 vSt1_3
  refine ⟨?_, ?_, ?_⟩
  all_goals
    delta vSt1_s0 vSt1_s1 vSt1_s2 vSt1_s3 vSt1_s4 vSt1_s5 vSt1_s6 vSt1_s7 vSt1_s8 vSt1_s9 vSt1_s10 vSt1_s11 vSt1_s12 vSt1_s13 vSt1_s14 vSt1_s15 vSt1_s16 vSt1_s17 vSt1_s18 vSt1_s19 vSt1_s20 vSt1_s21 vSt1_s22 vSt1_s23 vSt1_s24 vSt1_s25 vSt1_s26 vSt1_s27 vSt1_s28 vSt1_s29 vSt1_s30 vSt1_s31 vSt1_s32 vSt1_s33 vSt1_s34 vSt1_s35 vSt1_s36 vSt1_s37 vSt1_s38 vSt1_s39
    rw [Int.toNat_natCast, Int.toNat_natCast]
    try rw [h 0]
    try rw [h 1]
    try rw [h 2]
    try rw [h 3]
    try rw [h 4]
theorem st_r0 {i : Nat} (hi : i < q.length) (h12 : rget q i 0 ≠ 12) (g : List (List Int)) (on : vSt1_1 (i : Int) g q = true) :
    vSt1_0 ((p.length + i : Nat) : Int) g (p ++ q) = (p.length : Int) + vSt1_0 (i : Int) g q := by
  have C := pb_app O O' hp hq
  have h : ∀ j, rget (p ++ q) (p.length + i) j = rget q i j := rget_r p q i
  have bm := O'.m i
  have e1 : ∀ x : Nat, x ≤ 1000 → vSt1_s19 (x : Int) = (x : Int) + 1 := fun x hx => by
    unfold vSt1_s19
    exact w64_in (by omega) (by omega)
  have e18 : vSt1_s18 ((p.length + i : Nat) : Int) g (p ++ q) = vSt1_s18 (i : Int) g q := by
    delta vSt1_s18
    delta vSt1_s0 vSt1_s1 vSt1_s2 vSt1_s3 vSt1_s4 vSt1_s5 vSt1_s6 vSt1_s7 vSt1_s8 vSt1_s9 vSt1_s10 vSt1_s11 vSt1_s12 vSt1_s13 vSt1_s14 vSt1_s15 vSt1_s16 vSt1_s17
    rw [Int.toNat_natCast, Int.toNat_natCast]
    try rw [h 0]
    try rw [h 1]
    try rw [h 2]
    try rw [h 3]
    try rw [h 4]
  have e0 : vSt1_s0 ((p.length + i : Nat) : Int) (p ++ q) = vSt1_s0 (i : Int) q := by unfold vSt1_s0; rw [Int.toNat_natCast, Int.toNat_natCast, h]
  have e11 : vSt1_s11 ((p.length + i : Nat) : Int) (p ++ q) = vSt1_s11 (i : Int) q := by unfold vSt1_s11; rw [Int.toNat_natCast, Int.toNat_natCast, h]
  have e16 : vSt1_s16 ((p.length + i : Nat) : Int) (p ++ q) = vSt1_s16 (i : Int) q := by unfold vSt1_s16; rw [Int.toNat_natCast, Int.toNat_natCast, h]
  have hw := w64_in (n := rget q i 4) (by omega) (by omega)
  unfold vSt1_1 at on
  unfold vSt1_0
  rw [e18, e0, e11, e16, e1 _ (by omega), e1 _ (by omega), Int.toNat_natCast, Int.toNat_natCast, h, hw, w64_in (by omega) (by omega), w64_in (by omega) (by omega)]
  cases a : vSt1_s18 (i : Int) g q with
  | false => simp only [cond_false]; omega
  | true =>
    rw [a] at on
    cases b : vSt1_s0 (i : Int) q with
    | true => rw [b] at on; exact absurd on (by simp)
    | false =>
      cases c : vSt1_s11 (i : Int) q with
      | true => simp only [cond_true, cond_false]; omega
      | false =>
        rw [b, c] at on
        cases d : vSt1_s16 (i : Int) q <;> rw [d] at on <;> exact absurd on (by simp)

theorem seg_r {k : Nat} (hk : k < q.length) (h12 : rget q k 0 = 12) {c : Int} : ∀ (d i : Nat) (s : G), k + 1 ≤ i →
    seg (p ++ q) ((p.length : Int) + ((k : Int) + 1 + rget q k 3)) d ((p.length + i : Nat) : Int) (ad c s) = ((seg q ((k : Int) + 1 + rget q k 3) d (i : Int) s).1, ad c (seg q ((k : Int) + 1 + rget q k 3) d (i : Int) s).2)
  | 0, i, s, _ => rfl
  | d + 1, i, s, h1 => by
    unfold seg
    by_cases h : (i : Int) < (k : Int) + 1 + rget q k 3
    · rw [if_pos h, if_pos (by omega)]
      have hb : Inb q k i := ⟨hk, h12, by omega, by omega⟩
      obtain ⟨q1, q2, q3⟩ := in_body O' hb
      obtain ⟨e1, e2, e3⟩ := st_r O O' (p := p) q1 (ad c s).g (ad c s).gn
      rw [e1, e2, e3]
      have ea : ∀ g gn, (⟨g, gn, (ad c s).st + 1⟩ : G) = ad c ⟨g, gn, s.st + 1⟩ := fun g gn => by unfold ad; simp only [G.mk.injEq, true_and]; omega
      rw [ea]
      show (match vSt1_1 (i : Int) s.g q with
        | true => seg (p ++ q) _ d (vSt1_0 ((p.length + i : Nat) : Int) s.g (p ++ q)) (ad c ⟨vSt1_2 (i : Int) s.g q, vSt1_3 (i : Int) s.g s.gn q, s.st + 1⟩)
        | false => (false, ad c ⟨vSt1_2 (i : Int) s.g q, vSt1_3 (i : Int) s.g s.gn q, s.st + 1⟩)) = _
      cases on : vSt1_1 (i : Int) s.g q with
      | false => rfl
      | true =>
        have e0 := st_r0 O O' hp hq q1 q2 s.g on
        obtain ⟨n, hn', n1⟩ : ∃ n : Nat, vSt1_0 (i : Int) s.g q = (n : Int) ∧ i < n := by
          rcases nx1 O'.toPb q1 (O'.ins i q1) q2 s.g on with e | ⟨e, e'⟩
          · exact ⟨i + 1, by rw [e]; rfl, by omega⟩
          · have := (q3 e).1
            exact ⟨((i : Int) + 1 + rget q i 4).toNat, by rw [e']; omega, by omega⟩
        rw [e0, hn', show (p.length : Int) + (n : Int) = ((p.length + n : Nat) : Int) by omega]
        exact seg_r hk h12 d n _ (by omega)
    · rw [if_neg h, if_neg (by omega)]
theorem lp_r {k : Nat} (hk : k < q.length) (h12 : rget q k 0 = 12) {c : Int} : ∀ (T : Nat) (s : G), lp (p ++ q) (p.length + k) T (ad c s) = ((lp q k T s).1, ad c (lp q k T s).2)
  | 0, s => rfl
  | T + 1, s => by
    obtain ⟨n1, b1, b2, -, -⟩ := (O'.ins k hk).loop h12
    have e3 : rget (p ++ q) (p.length + k) 3 = rget q k 3 := rget_r p q k 3
    have e : seg (p ++ q) (((p.length + k : Nat) : Int) + 1 + rget (p ++ q) (p.length + k) 3) (p ++ q).length (((p.length + k : Nat) : Int) + 1) (ad c s) = ((seg q ((k : Int) + 1 + rget q k 3) q.length ((k : Int) + 1) s).1, ad c (seg q ((k : Int) + 1 + rget q k 3) q.length ((k : Int) + 1) s).2) := by
      rw [e3, List.length_append]
      have h1 := seg_fuel O O' hp hq O' hk h12 q.length p.length (k + 1) s (Nat.le_refl _) (by omega)
      rw [show ((k + 1 : Nat) : Int) = (k : Int) + 1 from rfl] at h1
      rw [← h1]
      have h2 := seg_r O O' hp hq hk h12 (c := c) (q.length + p.length) (k + 1) s (Nat.le_refl _)
      rw [show ((p.length + k : Nat) : Int) + 1 + rget q k 3 = (p.length : Int) + ((k : Int) + 1 + rget q k 3) by omega, show ((p.length + k : Nat) : Int) + 1 = ((p.length + (k + 1) : Nat) : Int) by omega, Nat.add_comm p.length q.length]
      exact h2
    unfold lp
    rw [e]
    show (match (seg q ((k : Int) + 1 + rget q k 3) q.length ((k : Int) + 1) s).1 with
      | true => lp (p ++ q) (p.length + k) T (ad c (seg q ((k : Int) + 1 + rget q k 3) q.length ((k : Int) + 1) s).2)
      | false => (false, ad c (seg q ((k : Int) + 1 + rget q k 3) q.length ((k : Int) + 1) s).2)) = _
    cases (seg q ((k : Int) + 1 + rget q k 3) q.length ((k : Int) + 1) s).1 with
    | false => rfl
    | true => exact lp_r hk h12 T _
/-- The second program, behind the first. -/
theorem top_r {c : Int} : ∀ (d i : Nat) (s : G), top (p ++ q) d (p.length + i) (ad c s) = ((top q d i s).1, ad c (top q d i s).2)
  | 0, i, s => rfl
  | d + 1, i, s => by
    unfold top
    by_cases hi : i < q.length
    · rw [if_pos hi, if_pos (by rw [List.length_append]; omega), rget_r, rget_r, rget_r]
      have ea : ∀ g gn, (⟨g, gn, (ad c s).st + 1⟩ : G) = ad c ⟨g, gn, s.st + 1⟩ := fun g gn => by unfold ad; simp only [G.mk.injEq, true_and]; omega
      by_cases h12 : rget q i 0 = 12
      · rw [if_pos h12, if_pos h12, ea, show (ad c s).g = s.g from rfl, show (ad c s).gn = s.gn from rfl, lp_r O O' hp hq hi h12]
        obtain ⟨-, b1, -, -, -⟩ := (O'.ins i hi).loop h12
        show (match (lp q i (rget q i 4).toNat ⟨s.g, s.gn, s.st + 1⟩).1 with
          | true => top (p ++ q) d (((p.length + i : Nat) : Int) + 1 + rget q i 3).toNat (ad c (lp q i (rget q i 4).toNat ⟨s.g, s.gn, s.st + 1⟩).2)
          | false => (false, ad c (lp q i (rget q i 4).toNat ⟨s.g, s.gn, s.st + 1⟩).2)) = _
        cases (lp q i (rget q i 4).toNat ⟨s.g, s.gn, s.st + 1⟩).1 with
        | false => rfl
        | true =>
          rw [show (((p.length + i : Nat) : Int) + 1 + rget q i 3).toNat = p.length + ((i : Int) + 1 + rget q i 3).toNat by omega]
          exact top_r d _ _
      · rw [if_neg h12, if_neg h12]
        obtain ⟨e1, e2, e3⟩ := st_r O O' (p := p) hi (ad c s).g (ad c s).gn
        rw [e1, e2, e3, ea]
        show (match vSt1_1 (i : Int) s.g q with
          | true => top (p ++ q) d (vSt1_0 ((p.length + i : Nat) : Int) s.g (p ++ q)).toNat (ad c ⟨vSt1_2 (i : Int) s.g q, vSt1_3 (i : Int) s.g s.gn q, s.st + 1⟩)
          | false => (false, ad c ⟨vSt1_2 (i : Int) s.g q, vSt1_3 (i : Int) s.g s.gn q, s.st + 1⟩)) = _
        cases on : vSt1_1 (i : Int) s.g q with
        | false => rfl
        | true =>
          have e0 := st_r0 O O' hp hq hi h12 s.g on
          obtain ⟨n, hn'⟩ : ∃ n : Nat, vSt1_0 (i : Int) s.g q = (n : Int) := by
            rcases nx1 O'.toPb hi (O'.ins i hi) h12 s.g on with e | ⟨e, e'⟩
            · exact ⟨i + 1, by rw [e]; rfl⟩
            · have := ((O'.ins i hi).skip e).1
              exact ⟨((i : Int) + 1 + rget q i 4).toNat, by rw [e']; omega⟩
          rw [e0, hn', show ((p.length : Int) + (n : Int)).toNat = p.length + n by omega, Int.toNat_natCast]
          exact top_r d n _
    · rw [if_neg hi, if_neg (by rw [List.length_append]; omega)]
end

/-- A program that neither ends nor lets a pixel be. -/
def Go_ (p : List (List Int)) : Prop := ∀ i, i < p.length → rget p i 0 ≠ 0 ∧ rget p i 0 ≠ 13
section
variable {p : List (List Int)} (O : Ok p) (N : Go_ p)
include O N
theorem st_go {i : Nat} (hi : i < p.length) (h12 : rget p i 0 ≠ 12) (g : List (List Int)) (gn : Bool) : vSt1_1 (i : Int) g p = true ∧ vSt1_3 (i : Int) g gn p = gn := by
  have q := N i hi
  have e0 : vSt1_s0 (i : Int) p = false := op_not q.1
  have e16 : vSt1_s16 (i : Int) p = false := op_not h12
  have e17 : vSt1_s17 (i : Int) p = false := op_not q.2
  have e18 : vSt1_s18 (i : Int) g p = true → vSt1_s11 (i : Int) p = true := fun h => by
    unfold vSt1_s18 at h
    rw [e0, e16, e17] at h
    cases c : vSt1_s11 (i : Int) p with
    | true => rfl
    | false => rw [c] at h; simp at h
  unfold vSt1_1 vSt1_3
  cases h : vSt1_s18 (i : Int) g p with
  | false => exact ⟨rfl, rfl⟩
  | true => rw [e0, e18 h]; exact ⟨rfl, rfl⟩
theorem seg_go {k : Nat} (hk : k < p.length) (h12 : rget p k 0 = 12) : ∀ (d i : Nat) (s : G), k + 1 ≤ i → (seg p ((k : Int) + 1 + rget p k 3) d (i : Int) s).1 = true ∧ (seg p ((k : Int) + 1 + rget p k 3) d (i : Int) s).2.gn = s.gn
  | 0, i, s, _ => ⟨rfl, rfl⟩
  | d + 1, i, s, h1 => by
    unfold seg
    by_cases h : (i : Int) < (k : Int) + 1 + rget p k 3
    · rw [if_pos h]
      obtain ⟨q1, q2, q3⟩ := in_body O (k := k) (i := i) ⟨hk, h12, by omega, by omega⟩
      obtain ⟨on, e3⟩ := st_go O N q1 q2 s.g s.gn
      rw [on, e3]
      obtain ⟨n, hn', n1⟩ : ∃ n : Nat, vSt1_0 (i : Int) s.g p = (n : Int) ∧ i < n := by
        rcases nx1 O.toPb q1 (O.ins i q1) q2 s.g on with e | ⟨e, e'⟩
        · exact ⟨i + 1, by rw [e]; rfl, by omega⟩
        · have := (q3 e).1
          exact ⟨((i : Int) + 1 + rget p i 4).toNat, by rw [e']; omega, by omega⟩
      rw [hn']
      exact seg_go hk h12 d n _ (by omega)
    · rw [if_neg h]; exact ⟨rfl, rfl⟩
theorem lp_go {k : Nat} (hk : k < p.length) (h12 : rget p k 0 = 12) : ∀ (T : Nat) (s : G), (lp p k T s).1 = true ∧ (lp p k T s).2.gn = s.gn
  | 0, s => ⟨rfl, rfl⟩
  | T + 1, s => by
    have h := seg_go O N hk h12 p.length (k + 1) s (Nat.le_refl _)
    rw [show ((k + 1 : Nat) : Int) = (k : Int) + 1 from rfl] at h
    unfold lp
    rw [h.1]
    have := lp_go hk h12 T (seg p ((k : Int) + 1 + rget p k 3) p.length ((k : Int) + 1) s).2
    exact ⟨this.1, this.2.trans h.2⟩
theorem top_go : ∀ (d i : Nat) (s : G), (top p d i s).1 = true ∧ (top p d i s).2.gn = s.gn
  | 0, i, s => ⟨rfl, rfl⟩
  | d + 1, i, s => by
    unfold top
    by_cases hi : i < p.length
    · rw [if_pos hi]
      by_cases h12 : rget p i 0 = 12
      · rw [if_pos h12]
        have h := lp_go O N hi h12 (rget p i 4).toNat ⟨s.g, s.gn, s.st + 1⟩
        rw [h.1]
        have := top_go d (((i : Int) + 1 + rget p i 3).toNat) (lp p i (rget p i 4).toNat ⟨s.g, s.gn, s.st + 1⟩).2
        exact ⟨this.1, this.2.trans h.2⟩
      · rw [if_neg h12]
        obtain ⟨on, e3⟩ := st_go O N hi h12 s.g s.gn
        rw [on, e3]
        exact top_go d _ _
    · rw [if_neg hi]; exact ⟨rfl, rfl⟩
end

/-- Both, one behind the other. -/
theorem joins {p q : List (List Int)} (B : Pb p) (C : Pb q) (cp : pCh_0 true p = 0) (cq : pCh_0 true q = 0) (h24 : p.length + q.length ≤ 24) (hF : pFu_0 (p ++ q) ≤ 200) (N : Go_ p) (z y : List Int) (hy : rowsOf rCl_0 y = vRun_s3 z p) :
    vRun_s3 z (p ++ q) = vRun_s3 y q ∧ vRun_48 z (p ++ q) = vRun_48 y q ∧ vRun_49 z (p ++ q) = IntKind.wrap .i64 (vRun_49 z p + vRun_49 y q) := by
  have O := ok_of B cp
  have O' := ok_of C cq
  have cr := ch_app O O' (by omega) (by omega) h24 hF
  have D := (ok_app O O' (by omega) (by omega)).toPb
  have O2 := ok_of D cr
  obtain ⟨-, -, a1, a2, a3, a4, a5⟩ := top_run O ((ch_spec B true).1 cp).2.2 ⟨rowsOf rCl_0 z, false, 0⟩ rfl
  obtain ⟨-, -, b1, b2, b3, b4, b5⟩ := top_run O' ((ch_spec C true).1 cq).2.2 ⟨rowsOf rCl_0 y, false, 0⟩ rfl
  obtain ⟨-, -, d1, d2, d3, -, -⟩ := top_run O2 ((ch_spec D true).1 cr).2.2 ⟨rowsOf rCl_0 z, false, 0⟩ rfl
  have f1 := ((ch_spec B true).1 cp).2.2
  have f2 := ((ch_spec C true).1 cq).2.2
  have sp : vRun_s0 p = true := beq_iff_eq.2 cp
  have sq : vRun_s0 q = true := beq_iff_eq.2 cq
  have sr : vRun_s0 (p ++ q) = true := beq_iff_eq.2 cr
  have g1 := top_go O N p.length 0 ⟨rowsOf rCl_0 z, false, 0⟩
  have t1 := top_l O O' (by omega) (by omega) p.length 0 ⟨rowsOf rCl_0 z, false, 0⟩ (Nat.zero_le _) (by omega)
  rw [g1.1] at t1
  have e : (top p p.length 0 ⟨rowsOf rCl_0 z, false, 0⟩).2 = ad (top p p.length 0 ⟨rowsOf rCl_0 z, false, 0⟩).2.st ⟨rowsOf rCl_0 y, false, 0⟩ := by
    have h1 : (top p p.length 0 ⟨rowsOf rCl_0 z, false, 0⟩).2.g = rowsOf rCl_0 y := by
      rw [hy]
      unfold vRun_s3
      rw [sp, run_rows]
      exact a1.symm
    have h2 := g1.2
    generalize (top p p.length 0 ⟨rowsOf rCl_0 z, false, 0⟩).2 = s at h1 h2
    obtain ⟨x1, x2, x3⟩ := s
    simp only at h1 h2
    subst h1 h2
    unfold ad
    simp
  have t2 := top_r O O' (by omega) (by omega) (c := (top p p.length 0 ⟨rowsOf rCl_0 z, false, 0⟩).2.st) q.length 0 ⟨rowsOf rCl_0 y, false, 0⟩
  have hl : (p ++ q).length = p.length + q.length := List.length_append
  have t3 : top (p ++ q) (p ++ q).length 0 ⟨rowsOf rCl_0 z, false, 0⟩ = ((top q q.length 0 ⟨rowsOf rCl_0 y, false, 0⟩).1, ad (top p p.length 0 ⟨rowsOf rCl_0 z, false, 0⟩).2.st (top q q.length 0 ⟨rowsOf rCl_0 y, false, 0⟩).2) := by
    rw [hl, t1]
    show top (p ++ q) q.length p.length (top p p.length 0 ⟨rowsOf rCl_0 z, false, 0⟩).2 = _
    rw [← t2, ← e]; rfl
  rw [t3] at d1 d2 d3
  simp only at a1 a2 a3 a4 a5 b1 b2 b3 b4 b5 d1 d2 d3
  unfold vRun_s3 vRun_48 vRun_49
  rw [sp, sq, sr, run_rows, run_rows]
  refine ⟨?_, ?_, ?_⟩
  · exact d1.trans b1.symm
  · exact d2.trans b2.symm
  · show vRa5_3 0 (Int.ofNat (p ++ q).length) (rowsOf rCl_0 z) false 0 (p ++ q) = IntKind.wrap .i64 (vRa5_3 0 (Int.ofNat p.length) (rowsOf rCl_0 z) false 0 p + vRa5_3 0 (Int.ofNat q.length) (rowsOf rCl_0 y) false 0 q)
    rw [d3, a3, b3]
    show _ + _ = _
    rw [w64_in (by omega) (by omega)]
    exact Int.add_comm _ _
end Vm

end Go.Proofs.Ytcdejlgophpdjaa
end

section
namespace Go.Proofs.Ytcdejlgophpdjaa
open Go Go.RowKit Go.Proofs.Ytcdejlgophpdjaa.V
set_option linter.unusedVariables false
set_option linter.unusedSectionVars false

namespace Vm
theorem pb_of {p : List (List Int)} (h : ∀ row ∈ p, RowFit [.int .u8, .int .u8, .int .u8, .int .u8, .int .i16] row) (hl : p.length ≤ 1000) : Pb p := by
  have m8 : IntKind.min .u8 = 0 := rfl
  have M8 : IntKind.max .u8 = 255 := rfl
  have m16 : IntKind.min .i16 = -32768 := rfl
  have M16 : IntKind.max .i16 = 32767 := rfl
  refine ⟨hl, fun i j hj => ?_, fun i => ?_⟩
  · match j, hj with
    | 0, _ => have := fit_get h (j := 0) (kd := .u8) rfl i; omega
    | 1, _ => have := fit_get h (j := 1) (kd := .u8) rfl i; omega
    | 2, _ => have := fit_get h (j := 2) (kd := .u8) rfl i; omega
    | 3, _ => have := fit_get h (j := 3) (kd := .u8) rfl i; omega
  · have := fit_get h (j := 4) (kd := .i16) rfl i; omega
theorem two {a : Int} (h : 0 ≤ a ∧ a ≤ 65536) : (bif decide (a < 0) then true else decide (65536 < a)) = false := by
  rw [decide_eq_false (show ¬ a < 0 by omega), decide_eq_false (show ¬ 65536 < a by omega)]; rfl
theorem neg4 {a b c d a' b' c' d' : Int} (h0 : a = a') (h1 : b = b') (h2 : c = c') (h3 : d = d') : (!(a == a' && (b == b' && (c == c' && d == d')))) = false := by
  subst h0 h1 h2 h3
  simp
end Vm

theorem none_len {n1 : Nat} {y0 : List (List Int)} (h : lVmNa_s1 n1 y0 = false) : y0.length ≤ 1000 := by
  unfold lVmNa_s1 at h
  by_cases c : (60 : Int) < Int.ofNat y0.length
  · rw [decide_eq_true c] at h; cases h
  · simp only [Int.ofNat_eq_natCast] at c
    omega
theorem none_a (n1 : Nat) (x2_0 x2_1 x2_2 x2_3 x3 x4 x5 : Int) {y0 : List (List Int)} (p0 : ∀ row ∈ y0, RowFit [.int .u8, .int .u8, .int .u8, .int .u8, .int .i16] row) (y1 : List (List Int)) : lVmNa_0 n1 x2_0 x2_1 x2_2 x2_3 x3 x4 x5 y0 y1 = true := by
  unfold lVmNa_0
  rw [Vm.awake]
  cases h1 : lVmNa_s1 n1 y0 with
  | true => rfl
  | false =>
  have B := Vm.pb_of p0 (none_len h1)
  have e3 : lVmNa_s3 n1 x3 x4 x5 y0 y1 = false := Vm.two (Vm.col_bd _)
  have e5 : lVmNa_s5 n1 x3 x4 x5 y0 y1 = false := Vm.two (Vm.col_bd _)
  have e7 : lVmNa_s7 n1 x3 x4 x5 y0 y1 = false := Vm.two (Vm.col_bd _)
  have e9 : lVmNa_s9 n1 x3 x4 x5 y0 y1 = false := Vm.two (Vm.col_bd _)
  rw [e3, e5, e7, e9]
  cases h10 : lVmNa_s10 y0 with
  | true =>
    have e44 : lVmNa_s44 n1 x2_0 x2_1 x2_2 x2_3 x3 x4 x5 y0 y1 = true := decide_eq_true (Vm.run_st B _)
    have e45 : decide (lVmNa_s45 n1 x3 x4 x5 y0 y1 ≤ pFu_0 y0) = true := decide_eq_true (Vm.run_st B _)
    rw [e44, e45]; rfl
  | false =>
  have s0 : vRun_s0 y0 = false := h10
  have hz : vRun_s3 (lVmNa_s20 n1 x2_0 x2_1 x2_2 x2_3 y1) y0 = Vm.rowsOf fCla_0 (lVmNa_s20 n1 x2_0 x2_1 x2_2 x2_3 y1) := by
    unfold vRun_s3
    rw [s0, Vm.run_rows, Vm.cla_eq]; rfl
  have hk : ∀ i j, rget (vRun_s3 (lVmNa_s20 n1 x2_0 x2_1 x2_2 x2_3 y1) y0) i j = rget (Vm.rowsOf fCla_0 (lVmNa_s20 n1 x2_0 x2_1 x2_2 x2_3 y1)) i j := fun i j => by rw [hz]
  have e46 : lVmNa_s46 n1 x2_0 x2_1 x2_2 x2_3 y0 y1 = false := Vm.neg4 (hk 0 0) (hk 0 1) (hk 0 2) (hk 0 3)
  have e47 : lVmNa_s47 n1 x2_0 x2_1 x2_2 x2_3 y0 y1 = false := Vm.neg4 (hk 1 0) (hk 1 1) (hk 1 2) (hk 1 3)
  have e48 : lVmNa_s48 n1 x2_0 x2_1 x2_2 x2_3 y0 y1 = false := Vm.neg4 (hk 2 0) (hk 2 1) (hk 2 2) (hk 2 3)
  have e49 : lVmNa_s49 n1 x2_0 x2_1 x2_2 x2_3 y0 y1 = false := Vm.neg4 (hk 3 0) (hk 3 1) (hk 3 2) (hk 3 3)
  have e50 : lVmNa_s50 n1 x2_0 x2_1 x2_2 x2_3 y0 y1 = false := Vm.neg4 (hk 4 0) (hk 4 1) (hk 4 2) (hk 4 3)
  have e51 : lVmNa_s51 n1 x2_0 x2_1 x2_2 x2_3 y0 y1 = false := Vm.neg4 (hk 5 0) (hk 5 1) (hk 5 2) (hk 5 3)
  have e52 : lVmNa_s52 n1 x2_0 x2_1 x2_2 x2_3 y0 y1 = false := Vm.neg4 (hk 6 0) (hk 6 1) (hk 6 2) (hk 6 3)
  have e53 : lVmNa_s53 n1 x2_0 x2_1 x2_2 x2_3 y0 y1 = false := Vm.neg4 (hk 7 0) (hk 7 1) (hk 7 2) (hk 7 3)
  have e54 : lVmNa_s54 n1 x2_0 x2_1 x2_2 x2_3 y0 y1 = false := Vm.neg4 (hk 8 0) (hk 8 1) (hk 8 2) (hk 8 3)
  have e55 : lVmNa_s55 n1 x2_0 x2_1 x2_2 x2_3 y0 y1 = false := Vm.neg4 (hk 9 0) (hk 9 1) (hk 9 2) (hk 9 3)
  have e56 : lVmNa_s56 n1 x2_0 x2_1 x2_2 x2_3 y0 y1 = false := Vm.neg4 (hk 10 0) (hk 10 1) (hk 10 2) (hk 10 3)
  have e57 : (!(vRun_44 (lVmNa_s20 n1 x2_0 x2_1 x2_2 x2_3 y1) y0 == fWi_0 (lVmNa_s16 x2_0 x2_1 x2_2 x2_3) 2147483647 && (vRun_45 (lVmNa_s20 n1 x2_0 x2_1 x2_2 x2_3 y1) y0 == fWi_0 (lVmNa_s17 x2_0 x2_1 x2_2 x2_3) 2147483647 && (vRun_46 (lVmNa_s20 n1 x2_0 x2_1 x2_2 x2_3 y1) y0 == fWi_0 (lVmNa_s18 x2_0 x2_1 x2_2 x2_3) 2147483647 && vRun_47 (lVmNa_s20 n1 x2_0 x2_1 x2_2 x2_3 y1) y0 == fWi_0 (lVmNa_s19 x2_0 x2_1 x2_2 x2_3) 2147483647)))) = false := Vm.neg4 (hk 11 0) (hk 11 1) (hk 11 2) (hk 11 3)
  have e58 : vRun_48 (lVmNa_s20 n1 x2_0 x2_1 x2_2 x2_3 y1) y0 = false := by unfold vRun_48; rw [s0]; rfl
  have e59 : vRun_49 (lVmNa_s20 n1 x2_0 x2_1 x2_2 x2_3 y1) y0 = 0 := by unfold vRun_49; rw [s0]; rfl
  have e60 : lVmNa_s45 n1 x3 x4 x5 y0 y1 = 0 := by unfold lVmNa_s45 vSh_5 vRun_49; rw [s0]; rfl
  rw [e46, e47, e48, e49, e50, e51, e52, e53, e54, e55, e56, e57, e58, e59, e60]; rfl

theorem none_ao (n1 : Nat) (x2_0 x2_1 x2_2 x2_3 x3 x4 x5 : Int) {y0 : List (List Int)} (p0 : ∀ row ∈ y0, RowFit [.int .u8, .int .u8, .int .u8, .int .u8, .int .i16] row) (y1 : List (List Int)) : Alls (lVmNa_o n1 x2_0 x2_1 x2_2 x2_3 x3 x4 x5 y0 y1) := by
  have C : (!lVmNa_s1 n1 y0) = true → Vm.Pb y0 := fun h => Vm.pb_of p0 (none_len (by cases c : lVmNa_s1 n1 y0; rfl; rw [c] at h; cases h))
  have A := Vm.aw_pb
  exact ⟨rfl, (Vm.ch_obs A true).1, (Vm.ch_obs A true).2, fun h => Vm.run_lok A _ h, fun _ h => (Vm.ch_obs (C h) true).1, fun _ h => (Vm.ch_obs (C h) true).2, fun _ h k => Vm.run_lok (C h) _ k, fun _ h => (Vm.ch_obs (C h) true).1, fun _ h => (Vm.ch_obs (C h) true).2, fun _ h k => Vm.run_lok (C h) _ k, fun _ h _ => (Vm.ch_obs (C h) true).1, fun _ h _ => (Vm.ch_obs (C h) true).2, fun _ h _ _ => (Vm.fu_spec (C h)).2, fun _ h _ _ _ => (Vm.fu_spec (C h)).2, trivial⟩

theorem none_b (n1 : Nat) (x3 x4 x5 : Int) (y1 : List (List Int)) : lVmNb_0 n1 x3 x4 x5 y1 = true := by
  unfold lVmNb_0
  rw [Vm.awake]
  cases h1 : lVmNb_s0 n1 with
  | true => rfl
  | false =>
  have e2 : lVmNb_s2 n1 x3 x4 x5 y1 = false := Vm.two (Vm.col_bd _)
  have e4 : lVmNb_s4 n1 x3 x4 x5 y1 = false := Vm.two (Vm.col_bd _)
  have e6 : lVmNb_s6 n1 x3 x4 x5 y1 = false := Vm.two (Vm.col_bd _)
  have e7 : (bif decide (lVmNb_s7 n1 x3 x4 x5 y1 < 0) then true else decide (65536 < lVmNb_s7 n1 x3 x4 x5 y1)) = false := Vm.two (Vm.col_bd _)
  have e8 : decide (vRunZ_48 ≤ pFuZ_0) = true := by decide
  rw [e2, e4, e6, e7, e8]; rfl
theorem none_bo (n1 : Nat) (x2_0 x2_1 x2_2 x2_3 x3 x4 x5 : Int) (y0 y1 : List (List Int)) : Alls (lVmNb_o n1 x2_0 x2_1 x2_2 x2_3 x3 x4 x5 y0 y1) := by
  have A := Vm.aw_pb
  exact ⟨rfl, (Vm.ch_obs A true).1, (Vm.ch_obs A true).2, fun h => Vm.run_lok A _ h, fun _ _ => rfl, fun _ _ => rfl, trivial⟩

end Go.Proofs.Ytcdejlgophpdjaa
end

