/-
  From a contract of a law to the row's step, for laws whose arguments hold slices of numbers, bools, and structs and arrays of these.
-/
import Derived.Carry
import Derived.Deep.Slices
import Derived.Test.YtcdejlgophpdjaaQVmLoops8
section
namespace Go.Proofs.Ytcdejlgophpdjaa.V
open Go Go.RowKit Go.ChangeShapes Go.WideShapes Go.ChangeAt

/-- A cell's kind: a plain one's; a slice's, by the kinds of its elements' cells. -/
inductive Kc where
  | one (k : Kn)
  | slc (sh : List Kd)

def kdsKc : List Kc → Option (List Kd)
  | [] => some []
  | .one (.int k) :: r => match kdsKc r with
    | some l => some (.int k :: l)
    | none => none
  | .one .bool :: r => match kdsKc r with
    | some l => some (.bool :: l)
    | none => none
  | _ => none

def kcFs (P : Program) (rec : TypeId → Option (List Kc)) : Nat → List Field → Option (List Kc)
  | _, [] => some []
  | off, f :: fs => match rec f.type with
    | some ks => match Nat.beq f.offset off && Nat.beq ks.length (P.cellsOf f.type), kcFs P rec (off + ks.length) fs with
      | true, some r => some (ks ++ r)
      | _, _ => none
    | none => none

/-- A type's cells. -/
def kcT (P : Program) : Nat → TypeId → Option (List Kc)
  | 0, _ => none
  | d + 1, t => match P.underlying t with
    | some .bool => some [.one .bool]
    | some (.int k) => some [.one (.int k)]
    | some .string => some [.one .str]
    | some (.slice e) => match (kcT P d e).bind kdsKc with
      | some sh => match Nat.ble 1 sh.length && Nat.beq sh.length (P.cellsOf e) with
        | true => some [.slc sh]
        | false => none
      | none => none
    | some (.struct fs) => match kcFs P (kcT P d) 0 fs.toList with
      | some ks => match Nat.beq ks.length (P.cellsOf t) with
        | true => some ks
        | false => none
      | none => none
    | some (.array n e) => match kcT P d e with
      | some ks => match Nat.beq ks.length (P.cellsOf e) && Nat.beq (n * ks.length) (P.cellsOf t) with
        | true => some ((List.replicate n ks).flatten)
        | false => none
      | none => none
    | _ => none

def KdFit : Kd → Int → Prop
  | .int k, n => k.min ≤ n ∧ n ≤ k.max
  | .bool, n => n = 0 ∨ n = 1

def RowFit (sh : List Kd) (row : List Int) : Prop := row.length = sh.length ∧ ∀ (j : Nat) k n, sh[j]? = some k → row[j]? = some n → KdFit k n

/-- A slice's cells stand in the world. -/
def SlcIn (w : World) (sh : List Kd) (l : List (List Int)) (v : Value) : Prop :=
  ∃ a cap, v = .slice a l.length cap ∧ l.length ≤ cap ∧
    (l = [] ∨ ∃ r o arr ty fz, a = some ⟨r, o, none⟩ ∧ w.heap[r]? = some (.cells arr ty fz) ∧ RowsIn arr o ⟨0, sh, l, none⟩)

def CF (w : World) : Kc → Value → Prop
  | .one k, v => ∃ x : At, FitAt k x ∧ x.rel (fun _ => none) v
  | .slc sh, v => ∃ l : List (List Int), (∀ row ∈ l, RowFit sh row) ∧ l.length ≤ maxLen ∧ SlcIn w sh l v

theorem pick_list {α : Type} {p : Nat → α → Prop} : ∀ (n : Nat), (∀ i, i < n → ∃ x, p i x) → ∃ l : List α, l.length = n ∧ ∀ i x, l[i]? = some x → p i x
  | 0, _ => ⟨[], rfl, fun i x h => by simp at h⟩
  | n + 1, h => by
    obtain ⟨l, l1, l2⟩ := pick_list n fun i hi => h i (by omega)
    obtain ⟨x, hx⟩ := h n (by omega)
    refine ⟨l ++ [x], by simp [l1], fun i y hy => ?_⟩
    rw [List.getElem?_append] at hy
    split at hy
    · exact l2 i y hy
    · rename_i hi
      have e : i = n := by
        rcases Nat.lt_or_ge (i - l.length) 1 with h1 | h1
        · omega
        · rw [List.getElem?_eq_none (by simpa using h1)] at hy; cases hy
      subst e
      rw [l1, Nat.sub_self] at hy
      simp only [List.getElem?_cons_zero, Option.some.injEq] at hy
      subst hy; exact hx

theorem All2.get2 {α β : Type} {R : α → β → Prop} : ∀ {l : List α} {m : List β}, All2 R l m → ∀ {i : Nat} {x : α} {y : β}, l[i]? = some x → m[i]? = some y → R x y
  | _, _, .cons r _, 0, _, _, h, g => by simp at h g; subst h g; exact r
  | _, _, .cons _ a, i + 1, _, _, h, g => a.get2 (i := i) (by simpa using h) (by simpa using g)

/-- Cells of an element as a row. -/
theorem row_of {w : World} : ∀ {ks : List Kc} {sh : List Kd} {cs : List Value}, kdsKc ks = some sh → All2 (CF w) ks cs →
    ∃ row : List Int, RowFit sh row ∧ cs.length = sh.length ∧ ∀ (j : Nat) k n, sh[j]? = some k → row[j]? = some n → cs[j]? = some (k.val n)
  | [], sh, cs, h, hl => by
    simp only [kdsKc, Option.some.injEq] at h; subst h
    cases hl
    exact ⟨[], ⟨rfl, fun j k n h => by simp at h⟩, rfl, fun j k n h => by simp at h⟩
  | .one (.int kk) :: ks, sh, cs, h, hl => by
    unfold kdsKc at h
    split at h
    · rename_i l hk
      simp only [Option.some.injEq] at h; subst h
      cases hl with
      | cons a b =>
        obtain ⟨x, ⟨n, rfl, h1, h2⟩, hv⟩ := a
        obtain ⟨row, ⟨r1, r2⟩, r3, r4⟩ := row_of hk b
        have hv' : _ = Value.int kk n := hv
        refine ⟨n :: row, ⟨by simp [r1], fun j k m g1 g2 => ?_⟩, by simp [r3], fun j k m g1 g2 => ?_⟩
        · cases j with
          | zero => simp at g1 g2; subst g1 g2; exact ⟨h1, h2⟩
          | succ j => exact r2 j k m (by simpa using g1) (by simpa using g2)
        · cases j with
          | zero => simp at g1 g2; subst g1 g2; simp [hv', Kd.val]
          | succ j => simpa using r4 j k m (by simpa using g1) (by simpa using g2)
    · cases h
  | .one .bool :: ks, sh, cs, h, hl => by
    unfold kdsKc at h
    split at h
    · rename_i l hk
      simp only [Option.some.injEq] at h; subst h
      cases hl with
      | cons a b =>
        obtain ⟨x, ⟨n, rfl⟩, hv⟩ := a
        obtain ⟨row, ⟨r1, r2⟩, r3, r4⟩ := row_of hk b
        have hv' : _ = Value.bool n := hv
        refine ⟨(bif n then 1 else 0) :: row, ⟨by simp [r1], fun j k m g1 g2 => ?_⟩, by simp [r3], fun j k m g1 g2 => ?_⟩
        · cases j with
          | zero => simp at g1 g2; subst g1 g2; cases n <;> simp [KdFit]
          | succ j => exact r2 j k m (by simpa using g1) (by simpa using g2)
        · cases j with
          | zero => simp at g1 g2; subst g1 g2; cases n <;> simp [hv', Kd.val]
          | succ j => simpa using r4 j k m (by simpa using g1) (by simpa using g2)
    · cases h
  | .one .str :: ks, sh, cs, h, hl => by simp [kdsKc] at h
  | .slc _ :: ks, sh, cs, h, hl => by simp [kdsKc] at h

theorem kcFs_all {P : Program} {w : World} {rec : TypeId → Option (List Kc)} {cs : List Value} : ∀ {fs : List Field} {off : Nat} {ks : List Kc}, kcFs P rec off fs = some ks →
    (∀ f ∈ fs, ∀ ks, rec f.type = some ks → ks.length = P.cellsOf f.type → All2 (CF w) ks ((cs.drop f.offset).take (P.cellsOf f.type))) →
    cs.length = off + ks.length → All2 (CF w) ks (cs.drop off)
  | [], off, ks, h, _, hl => by
    simp only [kcFs, Option.some.injEq] at h; subst h
    rw [List.drop_eq_nil_of_le (by simp at hl; omega)]; exact .nil
  | f :: fs, off, ks, h, hh, hl => by
    unfold kcFs at h
    split at h
    · rename_i k0 hk0
      split at h
      · rename_i r hb hr
        simp only [Option.some.injEq] at h; subst h
        simp only [Bool.and_eq_true] at hb
        have e1 := Nat.eq_of_beq_eq_true hb.1
        have e2 := Nat.eq_of_beq_eq_true hb.2
        have a := hh f (by simp) k0 hk0 e2
        have b := kcFs_all hr (fun g hg => hh g (by simp [hg])) (by simp at hl; omega)
        rw [e1, ← e2] at a
        have e : cs.drop off = (cs.drop off).take k0.length ++ cs.drop (off + k0.length) := by
          rw [← List.drop_drop]; exact (List.take_append_drop _ _).symm
        rw [e]
        exact a.append b
      · cases h
    · cases h

theorem rep_all {w : World} {ks : List Kc} {cs : List Value} {n : Nat} (hl : cs.length = n * ks.length) (h : ∀ i, i < n → All2 (CF w) ks ((cs.drop (i * ks.length)).take ks.length)) : ∀ m, m ≤ n → All2 (CF w) ((List.replicate m ks).flatten) (cs.drop ((n - m) * ks.length))
  | 0, _ => by
    rw [Nat.sub_zero, List.drop_eq_nil_of_le (by omega)]; exact .nil
  | m + 1, hm => by
    rw [List.replicate_succ, List.flatten_cons]
    have a := h (n - (m + 1)) (by omega)
    have b := rep_all hl h m (by omega)
    have e : cs.drop ((n - (m + 1)) * ks.length) = (cs.drop ((n - (m + 1)) * ks.length)).take ks.length ++ cs.drop ((n - m) * ks.length) := by
      have e' : (n - m) * ks.length = (n - (m + 1)) * ks.length + ks.length := by
        rw [← Nat.succ_mul]; congr 1; omega
      rw [e', ← List.drop_drop]; exact (List.take_append_drop _ _).symm
    rw [e]
    exact a.append b

section
variable {H : Type} {enc : TypeId × Value → H} {P : Program} {w : World}

theorem trod_kc : ∀ (d : Nat) {t : TypeId} {ks : List Kc} {fuel : Nat} {cs : List Value} {x : DataW H × List MemPlace}, kcT P d t = some ks → DataW.trod enc P w 0 (fun _ => true) true fuel t cs = some x → All2 (CF w) ks cs
  | 0, t, ks, fuel, cs, x, h, _ => by simp [kcT] at h
  | d + 1, t, ks, fuel, cs, x, h, hx => by
    unfold kcT at h
    split at h
    · rename_i hu
      simp only [Option.some.injEq] at h; subst h
      obtain ⟨b, rfl, _⟩ := DataW.trod_bool hu hx
      exact .cons ⟨.bool true b, ⟨b, rfl⟩, rfl⟩ .nil
    · rename_i k hu
      simp only [Option.some.injEq] at h; subst h
      obtain ⟨n, rfl, _, hw⟩ := DataW.trod_int hu hx
      have hn : k.min ≤ n ∧ n ≤ k.max := by simpa [Lit.wf, IntKind.has] using hw
      exact .cons ⟨.int true k n, ⟨n, rfl, hn.1, hn.2⟩, rfl⟩ .nil
    · rename_i hu
      simp only [Option.some.injEq] at h; subst h
      obtain ⟨s, rfl, _, hw⟩ := DataW.trod_string hu hx
      have hm : (maxLen : Int) ≤ IntKind.i64.max := by decide
      exact .cons ⟨.str true s, ⟨s, rfl, by omega⟩, rfl⟩ .nil
    · rename_i e hu
      split at h
      · rename_i sh hsh
        obtain ⟨kse, hk1, hk2⟩ := Option.bind_eq_some_iff.1 hsh
        split at h
        · rename_i hb
          simp only [Option.some.injEq] at h; subst h
          simp only [Bool.and_eq_true] at hb
          have p1 : 1 ≤ sh.length := Nat.le_of_ble_eq_true hb.1
          have p2 : sh.length = P.cellsOf e := Nat.eq_of_beq_eq_true hb.2
          rcases Go.Deep.open_slice hu hx with ⟨rfl, _⟩ | ⟨a, len, cap, m, n, D, Pl, rfl, _, h1, h2, h3, _, h4⟩
          · exact .cons ⟨[], nofun, by simp, none, 0, rfl, by simp, .inl rfl⟩ .nil
          · simp only [if_true] at h3
            subst h3
            obtain ⟨l, l1, l2⟩ := pick_list (p := fun i (row : List Int) => RowFit sh row ∧ ∀ (j : Nat) k n, sh[j]? = some k → row[j]? = some n → w.cell? ((a.add (i * sh.length)).add j) = some (k.val n)) len fun i hi => by
              obtain ⟨cs', c1, c2⟩ := h4 i (by omega)
              obtain ⟨_, q2, q3⟩ := World.cells?_some c1
              obtain ⟨row, r1, r2, r3⟩ := row_of hk2 (trod_kc d hk1 c2)
              refine ⟨row, r1, fun j k n g1 g2 => ?_⟩
              have hj : j < sh.length := (List.getElem?_eq_some_iff.1 g1).1
              rw [p2, q3 j (by omega)]
              exact r3 j k n g1 g2
            refine .cons ⟨l, fun row hrow => ?_, by omega, some a, _, by rw [l1], by omega, ?_⟩ .nil
            · obtain ⟨i, hi⟩ := List.getElem?_of_mem hrow
              exact (l2 i row hi).1
            · rcases Nat.eq_zero_or_pos len with h0 | h0
              · left; exact List.eq_nil_of_length_eq_zero (by omega)
              · right
                have get : ∀ i, i < len → ∃ row, l[i]? = some row := fun i hi => ⟨_, List.getElem?_eq_getElem (by omega)⟩
                have cell : ∀ i j, i < len → j < sh.length → ∃ row n k, l[i]? = some row ∧ row[j]? = some n ∧ sh[j]? = some k ∧ w.cell? ((a.add (i * sh.length)).add j) = some (k.val n) := fun i j hi hj => by
                  obtain ⟨row, hr⟩ := get i hi
                  obtain ⟨⟨q1, _⟩, q2⟩ := l2 i row hr
                  have hn : row[j]? = some row[j] := List.getElem?_eq_getElem (by omega)
                  have hk : sh[j]? = some sh[j] := List.getElem?_eq_getElem (by omega)
                  exact ⟨row, _, _, hr, hn, hk, q2 j _ _ hk hn⟩
                obtain ⟨r, o, spot⟩ := a
                obtain ⟨row0, n0, k0, _, _, _, hc0⟩ := cell 0 0 h0 p1
                have hspot : spot = none := by
                  have := World.cell?_spot hc0
                  simpa [Addr.add] using this
                subst hspot
                simp only [add_eq] at cell l2 hc0
                unfold World.cell? at hc0
                split at hc0
                · rename_i arr ty fz hheap
                  have ha : ∀ k, w.cell? ⟨r, k, none⟩ = arr[k]? := fun k => by
                    unfold World.cell?
                    simp only at hheap
                    simp only [hheap]
                    rfl
                  refine ⟨r, o, arr, ty, fz, rfl, hheap, fun p row hr => ⟨(l2 p row hr).1.1, fun j n k g1 g2 => ?_⟩, ?_⟩
                  · have := (l2 p row hr).2 j k n g2 g1
                    rw [ha] at this
                    rw [show o + (0 + p * sh.length + j) = o + p * sh.length + j by omega]
                    exact this
                  · obtain ⟨row, n, k, _, _, _, hc⟩ := cell (len - 1) (sh.length - 1) (by omega) (by omega)
                    rw [ha] at hc
                    have hlt := (Array.getElem?_eq_some_iff.1 hc).1
                    have e : len * sh.length = (len - 1) * sh.length + sh.length := by
                      rw [← Nat.succ_mul]; congr 1; omega
                    show 0 + l.length * sh.length + o ≤ arr.size
                    rw [l1, e]
                    omega
                · cases hc0
        · cases h
      · cases h
    · rename_i fs hu
      split at h
      · rename_i ks' hk
        split at h
        · rename_i hb
          simp only [Option.some.injEq] at h; subst h
          have hb' := Nat.eq_of_beq_eq_true hb
          obtain ⟨xs, n, rfl, _, hl, hxs, hf⟩ := DataW.trod_struct hu hx
          have := kcFs_all (w := w) (cs := cs) hk (fun f hf' ks0 h1 h2 => by
            obtain ⟨i, hi⟩ := List.getElem?_of_mem hf'
            have hi' : fs[i]? = some f := by simpa using hi
            have e := hf i f hi'
            have hlt : i < xs.length := by rw [hxs]; exact (Array.getElem?_eq_some_iff.1 hi').1
            rw [List.getElem?_eq_getElem hlt] at e
            exact trod_kc d h1 e) (by rw [hl, ← hb']; simp)
          simpa using this
        · cases h
      · cases h
    · rename_i n e hu
      split at h
      · rename_i ks' hk
        split at h
        · rename_i hb
          simp only [Option.some.injEq] at h; subst h
          simp only [Bool.and_eq_true] at hb
          have b1 := Nat.eq_of_beq_eq_true hb.1
          have b2 := Nat.eq_of_beq_eq_true hb.2
          obtain ⟨xs, m, rfl, _, hl, hxs, hf⟩ := DataW.trod_array hu hx
          have := rep_all (w := w) (ks := ks') (cs := cs) (n := n) (by rw [hl, ← b2]) (fun i hi => by
            have e := hf i hi
            rw [List.getElem?_eq_getElem (by omega)] at e
            rw [b1]
            exact trod_kc d hk e) n (Nat.le_refl _)
          simpa using this
        · cases h
      · cases h
    · cases h

end

/-- A slice that came in, as a block that is not written. -/
def roBC (sh : List Kd) (l : List (List Int)) : BC := ⟨⟨0, 0, true, some ⟨0, sh, l, none⟩⟩, []⟩

/-- For all cells of these kinds, and the blocks behind them. -/
def AllC : List Kc → List BC → (List At → List BC → Prop) → Prop
  | [], bs, Q => Q [] bs
  | .one (.int k) :: ks, bs, Q => ∀ n : Int, k.min ≤ n → n ≤ k.max → AllC ks bs fun l bs' => Q (.int true k n :: l) bs'
  | .one .bool :: ks, bs, Q => ∀ b : Bool, AllC ks bs fun l bs' => Q (.bool true b :: l) bs'
  | .one .str :: ks, bs, Q => ∀ s : ByteArray, (s.size : Int) ≤ IntKind.i64.max → AllC ks bs fun l bs' => Q (.str true s :: l) bs'
  | .slc sh :: ks, bs, Q => ∀ l : List (List Int), (∀ row ∈ l, RowFit sh row) → l.length ≤ maxLen → AllC ks (bs ++ [roBC sh l]) fun ags bs' => Q (.slc true bs.length 0 0 sh.length 0 l.length :: ags) bs'

/-- For all arguments of these shapes. -/
def AllB : List (Bool × List Kc) → List BC → (List LV → List BC → Prop) → Prop
  | [], bs, Q => Q [] bs
  | (true, ks) :: r, bs, Q => AllC ks bs fun l bs' => AllB r bs' fun ags bs'' => Q (.g l :: ags) bs''
  | (false, ks) :: r, bs, Q => AllC ks bs fun l bs' => match l with
    | [x] => AllB r bs' fun ags bs'' => Q (.a x :: ags) bs''
    | _ => True

/-- The blocks stand in the world, none of them written. -/
structure RoB (w : World) (φ : Phi) (bs : List BC) : Prop where
  at_ : ∀ (b : Nat) c, bs[b]? = some c → ∃ i sh l, φ b = some i ∧ c = roBC sh l ∧ i.v = 0 ∧ i.ro = true ∧ i.n = l.length ∧
    ((i.a = none ∧ l = []) ∨ ∃ r o arr ty fz, i.a = some (r, o) ∧ w.heap[r]? = some (.cells arr ty fz) ∧ RowsIn arr o ⟨0, sh, l, none⟩ ∧ l.length * sh.length ≤ i.z)
  dom : ∀ b, bs.length ≤ b → φ b = none

theorem RoB.nil (w : World) : RoB w (fun _ => none) [] := ⟨fun b c h => by simp at h, fun _ _ => rfl⟩

theorem memOf_ro {bs : List BC} (h : ∀ (b : Nat) c, bs[b]? = some c → c.cs = []) (k : Nat) : memOf bs k = none := by
  unfold memOf
  split
  · rename_i c hc
    unfold cellOf
    rw [h _ c hc]; rfl
  · rfl

theorem hdsIn_none {bs : List BC} {out : List (Option BC)} (ho : ∀ (b : Nat) c, bs[b]? = some c → c.h.ro = true) : hdsIn bs out = fun b => (bs[b]?).map (·.h) := by
  funext b
  unfold hdsIn
  split
  · rename_i c hc
    have e : roH c.h = c.h := by
      have := ho b c hc
      unfold roH
      rw [← this]
    split
    · rw [e, hc]; rfl
    · rw [hc]; rfl
  · rename_i hc
    rw [hc]; rfl

theorem RoB.mr {w : World} {φ : Phi} {bs : List BC} (h : RoB w φ bs) (out : List (Option BC)) : MR w (fun _ => False) φ (memOf bs) (hdsIn bs out) (fun b => bs.length ≤ b) w := by
  have lt : ∀ b i, φ b = some i → b < bs.length := fun b i hi => by
    rcases Nat.lt_or_ge b bs.length with h1 | h1
    · exact h1
    · rw [h.dom b h1] at hi; cases hi
  have get : ∀ b i, φ b = some i → i.ro = true ∧ ∀ r o, i.a = some (r, o) → r < w.heap.size := fun b i hi => by
    obtain ⟨j, sh, l, h1, _, _, h2, _, h3⟩ := h.at_ b _ (List.getElem?_eq_getElem (lt b i hi))
    rw [hi] at h1
    simp only [Option.some.injEq] at h1; subst h1
    refine ⟨h2, fun r o ha => ?_⟩
    rcases h3 with ⟨h3, _⟩ | ⟨r', o', arr, ty, fz, h3, h4, _⟩
    · rw [h3] at ha; cases ha
    · rw [h3] at ha
      simp only [Option.some.injEq, Prod.mk.injEq] at ha
      obtain ⟨rfl, _⟩ := ha
      exact (Array.getElem?_eq_some_iff.1 h4).1
  have hm : ∀ k, memOf bs k = none := memOf_ro fun b c hc => by
    obtain ⟨_, _, _, _, rfl, _⟩ := h.at_ b c hc; rfl
  have hh : hdsIn bs out = fun b => (bs[b]?).map (·.h) := hdsIn_none fun b c hc => by
    obtain ⟨_, _, _, _, rfl, _⟩ := h.at_ b c hc; rfl
  refine ⟨fun k x hk => ?_, fun b g hg => ?_, fun k x g hk => ?_, fun b b' i i' r o o' h1 h2 _ _ => ?_, fun b i r o h1 _ h3 => ?_, fun b i r o h1 h2 _ => ?_, fun b hb => h.dom b hb, fun b i r o h1 h2 => ?_, rfl, rfl, rfl, Nat.le_refl _, fun _ _ _ => rfl, fun _ => rfl⟩
  · rw [hm] at hk; cases hk
  · rw [hh] at hg
    obtain ⟨c, hc, rfl⟩ := Option.map_eq_some_iff.1 hg
    obtain ⟨i, sh, l, g1, rfl, g2, g3, g4, g5⟩ := h.at_ b c hc
    refine ⟨i, g1, g2, g3, nofun, fun R hR => ?_⟩
    have hR' : some (⟨0, sh, l, none⟩ : Rw) = some R := hR
    simp only [Option.some.injEq] at hR'; subst hR'
    refine ⟨g4.symm, fun N hN => (nomatch hN), ?_⟩
    rcases g5 with ⟨g5, g6⟩ | ⟨r, o, arr, ty, fz, g5, g6, g7, g8⟩
    · exact .inl ⟨g5, g6, rfl⟩
    · exact .inr ⟨r, o, arr, ty, fz, g5, g6, g7, by simpa using g8⟩
  · rw [hm] at hk; cases hk
  · exact .inr ⟨(get b i h1).1, (get b' i' h2).1⟩
  · rw [(get b i h1).1] at h3; cases h3
  · exact ⟨(get b i h1).2 r o h2, id⟩
  · exact (get b i h1).2 r o h2

/-- One slice more. -/
theorem RoB.add {w : World} {φ : Phi} {bs : List BC} (h : RoB w φ bs) {sh : List Kd} {l : List (List Int)} {v : Value} (hv : SlcIn w sh l v) :
    ∃ ψ, φ.le ψ ∧ RoB w ψ (bs ++ [roBC sh l]) ∧ At.rel ψ (.slc true bs.length 0 0 sh.length 0 l.length) v := by
  obtain ⟨a, cap, rfl, hc, hl⟩ := hv
  have hd := h.dom bs.length (Nat.le_refl _)
  have mk : ∀ j : Inf, j.v = 0 → j.ro = true → j.n = l.length → ((j.a = none ∧ l = []) ∨ ∃ r o arr ty fz, j.a = some (r, o) ∧ w.heap[r]? = some (.cells arr ty fz) ∧ RowsIn arr o ⟨0, sh, l, none⟩ ∧ l.length * sh.length ≤ j.z) →
      φ.le (setP φ bs.length j) ∧ RoB w (setP φ bs.length j) (bs ++ [roBC sh l]) := fun j j1 j2 j3 j4 => by
    refine ⟨phi_upd_le (.inl hd), ⟨fun b c hb => ?_, fun b hb => ?_⟩⟩
    · rw [List.getElem?_append] at hb
      split at hb
      · rename_i hlt
        obtain ⟨i, sh', l', g1, g2⟩ := h.at_ b c hb
        exact ⟨i, sh', l', by unfold setP; rw [if_neg (by omega)]; exact g1, g2⟩
      · rename_i hge
        have e : b = bs.length := by
          rcases Nat.lt_or_ge (b - bs.length) 1 with h1 | h1
          · omega
          · rw [List.getElem?_eq_none (by simpa using h1)] at hb; cases hb
        subst e
        rw [Nat.sub_self] at hb
        simp only [List.getElem?_cons_zero, Option.some.injEq] at hb
        exact ⟨j, sh, l, setP_same .., hb.symm, j1, j2, j3, j4⟩
    · unfold setP
      rw [List.length_append] at hb
      simp only [List.length_cons, List.length_nil] at hb
      rw [if_neg (by omega)]
      exact h.dom b (by omega)
  rcases hl with rfl | ⟨r, o, arr, ty, fz, rfl, h1, h2⟩
  · obtain ⟨m1, m2⟩ := mk ⟨0, none, 0, 0, 0, true⟩ rfl rfl rfl (.inl ⟨rfl, rfl⟩)
    refine ⟨_, m1, m2, ⟨rfl, rfl⟩, _, setP_same .., Nat.le_refl _, fun _ => ⟨Nat.le_refl _, a, cap, rfl, hc, .inl rfl⟩⟩
  · obtain ⟨m1, m2⟩ := mk ⟨ty, some (r, o), l.length * sh.length, l.length, 0, true⟩ rfl rfl rfl (.inr ⟨r, o, arr, ty, fz, rfl, h1, h2, Nat.le_refl _⟩)
    refine ⟨_, m1, m2, ⟨rfl, rfl⟩, _, setP_same .., Nat.le_refl _, fun _ => ⟨by simp, some ⟨r, o, none⟩, cap, rfl, hc, .inr ⟨r, o, rfl, by simp⟩⟩⟩

theorem AllC.use {w : World} : ∀ {ks : List Kc} {bs : List BC} {Q : List At → List BC → Prop} {cs : List Value} {φ : Phi}, AllC ks bs Q → All2 (CF w) ks cs → RoB w φ bs →
    ∃ ags bs' ψ, φ.le ψ ∧ RoB w ψ bs' ∧ All2 (At.rel ψ) ags cs ∧ Q ags bs'
  | [], bs, Q, cs, φ, h, hc, hb => by cases hc; exact ⟨[], bs, φ, φ.le_refl, hb, .nil, h⟩
  | .one (.int k) :: ks, bs, Q, cs, φ, h, hc, hb => by
    cases hc with
    | cons a b =>
      obtain ⟨x, ⟨n, rfl, h1, h2⟩, hv⟩ := a
      obtain ⟨ags, bs', ψ, p1, p2, p3, p4⟩ := (h n h1 h2).use b hb
      exact ⟨_ :: ags, bs', ψ, p1, p2, .cons (At.rel_mono (φ := fun _ => none) (fun _ _ h => nomatch h) hv) p3, p4⟩
  | .one .bool :: ks, bs, Q, cs, φ, h, hc, hb => by
    cases hc with
    | cons a b =>
      obtain ⟨x, ⟨n, rfl⟩, hv⟩ := a
      obtain ⟨ags, bs', ψ, p1, p2, p3, p4⟩ := (h n).use b hb
      exact ⟨_ :: ags, bs', ψ, p1, p2, .cons (At.rel_mono (φ := fun _ => none) (fun _ _ h => nomatch h) hv) p3, p4⟩
  | .one .str :: ks, bs, Q, cs, φ, h, hc, hb => by
    cases hc with
    | cons a b =>
      obtain ⟨x, ⟨n, rfl, h1⟩, hv⟩ := a
      obtain ⟨ags, bs', ψ, p1, p2, p3, p4⟩ := (h n h1).use b hb
      exact ⟨_ :: ags, bs', ψ, p1, p2, .cons (At.rel_mono (φ := fun _ => none) (fun _ _ h => nomatch h) hv) p3, p4⟩
  | .slc sh :: ks, bs, Q, cs, φ, h, hc, hb => by
    cases hc with
    | cons a b =>
      obtain ⟨l, h1, h2, h3⟩ := a
      obtain ⟨χ, q1, q2, q3⟩ := hb.add h3
      obtain ⟨ags, bs', ψ, p1, p2, p3, p4⟩ := (h l h1 h2).use b q2
      exact ⟨_ :: ags, bs', ψ, Phi.le_trans q1 p1, p2, .cons (At.rel_mono p1 q3) p3, p4⟩

/-- The shape of a parameter. -/
def kcShape (P : Program) (t : TypeId) : Option (Bool × List Kc) :=
  match P.underlying t with
  | some (.struct _) | some (.array _ _) => match kcT P 20 t with
    | some ks => some (true, ks)
    | none => none
  | some _ => match kcT P 20 t with
    | some [k] => some (false, [k])
    | _ => none
  | none => none

def kcShapes (P : Program) : List TypeId → Option (List (Bool × List Kc))
  | [] => some []
  | t :: ts => match kcShape P t, kcShapes P ts with
    | some s, some ss => some (s :: ss)
    | _, _ => none

theorem argsB_open {H : Type} {enc : TypeId × Value → H} {P : Program} {w : World} {r : Reach} {base : Nat} : ∀ {ts : List TypeId} {vs : List Value} {ds : List (DataW H)} {ps : List MemPlace} {ss : List (Bool × List Kc)} {bs : List BC} {Q : List LV → List BC → Prop} {φ : Phi}, kcShapes P ts = some ss →
    DataW.TrodAll enc P w 0 (fun _ => true) true ts vs ds ps → (∀ (j : Nat) t v, ts[j]? = some t → vs[j]? = some v → Value.okWide P w r base t v) → AllB ss bs Q → RoB w φ bs →
    ∃ ags bs' ψ, φ.le ψ ∧ RoB w ψ bs' ∧ All2 (LV.rel ψ) ags vs ∧ Q ags bs'
  | [], [], [], ps, ss, bs, Q, φ, hs, _, _, h, hb => by
    simp only [kcShapes, Option.some.injEq] at hs; subst hs
    exact ⟨[], bs, φ, φ.le_refl, hb, .nil, h⟩
  | [], [], _ :: _, ps, ss, bs, Q, φ, hs, ht, _, _, _ => ht.elim
  | [], _ :: _, _, ps, ss, bs, Q, φ, hs, ht, _, _, _ => ht.elim
  | t :: ts, [], _, ps, ss, bs, Q, φ, hs, ht, _, _, _ => ht.elim
  | t :: ts, v :: vs, [], ps, ss, bs, Q, φ, hs, ht, _, _, _ => ht.elim
  | t :: ts, v :: vs, d :: ds, ps, ss, bs, Q, φ, hs, ht, hw, h, hb => by
    obtain ⟨p, q, ⟨fuel, h1⟩, h2, rfl⟩ := ht
    unfold kcShapes at hs
    split at hs
    · rename_i s ss' k1 k2
      simp only [Option.some.injEq] at hs; subst hs
      obtain ⟨qq, ks⟩ := s
      have hw0 := hw 0 t v (by simp) (by simp)
      have rest := fun {Q'} {bs'} {ψ} => argsB_open (enc := enc) (Q := Q') (bs := bs') (φ := ψ) k2 h2 (fun j u x hj hx => hw (j + 1) u x (by simpa using hj) (by simpa using hx))
      have agg : (∃ cs, v = .agg cs) → kcT P 20 t = some ks → qq = true → ∃ ags bs' ψ, φ.le ψ ∧ RoB w ψ bs' ∧ All2 (LV.rel ψ) ags (v :: vs) ∧ Q ags bs' := fun ⟨cs, hv⟩ hk hq => by
        subst hq hv
        have hcf := trod_kc 20 hk h1
        obtain ⟨l, bs', ψ, p1, p2, p3, p4⟩ := AllC.use h hcf hb
        obtain ⟨ags, bs'', χ, r1, r2, r3, r4⟩ := rest p4 p2
        exact ⟨.g l :: ags, bs'', χ, Phi.le_trans p1 r1, r2, .cons ⟨cs, rfl, p3.mono fun _ _ => At.rel_mono r1⟩ r3, r4⟩
      unfold kcShape at k1
      unfold Value.okWide at hw0
      split at k1
      · rename_i hu
        simp only [hu] at hw0
        obtain ⟨cs, e, _, _⟩ := hw0
        split at k1
        · rename_i ks' hk
          simp only [Option.some.injEq, Prod.mk.injEq] at k1
          obtain ⟨rfl, rfl⟩ := k1
          exact agg ⟨cs, e⟩ hk rfl
        · cases k1
      · rename_i hu
        simp only [hu] at hw0
        obtain ⟨cs, e, _, _⟩ := hw0
        split at k1
        · rename_i ks' hk
          simp only [Option.some.injEq, Prod.mk.injEq] at k1
          obtain ⟨rfl, rfl⟩ := k1
          exact agg ⟨cs, e⟩ hk rfl
        · cases k1
      · rename_i dd hne1 hne2 hu
        simp only [hu] at hw0
        have hwc : Cell.okWide P w r base t v := by
          cases dd <;> first | exact hw0 | exact absurd rfl (hne1 _) | exact absurd rfl (hne2 _ _)
        split at k1
        · rename_i k hk
          simp only [Option.some.injEq, Prod.mk.injEq] at k1
          obtain ⟨rfl, rfl⟩ := k1
          have hone : v.cells = #[v] := by
            cases v with
            | agg cs =>
              exfalso
              unfold Cell.okWide at hwc
              unfold kcT at hk
              cases dd <;> simp only [hu, reduceCtorEq] at hk hwc <;> first | exact absurd rfl (hne1 _) | exact absurd rfl (hne2 _ _) | (unfold Cell.ok at hwc; simp [hu] at hwc)
            | _ => rfl
          have hcf := trod_kc 20 hk h1
          obtain ⟨l, bs', ψ, p1, p2, p3, p4⟩ := AllC.use h hcf hb
          have hlen := p3.length
          have hlen2 := hcf.length
          match l, hlen with
          | [x], hlen =>
            obtain ⟨ags, bs'', χ, r1, r2, r3, r4⟩ := rest p4 p2
            refine ⟨.a x :: ags, bs'', χ, Phi.le_trans p1 r1, r2, .cons ?_ r3, r4⟩
            rw [hone] at p3
            cases p3 with
            | cons p _ => exact At.rel_mono r1 p
          | [], hlen => simp at hlen hlen2; omega
          | _ :: _ :: _, hlen => simp at hlen hlen2; omega
        · cases k1
      · cases k1
    · cases hs

theorem trodAll_stays' {H : Type} {enc : TypeId × Value → H} {P : Program} (hl : laidOutB P = true) {W W' : World} (hb : Below W.heap.size W W') {sp : Nat → Bool} : ∀ {ts : List TypeId} {vs : List Value} {ds : List (DataW H)} {ps : List MemPlace},
    (ts.all fun t => P.readableRec t && decide (t < P.types.size)) = true → DataW.TrodAll enc P W 0 (fun _ => true) true ts vs ds ps → (∀ p ∈ ps, p.block < W.heap.size) → (∀ p ∈ ps, sp p.block = true) →
    DataW.TrodAll enc P W' 0 sp true ts vs ds ps
  | [], [], [], ps, _, h, _, _ => h
  | [], [], _ :: _, ps, _, h, _, _ => h.elim
  | [], _ :: _, _, ps, _, h, _, _ => h.elim
  | t :: ts, [], _, ps, _, h, _, _ => h.elim
  | t :: ts, v :: vs, [], ps, _, h, _, _ => h.elim
  | t :: ts, v :: vs, d :: ds, ps, hr, h, hlt, hs => by
    obtain ⟨p, q, h1, h2, rfl⟩ := h
    simp only [List.all_cons, Bool.and_eq_true] at hr
    exact ⟨p, q, WideElems.Trod_stays hl hr.1.1 (of_decide_eq_true hr.1.2) h1 (fun x hx => hb.same (hlt x (List.mem_append.2 (.inl hx)))) (fun x hx => hs x (List.mem_append.2 (.inl hx))),
      trodAll_stays' hl hb hr.2 h2 (fun x hx => hlt x (List.mem_append.2 (.inr hx))) (fun x hx => hs x (List.mem_append.2 (.inr hx))), rfl⟩

theorem trodAll_len {H : Type} {enc : TypeId × Value → H} {P : Program} {W : World} {sp : Nat → Bool} {hd : Bool} : ∀ {ts : List TypeId} {vs : List Value} {ds : List (DataW H)} {ps : List MemPlace},
    DataW.TrodAll enc P W 0 sp hd ts vs ds ps → ds.length = ts.length
  | [], [], [], ps, _ => rfl
  | [], [], _ :: _, ps, h => h.elim
  | [], _ :: _, _, ps, h => h.elim
  | t :: ts, [], _, ps, h => h.elim
  | t :: ts, v :: vs, [], ps, h => h.elim
  | t :: ts, v :: vs, d :: ds, ps, h => by
    obtain ⟨p, q, _, h2, _⟩ := h
    simp [trodAll_len h2]

/-- The row's step for a law whose arguments hold slices: whatever the arguments, it returns true. -/
theorem law_liftedB {C : Checked} {os : Os} (started : os.Started) {H : Type} (enc : TypeId × Value → H) {f : Nat} {fn : Func} {s : ChangeSpec} {ss : List (Bool × List Kc)} {tb : TypeId}
    (own : ownKnob C.prog.godebug = none) (hi : C.prog.inits.idxOf? f = none) (hf : C.prog.funcs[f]? = some fn) (hv : s.vars = [])
    (hfn : ∀ ds : List (DataW H), ds.length = fn.params.toList.length → s.fn H (ds ++ []) = { results := [.lit (.bool true)], args := ds })
    (hlo : laidOutB C.prog = true) (hp : (fn.params.toList.all fun t => C.prog.readableRec t && decide (t < C.prog.types.size)) = true) (hs : kcShapes C.prog fn.params.toList = some ss) (hr : fn.resultTypes = #[tb]) (htb : C.prog.underlying tb = some .bool)
    (wit : ∃ (w : World) (tape : Tape) (i : Input), w.os = os ∧ World.Shaped C.prog (w.forCall tape i) ∧ i.vars = [] ∧ Input.okWide C.prog (w.forCall tape i) Reach.any w.heap.size f i ∧
      ChangeSpec.pre6 enc C.prog fn s [] false (w.forCall tape i).memory i.args ∧ Assume.holds {} C.prog (lone (Frame.enter C.prog f i.args CallKind.normal) [] (w.forCall tape i)))
    (core : AllB ss [] fun ags bs => ∀ (vs : Array Value) (w : World) (φ : Phi), All2 (LV.rel φ) ags vs.toList → (∀ out, MR w (fun _ => False) φ (memOf bs) (hdsIn bs out) (fun b => bs.length ≤ b) w) → Calls C.prog f vs w fun e w' => e = .returned (.bool true) ∧ Grows w w') :
    ReturnsInHanded {} C os f .any (s.pre6 enc C.prog fn [] false) (s.post enc C.prog fn false true false false) := by
  refine returnsInHanded_of_change own started hi hf wit ?_
  intro W base args ds gs before hval hW hcnd _
  have hW' := hW
  obtain ⟨p, q, hA, hV, rfl, hfz, hnd⟩ := hW
  rw [hv] at hV
  obtain ⟨rfl, rfl⟩ := trodVars_none hV
  have hlt : ∀ x ∈ p, x.block < W.heap.size := fun x hx => by simpa using hW'.lt x (List.mem_append.2 (.inl hx))
  obtain ⟨ags, bs, φ, _, a0, a1, a2⟩ := argsB_open hs hA (fun j t v h1 h2 => hval j t v (by simpa using h1) (by simpa using h2)) core (RoB.nil W)
  have hdl : ds.length = fn.params.toList.length := trodAll_len hA
  refine (a2 args W φ a1 (fun out => a0.mr out)).mono fun e W' ⟨he, hg⟩ => ?_
  subst he
  have e1 := hfn ds hdl
  refine ⟨_, rfl, post_of_same (pa := p) (pv := []) hW' ?_ ?_ ?_ rfl (hg.below.frame _) hg.frz ?_⟩
  · intro b sp hd
    rw [e1, hr]
    exact trodAll_cons_mk (shut_bool htb _) trodAll_mk0
  · intro sp hsp
    rw [e1]
    exact trodAll_stays' hlo hg.below hp hA hlt (fun x hx => hsp x (List.mem_append.2 (.inl hx)))
  · intro sp _
    rw [hv, e1]
    exact rfl
  · exact ok_one hr rfl (okWide_bool_mk htb _)

theorem law_coreB {P : Program} {f : Nat} {c : Con} (hc : ConOK P f c) {args : List LV} {bs : List BC} {obs : List Prop} {m b : Bool} {out : List (Option BC)} (he : c args bs = some (obs, .a (.bool m b), out)) (ho : Alls obs) (hb : b = true) (vs : Array Value) (w : World) (φ : Phi)
    (h : All2 (LV.rel φ) args vs.toList) (hM : ∀ out, MR w (fun _ => False) φ (memOf bs) (hdsIn bs out) (fun b => bs.length ≤ b) w) : Calls P f vs w fun e w' => e = .returned (.bool true) ∧ Grows w w' := by
  refine (hc _ _ _ _ _ he ho φ vs w (fun _ => False) h (hM out)).mono fun e w' hh => ?_
  obtain ⟨v', φ', rfl, _, hv, hm⟩ := hh
  have hv' : v' = .bool b := hv
  exact ⟨by rw [hv', hb], ⟨hm.os, hm.tape, hm.output, hm.size, fun k hk => hm.block k hk id⟩, hm.frz⟩

end Go.Proofs.Ytcdejlgophpdjaa.V
end

section
namespace Go.Proofs.Ytcdejlgophpdjaa
open Go Go.RowKit Go.Proofs.Ytcdejlgophpdjaa.V
set_option linter.unusedVariables false
set_option linter.unusedSectionVars false

namespace Vm

/-- What Program is told. -/
structure Sb (l : List (List Int)) : Prop where
  f : ∀ i j, j < 4 → 0 ≤ rget l i j ∧ rget l i j ≤ 255
  m : ∀ i, -32768 ≤ rget l i 4 ∧ rget l i 4 ≤ 32767

theorem fit_get {s : List (List Int)} {sh : List Kd} (p : ∀ row ∈ s, RowFit sh row) {j : Nat} {kd : IntKind} (hj : sh[j]? = some (.int kd)) (i : Nat) : rget s i j = 0 ∨ (IntKind.min kd ≤ rget s i j ∧ rget s i j ≤ IntKind.max kd) := by
  unfold rget
  cases h : s[i]? with
  | none =>
    have : s.getD i [] = [] := by rw [List.getD_eq_getElem?_getD, h]; rfl
    rw [this]; exact .inl rfl
  | some row =>
    have : s.getD i [] = row := by rw [List.getD_eq_getElem?_getD, h]; rfl
    rw [this]
    obtain ⟨a, b⟩ := p row (List.mem_of_getElem? h)
    have hl : j < row.length := by
      rw [a]; exact (List.getElem?_eq_some_iff.1 hj).1
    have e : row[j]? = some row[j] := List.getElem?_eq_getElem hl
    have e' : row.getD j 0 = row[j] := by rw [List.getD_eq_getElem?_getD, e]; rfl
    rw [e']
    exact .inr (b j (.int kd) _ hj e)
theorem sb_of {l : List (List Int)} (p : ∀ row ∈ l, RowFit [.int .u8, .int .u8, .int .u8, .int .u8, .int .i16, .bool] row) : Sb l := by
  have m8 : IntKind.min .u8 = 0 := rfl
  have M8 : IntKind.max .u8 = 255 := rfl
  have m16 : IntKind.min .i16 = -32768 := rfl
  have M16 : IntKind.max .i16 = 32767 := rfl
  refine ⟨fun i j hj => ?_, fun i => ?_⟩
  · match j, hj with
    | 0, _ => have := fit_get p (j := 0) (kd := .u8) rfl i; omega
    | 1, _ => have := fit_get p (j := 1) (kd := .u8) rfl i; omega
    | 2, _ => have := fit_get p (j := 2) (kd := .u8) rfl i; omega
    | 3, _ => have := fit_get p (j := 3) (kd := .u8) rfl i; omega
  · have := fit_get p (j := 4) (kd := .i16) rfl i; omega

theorem rp_app {p : List (List Int)} (R : Rp p) (hl : p.length < 20) {o d a b m : Int} (ho : 0 ≤ o ∧ o < 15) (hd : 0 ≤ d ∧ d < 12) (ha : 0 ≤ a ∧ a < 9) (hb : 0 ≤ b ∧ b < 12) (hm : -32768 ≤ m ∧ m ≤ 32767) : Rp (p ++ [[o, d, a, b, m]]) := by
  refine ⟨by rw [List.length_append, List.length_singleton]; omega, fun k hk => ?_⟩
  rw [List.length_append, List.length_singleton] at hk
  by_cases h : k < p.length
  · have f := R.f k h
    refine ⟨?_, ?_, ?_, ?_, ?_⟩ <;> rw [rget_app, if_pos h]
    · exact f.op
    · exact f.dst
    · exact f.a
    · exact f.b
    · exact f.m
  · have h' : k = p.length := by omega
    refine ⟨?_, ?_, ?_, ?_, ?_⟩ <;> rw [rget_app, if_neg h, if_pos h']
    · exact ho
    · exact hd
    · exact ha
    · exact hb
    · exact hm
theorem set_app (p : List (List Int)) (r s : List Int) : (p ++ [r]).set p.length s = p ++ [s] := by
  rw [List.set_append_right _ _ (Nat.le_refl _), Nat.sub_self]; rfl
theorem rset_app (p : List (List Int)) (o d a b m b' m' : Int) : rset (rset (p ++ [[o, d, a, b, m]]) p.length 3 [b']) p.length 4 [m'] = p ++ [[o, d, a, b', m']] := by
  have e : ∀ r : List Int, (p ++ [r]).getD p.length [] = r := fun r => by rw [getD_app, if_neg (Nat.lt_irrefl _), if_pos rfl]
  unfold rset
  rw [e, set_app, e, set_app]; rfl

theorem pr1_run {l : List (List Int)} (S : Sb l) (d : Bool) {n : Nat} (hn : n ≤ 9223372036854775807) :
    (∃ x v', pPr_s0 n d l = some (x, v') ∧ v'.a0 = d ∧ Rp v'.a5 ∧ v'.a5.length = min n 20) ∧ lok pPr_l29_st 18446744073709551616 (pPr_l29_T.mk d n (Int.ofNat n) 0 l []) := by
  obtain ⟨⟨x, v', e, hx, Q⟩, ok⟩ := mr_run (st := pPr_l29_st) (I := fun D v => ∃ (k : Nat) (out : List (List Int)), v = pPr_l29_T.mk d n (Int.ofNat n) (k : Int) l out ∧ k ≤ n ∧ D = n - k ∧ Rp out ∧ out.length = min k 20)
    (R := fun x v' => v'.a0 = d ∧ Rp v'.a5 ∧ v'.a5.length = min n 20) (by
      rintro D v ⟨k, out, rfl, hk, hD, R, hl⟩
      have s0 : pPr_l29_s0 (pPr_l29_T.mk d n (Int.ofNat n) (k : Int) l out) = decide (k < n) := by
        unfold pPr_l29_s0
        exact decide_eq_decide.2 (show (k : Int) < (n : Int) ↔ k < n by omega)
      have s1 : pPr_l29_s1 (pPr_l29_T.mk d n (Int.ofNat n) (k : Int) l out) = decide (k < 20) := by
        unfold pPr_l29_s1
        exact decide_eq_decide.2 (show (k : Int) < 20 ↔ k < 20 by omega)
      have f0 := S.f k 0 (by omega)
      have f1 := S.f k 1 (by omega)
      have f2 := S.f k 2 (by omega)
      have f3 := S.f k 3 (by omega)
      have f4 := S.m k
      have s2 : pPr_l29_s2 (pPr_l29_T.mk d n (Int.ofNat n) (k : Int) l out) = rget l k 3 := by
        unfold pPr_l29_s2
        show rget l (0 + Int.toNat (k : Int)) 3 = _
        rw [Nat.zero_add, Int.toNat_natCast]
      have s3 : pPr_l29_s3 (pPr_l29_T.mk d n (Int.ofNat n) (k : Int) l out) = rget l k 4 := by
        unfold pPr_l29_s3
        show rget l (0 + Int.toNat (k : Int)) 4 = _
        rw [Nat.zero_add, Int.toNat_natCast]
      have s4 : pPr_l29_s4 (pPr_l29_T.mk d n (Int.ofNat n) (k : Int) l out) = out ++ [[rget l k 0 % 15, rget l k 1 % 12, rget l k 2 % 9, rget l k 3 % 12, rget l k 4]] := by
        unfold pPr_l29_s4
        rw [s2, s3]
        show out ++ [[Int.tmod (rget l (0 + Int.toNat (k : Int)) 0) 15, Int.tmod (rget l (0 + Int.toNat (k : Int)) 1) 12, Int.tmod (rget l (0 + Int.toNat (k : Int)) 2) 9, _, _]] = _
        rw [Nat.zero_add, Int.toNat_natCast, Int.tmod_eq_emod_of_nonneg f0.1, Int.tmod_eq_emod_of_nonneg f1.1, Int.tmod_eq_emod_of_nonneg f2.1, Int.tmod_eq_emod_of_nonneg f3.1]
      have hlen : (pPr_l29_s4 (pPr_l29_T.mk d n (Int.ofNat n) (k : Int) l out)).length = min k 20 + 1 := by
        rw [s4, List.length_append, List.length_singleton, hl]
      refine ⟨?_, ?_⟩
      · unfold pPr_l29_st
        rw [s0, s1]
        refine ⟨fun h => ?_, fun _ _ => ?_, fun _ h => ?_, trivial⟩
        · have := of_decide_eq_true h
          show (0 : Int) ≤ (k : Int) ∧ (k : Int) < (n : Int)
          omega
        · rw [hlen]; omega
        · have := of_decide_eq_true h
          rw [hlen]
          show (0 : Int) ≤ (k : Int) ∧ (k : Int) < ((min k 20 + 1 : Nat) : Int)
          omega
      · unfold pPr_l29_st
        rw [s0]
        by_cases h : k < n
        · rw [decide_eq_true h]
          have e1 : IntKind.wrap .i64 ((k : Int) + 1) = ((k + 1 : Nat) : Int) := by rw [w64_in (by omega) (by omega)]; rfl
          rw [s1, s2, s3]
          refine .inl ⟨pPr_l29_T.mk d n (Int.ofNat n) ((k + 1 : Nat) : Int) l (bif decide (k < 20) then bif (bif rget (out ++ [[rget l k 0 % 15, rget l k 1 % 12, rget l k 2 % 9, rget l k 3 % 12, rget l k 4]]) k 0 == 12 then true else rget (out ++ [[rget l k 0 % 15, rget l k 1 % 12, rget l k 2 % 9, rget l k 3 % 12, rget l k 4]]) k 0 == 11) then out ++ [[rget l k 0 % 15, rget l k 1 % 12, rget l k 2 % 9, IntKind.wrap .u8 (1 + Int.tmod (rget l k 3) 4), IntKind.wrap .i16 (1 + IntKind.wrap .i16 (Int.ofNat (Int.toNat (rget l k 4 % pPr_l29_s5) &&& Int.toNat (3 % pPr_l29_s5))))]] else out ++ [[rget l k 0 % 15, rget l k 1 % 12, rget l k 2 % 9, rget l k 3 % 12, rget l k 4]] else out), n - (k + 1), ?_, by omega, k + 1, _, rfl, by omega, rfl, ?_, ?_⟩
          · rw [s4]
            show some (X.n, pPr_l29_T.mk d n (Int.ofNat n) (IntKind.wrap .i64 ((k : Int) + 1)) l (bif decide (k < 20) then bif (bif rget _ (Int.toNat (k : Int)) 0 == 12 then true else rget _ (Int.toNat (k : Int)) 0 == 11) then rset (rset _ (Int.toNat (k : Int)) 3 _) (Int.toNat (k : Int)) 4 _ else _ else out)) = _
            rw [e1, Int.toNat_natCast]
            by_cases q : k < 20
            · have hk' : k = out.length := by omega
              rw [decide_eq_true q]
              simp only [cond_true]
              congr 3
              rw [show rset (rset (out ++ [[rget l k 0 % 15, rget l k 1 % 12, rget l k 2 % 9, rget l k 3 % 12, rget l k 4]]) k 3 [IntKind.wrap .u8 (1 + Int.tmod (rget l k 3) 4)]) k 4 [IntKind.wrap .i16 (1 + IntKind.wrap .i16 (Int.ofNat (Int.toNat (rget l k 4 % pPr_l29_s5) &&& Int.toNat (3 % pPr_l29_s5))))] = rset (rset (out ++ [[rget l k 0 % 15, rget l k 1 % 12, rget l k 2 % 9, rget l k 3 % 12, rget l k 4]]) out.length 3 [IntKind.wrap .u8 (1 + Int.tmod (rget l k 3) 4)]) out.length 4 [IntKind.wrap .i16 (1 + IntKind.wrap .i16 (Int.ofNat (Int.toNat (rget l k 4 % pPr_l29_s5) &&& Int.toNat (3 % pPr_l29_s5))))] by rw [← hk'], rset_app]
            · rw [decide_eq_false q]; rfl
          · by_cases q : k < 20
            · rw [decide_eq_true q]
              have lo : out.length < 20 := by omega
              have hb' : 0 ≤ IntKind.wrap .u8 (1 + Int.tmod (rget l k 3) 4) ∧ IntKind.wrap .u8 (1 + Int.tmod (rget l k 3) 4) < 12 := by
                rw [Int.tmod_eq_emod_of_nonneg f3.1, wu8]; omega
              have hm' : -32768 ≤ IntKind.wrap .i16 (1 + IntKind.wrap .i16 (Int.ofNat (Int.toNat (rget l k 4 % pPr_l29_s5) &&& Int.toNat (3 % pPr_l29_s5)))) ∧ IntKind.wrap .i16 (1 + IntKind.wrap .i16 (Int.ofNat (Int.toNat (rget l k 4 % pPr_l29_s5) &&& Int.toNat (3 % pPr_l29_s5)))) ≤ 32767 := by
                have e : pPr_l29_s5 = 65536 := by decide
                rw [e]
                have := and3 (rget l k 4) 65536 (.inr rfl)
                generalize Int.toNat (rget l k 4 % 65536) &&& Int.toNat (3 % 65536) = z at this
                match z, this with
                | 0, _ => decide
                | 1, _ => decide
                | 2, _ => decide
                | 3, _ => decide
              simp only [cond_true]
              cases (bif rget (out ++ [[rget l k 0 % 15, rget l k 1 % 12, rget l k 2 % 9, rget l k 3 % 12, rget l k 4]]) k 0 == 12 then true else rget (out ++ [[rget l k 0 % 15, rget l k 1 % 12, rget l k 2 % 9, rget l k 3 % 12, rget l k 4]]) k 0 == 11)
              · exact rp_app R lo (by omega) (by omega) (by omega) (by omega) (by omega)
              · exact rp_app R lo (by omega) (by omega) (by omega) hb' hm'
            · rw [decide_eq_false q]; exact R
          · by_cases q : k < 20
            · rw [decide_eq_true q]
              simp only [cond_true]
              cases (bif rget (out ++ [[rget l k 0 % 15, rget l k 1 % 12, rget l k 2 % 9, rget l k 3 % 12, rget l k 4]]) k 0 == 12 then true else rget (out ++ [[rget l k 0 % 15, rget l k 1 % 12, rget l k 2 % 9, rget l k 3 % 12, rget l k 4]]) k 0 == 11) <;>
              · simp only [cond_true, cond_false]
                rw [List.length_append, List.length_singleton]; omega
            · rw [decide_eq_false q]
              show out.length = _
              omega
        · rw [decide_eq_false h]
          obtain rfl : k = n := by omega
          exact .inr ⟨.e 0, _, by simp, rfl, rfl, R, hl⟩)
    18446744073709551616 n _ ⟨0, [], rfl, Nat.zero_le _, rfl, ⟨by simp, fun i h => by simp at h⟩, rfl⟩ (by omega)
  exact ⟨⟨x, v', e, Q⟩, ok⟩

theorem pr_spec {l : List (List Int)} (S : Sb l) (d : Bool) {n : Nat} (hn : n ≤ 9223372036854775807) :
    Rp (pPr_0 n d l) ∧ (pPr_0 n d l).length = min n 20 ∧ pCh_0 d (pPr_0 n d l) = 0 ∧ lok pPr_l29_st 18446744073709551616 (pPr_l29_T.mk d n (Int.ofNat n) 0 l []) ∧
    lok pPr_l61_st 18446744073709551616 (pPr_l61_T.mk (pPr_l29_T.a0 (V.valOf (pPr_s0 n d l))) 0 (pPr_l29_T.a5 (V.valOf (pPr_s0 n d l)))) := by
  obtain ⟨⟨x, v', e, e0, R, hl⟩, ok⟩ := pr1_run S d hn
  unfold pPr_0
  rw [e]
  have g0 : pPr_l29_T.a0 (V.valOf (some (x, v'))) = d := e0
  rw [g0]
  obtain ⟨⟨y, u, e2, R2, hl2, c2⟩, ok2⟩ := fix_run (d := d) R
  have e2' : lrun pPr_l61_st 18446744073709551616 (pPr_l61_T.mk d 0 (pPr_l29_T.a5 (V.valOf (some (x, v'))))) = some (y, u) := e2
  rw [e2']
  exact ⟨R2, hl2.trans hl, c2, ok, ok2⟩

section
variable {p : List (List Int)} (B : Pb p)
include B
/-- What a run asks for, and what it takes. -/
theorem run_lok (g : List (List Int)) (h : vRun_s0 p = true) : lok vRa5_l13_st 18446744073709551616 (vRa5_l13_T.mk (Int.ofNat p.length) false 0 g false 0 p) := by
  have h0 : pCh_0 true p = 0 := beq_iff_eq.1 h
  exact (top_run (ok_of B h0) ((ch_spec B true).1 h0).2.2 ⟨g, false, 0⟩ rfl).1
theorem run_st (g : List (List Int)) : (bif vRun_s0 p then vRa5_3 0 (Int.ofNat p.length) g false 0 p else 0) ≤ pFu_0 p := by
  have F0 := Fs_bd B p.length
  rw [(fu_spec B).1]
  cases h : vRun_s0 p with
  | false => show (0 : Int) ≤ _; omega
  | true =>
    have h0 : pCh_0 true p = 0 := beq_iff_eq.1 h
    have := top_run (ok_of B h0) ((ch_spec B true).1 h0).2.2 ⟨g, false, 0⟩ rfl
    show vRa5_3 0 (Int.ofNat p.length) g false 0 p ≤ _
    rw [this.2.2.2.2.1]
    exact this.2.2.2.2.2.2
end

theorem awake : vAw_0 = true := by kernel_rfl
theorem aw_rp : Rp vAw_s0 := by
  refine ⟨by decide, fun i h => ?_⟩
  match i, h with
  | 0, _ => exact ⟨by decide, by decide, by decide, by decide, by decide⟩
theorem aw_pb : Pb vAw_s0 := aw_rp.pb

theorem fwi_bd (x : Int) : -4194304 ≤ fWi_0 x 4194304 ∧ fWi_0 x 4194304 ≤ 4194304 := by
  have e : fWi_s1 4194304 = -4194304 := by decide
  unfold fWi_0 fWi_s0
  rw [e]
  split <;> split <;> omega
theorem col_bd (x : Int) : 0 ≤ vCol_0 x ∧ vCol_0 x ≤ 65536 := by
  unfold vCol_0 vCol_s0
  split <;> split <;> omega
theorem col_col (x : Int) : vCol_0 (vCol_0 x) = vCol_0 x := by
  have := col_bd x
  generalize vCol_0 x = y at this
  unfold vCol_0 vCol_s0
  split <;> split <;> omega
theorem col1 : vCol_1 = vCol_0 := rfl
theorem col2 : vCol_2 = vCol_0 := rfl
theorem col3 : vCol_3 = vCol_0 := rfl
theorem dep_dep (x : Int) : vSh_s1 (vSh_s1 x) = vSh_s1 x := by
  have : 0 ≤ vSh_s1 x ∧ vSh_s1 x ≤ 65535 := by
    unfold vSh_s1 vSh_s0
    split <;> split <;> omega
  generalize vSh_s1 x = y at this
  unfold vSh_s1 vSh_s0
  split <;> split <;> omega
end Vm

end Go.Proofs.Ytcdejlgophpdjaa
end

section
namespace Go.Proofs.Ytcdejlgophpdjaa
open Go Go.RowKit Go.Proofs.Ytcdejlgophpdjaa.V
set_option linter.unusedVariables false
set_option linter.unusedSectionVars false

namespace Vm

/-- One step hangs on the instruction alone. -/
theorem st1_ext {p q : List (List Int)} {i k : Nat} (h : ∀ j, rget p i j = rget q k j) (g : List (List Int)) (gn : Bool) :
    vSt1_1 (i : Int) g p = vSt1_1 (k : Int) g q ∧ vSt1_2 (i : Int) g p = vSt1_2 (k : Int) g q ∧ vSt1_3 (i : Int) g gn p = vSt1_3 (k : Int) g gn q := by
  delta vSt1_1 vSt1_2 vSt1_3
  refine ⟨?_, ?_, ?_⟩
  all_goals
    delta vSt1_s0 vSt1_s1 vSt1_s2 vSt1_s3 vSt1_s4 vSt1_s5 vSt1_s6 vSt1_s7 vSt1_s8 vSt1_s9 vSt1_s10 vSt1_s11 vSt1_s12 vSt1_s13 vSt1_s14 vSt1_s15 vSt1_s16 vSt1_s17 vSt1_s18 vSt1_s19 vSt1_s20 vSt1_s21 vSt1_s22 vSt1_s23 vSt1_s24 vSt1_s25 vSt1_s26 vSt1_s27 vSt1_s28 vSt1_s29 vSt1_s30 vSt1_s31 vSt1_s32 vSt1_s33 vSt1_s34 vSt1_s35 vSt1_s36 vSt1_s37 vSt1_s38 vSt1_s39
    rw [Int.toNat_natCast, Int.toNat_natCast]
    try rw [h 0]
    try rw [h 1]
    try rw [h 2]
    try rw [h 3]
    try rw [h 4]

/-- Straight code. -/
def str (b : List (List Int)) : Nat → Nat → G → Bool × G
  | 0, _, s => (true, s)
  | d + 1, j, s => match vSt1_1 (j : Int) s.g b with
    | true => str b d (j + 1) ⟨vSt1_2 (j : Int) s.g b, vSt1_3 (j : Int) s.g s.gn b, s.st + 1⟩
    | false => (false, ⟨vSt1_2 (j : Int) s.g b, vSt1_3 (j : Int) s.g s.gn b, s.st + 1⟩)
def it (b : List (List Int)) : Nat → G → Bool × G
  | 0, s => (true, s)
  | n + 1, s => match (str b b.length 0 s).1 with
    | true => it b n (str b b.length 0 s).2
    | false => (false, (str b b.length 0 s).2)
def up (s : G) : G := ⟨s.g, s.gn, s.st + 1⟩
theorem str_up (b : List (List Int)) : ∀ (d j : Nat) (s : G), str b d j (up s) = ((str b d j s).1, up (str b d j s).2)
  | 0, j, s => rfl
  | d + 1, j, s => by
    unfold str
    have := str_up b d (j + 1) ⟨vSt1_2 (j : Int) s.g b, vSt1_3 (j : Int) s.g s.gn b, s.st + 1⟩
    show (match vSt1_1 (j : Int) s.g b with
      | true => str b d (j + 1) (up ⟨vSt1_2 (j : Int) s.g b, vSt1_3 (j : Int) s.g s.gn b, s.st + 1⟩)
      | false => (false, up ⟨vSt1_2 (j : Int) s.g b, vSt1_3 (j : Int) s.g s.gn b, s.st + 1⟩)) = _
    cases vSt1_1 (j : Int) s.g b with
    | true => exact this
    | false => rfl
theorem it_up (b : List (List Int)) : ∀ (n : Nat) (s : G), it b n (up s) = ((it b n s).1, up (it b n s).2)
  | 0, s => rfl
  | n + 1, s => by
    unfold it
    rw [str_up]
    cases (str b b.length 0 s).1 with
    | true => exact it_up b n _
    | false => rfl

section
variable {b : List (List Int)} (hb : ∀ j, j < b.length → rget b j 0 ≠ 11 ∧ rget b j 0 ≠ 12)
include hb

theorem seg_str {P : List (List Int)} (O : Ok P) (hP : ∀ i, rget P (i + 1) = rget b i) (hl : P.length = b.length + 1) :
    ∀ (d j F : Nat) (s : G), j + d = b.length → d ≤ F → seg P ((b.length : Int) + 1) F ((j : Int) + 1) s = str b d j s
  | 0, j, 0, s, _, _ => rfl
  | 0, j, F + 1, s, h, _ => by
    unfold seg
    rw [if_neg (by omega)]; rfl
  | d + 1, j, 0, s, _, h => by omega
  | d + 1, j, F + 1, s, h, hF => by
    unfold seg str
    rw [if_pos (by omega)]
    have e : ((j : Int) + 1) = ((j + 1 : Nat) : Int) := rfl
    obtain ⟨e1, e2, e3⟩ := st1_ext (p := P) (q := b) (i := j + 1) (k := j) (fun x => by rw [hP]) s.g s.gn
    rw [e, e1, e2, e3]
    cases on : vSt1_1 (j : Int) s.g b with
    | false => rfl
    | true =>
      have hj : j + 1 < P.length := by omega
      have q := hb j (by omega)
      have q' : rget P (j + 1) 0 = rget b j 0 := by rw [hP]
      have nx := nx1 O.toPb hj (O.ins _ hj) (by rw [q']; exact q.2) s.g (by rw [e1]; exact on)
      rcases nx with nx | nx
      · show seg P ((b.length : Int) + 1) F (vSt1_0 ((j + 1 : Nat) : Int) s.g P) _ = str b d (j + 1) _
        rw [nx]
        exact seg_str O hP hl d (j + 1) F _ (by omega) (by omega)
      · exact absurd (q'.symm.trans nx.1) q.1

theorem top_str {Q : List (List Int)} (O : Ok Q) {B : Nat} (hQ : ∀ j, j < b.length → rget Q (B + j) = rget b j) (hl : B + b.length ≤ Q.length) :
    ∀ (d j F : Nat) (s : G), j + d = b.length → top Q (F + d) (B + j) s = (match (str b d j s).1 with
      | true => top Q F (B + b.length) (str b d j s).2
      | false => (false, (str b d j s).2))
  | 0, j, F, s, h => by
    show top Q F (B + j) s = top Q F (B + b.length) s
    rw [show j = b.length by omega]
  | d + 1, j, F, s, h => by
    have hj : B + j < Q.length := by omega
    have q := hb j (by omega)
    have q' : rget Q (B + j) 0 = rget b j 0 := by rw [hQ j (by omega)]
    obtain ⟨e1, e2, e3⟩ := st1_ext (p := Q) (q := b) (i := B + j) (k := j) (fun x => by rw [hQ j (by omega)]) s.g s.gn
    show top Q ((F + d) + 1) (B + j) s = _
    unfold str
    conv => lhs; unfold top
    rw [if_pos hj, if_neg (by rw [q']; exact q.2), e1, e2, e3]
    cases on : vSt1_1 (j : Int) s.g b with
    | false => rfl
    | true =>
      have nx := nx1 O.toPb hj (O.ins _ hj) (by rw [q']; exact q.2) s.g (by rw [e1]; exact on)
      rcases nx with nx | nx
      · show top Q (F + d) (vSt1_0 ((B + j : Nat) : Int) s.g Q).toNat _ = _
        rw [nx, show (((B + j : Nat) : Int) + 1).toNat = B + (j + 1) by omega]
        exact top_str O hQ hl d (j + 1) F ⟨vSt1_2 (j : Int) s.g b, vSt1_3 (j : Int) s.g s.gn b, s.st + 1⟩ (by omega)
      · exact absurd (q'.symm.trans nx.1) q.1
end

/-- So many copies. -/
def cp (b : List (List Int)) : Nat → List (List Int)
  | 0 => []
  | n + 1 => cp b n ++ b
theorem cp_len (b : List (List Int)) : ∀ n, (cp b n).length = n * b.length
  | 0 => by simp [cp]
  | n + 1 => by rw [cp, List.length_append, cp_len b n, Nat.succ_mul]
theorem cp_get (b : List (List Int)) : ∀ (n m j : Nat), m < n → j < b.length → rget (cp b n) (m * b.length + j) = rget b j
  | 0, m, j, h, _ => by omega
  | n + 1, m, j, h, hj => by
    have hlen := cp_len b n
    have key : (cp b n ++ b).getD (m * b.length + j) [] = if m < n then (cp b n).getD (m * b.length + j) [] else b.getD j [] := by
      by_cases c : m < n
      · have : m * b.length + j < n * b.length := by
          have := Nat.mul_le_mul_right b.length (show m + 1 ≤ n from c)
          rw [Nat.succ_mul] at this
          omega
        rw [if_pos c, List.getD_eq_getElem?_getD, List.getD_eq_getElem?_getD, List.getElem?_append_left (by omega)]
      · have : m = n := by omega
        subst this
        rw [if_neg c, List.getD_eq_getElem?_getD, List.getD_eq_getElem?_getD, List.getElem?_append_right (by omega), hlen, Nat.add_sub_cancel_left]
    funext x
    show ((cp b n ++ b).getD (m * b.length + j) []).getD x 0 = (b.getD j []).getD x 0
    rw [key]
    by_cases c : m < n
    · rw [if_pos c]
      exact congrFun (cp_get b n m j c hj) x
    · rw [if_neg c]

section
variable {b : List (List Int)} (hb : ∀ j, j < b.length → rget b j 0 ≠ 11 ∧ rget b j 0 ≠ 12)
include hb
theorem top_cp {n : Nat} (O : Ok (cp b n)) : ∀ (k : Nat) (s : G), k ≤ n → top (cp b n) (k * b.length) ((n - k) * b.length) s = it b k s
  | 0, s, _ => by rw [Nat.zero_mul]; rfl
  | k + 1, s, h => by
    have e := top_str hb (Q := cp b n) O (B := (n - (k + 1)) * b.length) (fun j hj => cp_get b n _ j (by omega) hj) (by
      rw [cp_len, ← Nat.succ_mul]
      exact Nat.mul_le_mul_right _ (by omega)) b.length 0 (k * b.length) s (by omega)
    rw [Nat.succ_mul, show (n - (k + 1)) * b.length = (n - (k + 1)) * b.length + 0 from rfl, e]
    unfold it
    cases (str b b.length 0 s).1 with
    | false => rfl
    | true =>
      show top (cp b n) (k * b.length) ((n - (k + 1)) * b.length + b.length) _ = _
      rw [← Nat.succ_mul, show (n - (k + 1)).succ = n - k by omega]
      exact top_cp O k _ (by omega)

theorem lp_it {P : List (List Int)} (O : Ok P) (hP : ∀ i, rget P (i + 1) = rget b i) (hl : P.length = b.length + 1) (h3 : rget P 0 3 = b.length) : ∀ (n : Nat) (s : G), lp P 0 n s = it b n s
  | 0, s => rfl
  | n + 1, s => by
    have e : seg P (((0 : Nat) : Int) + 1 + rget P 0 3) P.length (((0 : Nat) : Int) + 1) s = str b b.length 0 s := by
      rw [h3, show ((0 : Nat) : Int) + 1 + (b.length : Int) = (b.length : Int) + 1 by omega]
      exact seg_str hb O hP hl b.length 0 P.length s (by omega) (by omega)
    unfold lp it
    rw [e]
    cases (str b b.length 0 s).1 with
    | false => rfl
    | true => exact lp_it O hP hl h3 n _

theorem top_lp {P : List (List Int)} (O : Ok P) (hP : ∀ i, rget P (i + 1) = rget b i) (hl : P.length = b.length + 1) (h0 : rget P 0 0 = 12) (h3 : rget P 0 3 = b.length) {n : Nat} (h4 : rget P 0 4 = n) (s : G) : top P P.length 0 s = it b n (up s) := by
  rw [hl]
  unfold top
  rw [if_pos (by omega), if_pos h0, h4, Int.toNat_natCast, lp_it hb O hP hl h3, h3, show (((0 : Nat) : Int) + 1 + (b.length : Int)).toNat = b.length + 1 by omega]
  have e : ∀ (F : Nat) (s : G), top P F (b.length + 1) s = (true, s) := fun F s => by
    cases F with
    | zero => rfl
    | succ F => unfold top; rw [if_neg (by omega)]
  show (match (it b n (up s)).1 with
    | true => top P b.length (b.length + 1) (it b n (up s)).2
    | false => (false, (it b n (up s)).2)) = _
  rw [e]
  generalize it b n (up s) = r
  obtain ⟨x, y⟩ := r
  cases x <;> rfl
end
end Vm

end Go.Proofs.Ytcdejlgophpdjaa
end

section
namespace Go.Proofs.Ytcdejlgophpdjaa
open Go Go.RowKit Go.Proofs.Ytcdejlgophpdjaa.V
set_option linter.unusedVariables false
set_option linter.unusedSectionVars false

namespace Vm

theorem ck_plain {p : List (List Int)} {i : Nat} (f : Rf p i) (h12 : rget p i 0 ≠ 12) (h11 : rget p i 0 ≠ 11) : ckAt p true i = 0 := by
  have o := f.op; have a1 := f.dst; have a2 := f.a; have a3 := f.b
  have h0 : pCk_s0 (rget p i 0) true = false := by
    unfold pCk_s0
    rw [decide_eq_false (by omega)]
    cases rget p i 0 == 13 <;> rfl
  have h1 : pCk_s1 (rget p i 0) (rget p i 2) = false := by
    unfold pCk_s1
    rw [decide_eq_false (by omega)]
    cases rget p i 0 == 14 <;> rfl
  have h2 : pCk_s2 (rget p i 0) (rget p i 1) (rget p i 2) (rget p i 3) = false := by
    unfold pCk_s2
    rw [h1, decide_eq_false (by omega), decide_eq_false (by omega), decide_eq_false (by omega)]
    cases rget p i 0 != 12 <;> rfl
  have h5 : pCk_s5 (i : Int) (rget p i 0) (rget p i 3) (rget p i 4) p = false := by
    unfold pCk_s5
    rw [show (rget p i 0 == 12) = false from beq_eq_false_iff_ne.2 h12]; rfl
  unfold ckAt pCk_0
  rw [h0, h2, h5, show (rget p i 0 != 11) = true from bne_iff_ne.2 h11]; rfl

/-- A body: no loop, no skip, of one to four. -/
structure Bo (b : List (List Int)) : Prop where
  r : Rp b
  l1 : 1 ≤ b.length
  l4 : b.length ≤ 4
  n : ∀ j, j < b.length → rget b j 0 ≠ 11 ∧ rget b j 0 ≠ 12

theorem cp_rp {b : List (List Int)} (H : Bo b) {n : Nat} (hn : n ≤ 5) : Rp (cp b n) ∧ pCh_0 true (cp b n) = 0 := by
  have hl := cp_len b n
  have l1 := H.l1
  have l4 := H.l4
  have hm : n * b.length ≤ 5 * 4 := Nat.mul_le_mul hn l4
  have at_ : ∀ i, i < (cp b n).length → ∃ j, j < b.length ∧ rget (cp b n) i = rget b j := fun i hi => by
    have hj : i % b.length < b.length := Nat.mod_lt _ (by omega)
    have hq : i / b.length < n := (Nat.div_lt_iff_lt_mul (by omega)).2 (by omega)
    refine ⟨i % b.length, hj, ?_⟩
    have := cp_get b n (i / b.length) (i % b.length) hq hj
    rw [show i / b.length * b.length + i % b.length = i by rw [Nat.mul_comm]; exact Nat.div_add_mod i b.length] at this
    exact this
  have R : Rp (cp b n) := by
    refine ⟨by omega, fun i hi => ?_⟩
    obtain ⟨j, hj, e⟩ := at_ i hi
    have f := H.r.f j hj
    exact ⟨by rw [e]; exact f.op, by rw [e]; exact f.dst, by rw [e]; exact f.a, by rw [e]; exact f.b, by rw [e]; exact f.m⟩
  refine ⟨R, no_sp R fun i hi => ?_⟩
  obtain ⟨j, hj, e⟩ := at_ i hi
  have q := H.n j hj
  rw [e]
  unfold isSp
  rw [decide_eq_false q.2, decide_eq_false q.1]
  cases decide (rget b j 0 = 13) <;> rfl

/-- The loop's own program. -/
def lpp (b : List (List Int)) (n : Nat) : List (List Int) := [12, 0, 0, (b.length : Int), (n : Int)] :: b
theorem lpp_get (b : List (List Int)) (n i : Nat) : rget (lpp b n) (i + 1) = rget b i := rfl
theorem lpp_ok {b : List (List Int)} (H : Bo b) {n : Nat} (n1 : 1 ≤ n) (hn : n ≤ 5) : Pb (lpp b n) ∧ pCh_0 true (lpp b n) = 0 := by
  have l1 := H.l1
  have l4 := H.l4
  have hlen : (lpp b n).length = b.length + 1 := rfl
  have B : Pb (lpp b n) := by
    refine ⟨by omega, fun i j hj => ?_, fun i => ?_⟩
    · cases i with
      | zero =>
        match j, hj with
        | 0, _ => exact ⟨(by decide : (0 : Int) ≤ 12), (by decide : (12 : Int) ≤ 255)⟩
        | 1, _ => exact ⟨(by decide : (0 : Int) ≤ 0), (by decide : (0 : Int) ≤ 255)⟩
        | 2, _ => exact ⟨(by decide : (0 : Int) ≤ 0), (by decide : (0 : Int) ≤ 255)⟩
        | 3, _ => exact ⟨(show (0 : Int) ≤ (b.length : Int) by omega), (show (b.length : Int) ≤ 255 by omega)⟩
      | succ i => rw [lpp_get]; exact H.r.pb.f i j hj
    · cases i with
      | zero => exact ⟨(show (-32768 : Int) ≤ (n : Int) by omega), (show (n : Int) ≤ 32767 by omega)⟩
      | succ i => rw [lpp_get]; exact H.r.pb.m i
  refine ⟨B, (ch_spec B true).2 ⟨by omega, fun i hi => ?_, ?_⟩⟩
  · cases i with
    | zero =>
      have w : pWi_2 ((0 : Nat) : Int) (lpp b n) = false := by
        rcases (wi_spec B ((0 : Nat) : Int)).1 with ⟨_, k, hk, _⟩ | ⟨c, _⟩
        · have := hk.2.2.1; omega
        · exact c
      unfold ckAt pCk_0
      have h5 : pCk_s5 ((0 : Nat) : Int) 12 (b.length : Int) (n : Int) (lpp b n) = false := by
        unfold pCk_s5 pCk_s4
        rw [w, w64_in (n := (b.length : Int)) (by omega) (by omega), w64_in (n := Int.ofNat (lpp b n).length - ((0 : Nat) : Int)) (by rw [hlen]; simp only [Int.ofNat_eq_natCast]; omega) (by rw [hlen]; simp only [Int.ofNat_eq_natCast]; omega), hlen, w64_in (by simp only [Int.ofNat_eq_natCast]; omega) (by simp only [Int.ofNat_eq_natCast]; omega)]
        simp only [Int.ofNat_eq_natCast]
        rw [decide_eq_false (show ¬ (b.length : Int) < 1 by omega), decide_eq_false (show ¬ ((b.length + 1 : Nat) : Int) - ((0 : Nat) : Int) - 1 < (b.length : Int) by omega), decide_eq_false (show ¬ (n : Int) < 1 by omega), decide_eq_false (show ¬ (8 : Int) < (n : Int) by omega)]; rfl
      show (bif bif pCk_s0 12 true then true else bif pCk_s2 12 0 0 (b.length : Int) then true else pCk_s5 ((0 : Nat) : Int) 12 (b.length : Int) (n : Int) (lpp b n) then _ else _) = _
      rw [h5]; rfl
    | succ i =>
      have hi' : i < b.length := by omega
      have f := H.r.f i hi'
      have q := H.n i hi'
      exact ck_plain (p := lpp b n) (i := i + 1) ⟨f.op, f.dst, f.a, f.b, f.m⟩ q.2 q.1
  · have F : ∀ k, k ≤ b.length → Fs (lpp b n) (k + 1) = (b.length : Int) * ((n : Int) - 1) := by
      intro k hk
      induction k with
      | zero =>
        show Fs (lpp b n) 0 + fe (lpp b n) 0 = _
        have e : fe (lpp b n) 0 = (b.length : Int) * ((if (n : Int) < 1 then 1 else (n : Int)) - 1) := rfl
        rw [e, if_neg (show ¬ (n : Int) < 1 by omega)]
        show 0 + _ = _
        rw [Int.zero_add]
      | succ k ih =>
        show Fs (lpp b n) (k + 1) + fe (lpp b n) (k + 1) = _
        have e : fe (lpp b n) (k + 1) = 0 := by
          unfold fe
          rw [if_neg (show ¬ rget (lpp b n) (k + 1) 0 = 12 from (H.n k (by omega)).2)]
        rw [ih (by omega), e, Int.add_zero]
    rw [hlen, F _ (Nat.le_refl _)]
    have : (b.length : Int) * ((n : Int) - 1) ≤ 4 * 4 := Int.mul_le_mul (by omega) (by omega) (by omega) (by omega)
    omega

/-- A loop is its body, so many times. -/
theorem loops {b : List (List Int)} (H : Bo b) {n : Nat} (n1 : 1 ≤ n) (hn : n ≤ 5) (g : List (List Int)) :
    vRa5_1 0 (Int.ofNat (lpp b n).length) g false 0 (lpp b n) = vRa5_1 0 (Int.ofNat (cp b n).length) g false 0 (cp b n) ∧
    vRa5_2 0 (Int.ofNat (lpp b n).length) g false 0 (lpp b n) = vRa5_2 0 (Int.ofNat (cp b n).length) g false 0 (cp b n) ∧
    vRa5_3 0 (Int.ofNat (lpp b n).length) g false 0 (lpp b n) = IntKind.wrap .i64 (vRa5_3 0 (Int.ofNat (cp b n).length) g false 0 (cp b n) + 1) := by
  obtain ⟨B, c⟩ := lpp_ok H n1 hn
  obtain ⟨R, c'⟩ := cp_rp H hn
  have O := ok_of B c
  have O' := ok_of R.pb c'
  obtain ⟨-, -, a1, a2, a3, -, -⟩ := top_run O ((ch_spec B true).1 c).2.2 ⟨g, false, 0⟩ rfl
  obtain ⟨-, -, b1, b2, b3, b4, b5⟩ := top_run O' ((ch_spec R.pb true).1 c').2.2 ⟨g, false, 0⟩ rfl
  have F := ((ch_spec R.pb true).1 c').2.2
  have t1 := top_lp H.n O (lpp_get b n) rfl rfl rfl (n := n) rfl ⟨g, false, 0⟩
  have t2 := top_cp H.n O' n ⟨g, false, 0⟩ (Nat.le_refl _)
  rw [Nat.sub_self, Nat.zero_mul, ← cp_len] at t2
  rw [it_up, ← t2] at t1
  simp only at a1 a2 a3 b1 b2 b3
  rw [a1, a2, a3, b1, b2, b3, t1]
  refine ⟨rfl, rfl, ?_⟩
  show _ + 1 = IntKind.wrap .i64 (_ + 1)
  rw [w64_in (by omega) (by omega)]

theorem bd_run {p : List (List Int)} (R : Rp p) (x : Int) (m : Nat) (y : List (List Int)) :
    (∃ v, lrun lVmLo_l125_st 18446744073709551616 (lVmLo_l125_T.mk x m false (Int.ofNat p.length) 0 y p []) = some (.e 0, v) ∧ v.a0 = x ∧ v.a1 = m ∧ Rp v.a7 ∧ v.a7.length ≤ 4 ∧ ∀ j, j < v.a7.length → rget v.a7 j 0 ≠ 11 ∧ rget v.a7 j 0 ≠ 12) ∧
    lok lVmLo_l125_st 18446744073709551616 (lVmLo_l125_T.mk x m false (Int.ofNat p.length) 0 y p []) := by
  have hl := R.len
  obtain ⟨⟨c, v', e, hx, rfl, Q⟩, ok⟩ := mr_run (st := lVmLo_l125_st) (I := fun D v => ∃ (k : Nat) (out : List (List Int)), v = lVmLo_l125_T.mk x m false (Int.ofNat p.length) (k : Int) y p out ∧ k ≤ p.length ∧ D = p.length - k ∧ Rp out ∧ out.length ≤ 4 ∧ ∀ j, j < out.length → rget out j 0 ≠ 11 ∧ rget out j 0 ≠ 12)
    (R := fun c v => c = .e 0 ∧ v.a0 = x ∧ v.a1 = m ∧ Rp v.a7 ∧ v.a7.length ≤ 4 ∧ ∀ j, j < v.a7.length → rget v.a7 j 0 ≠ 11 ∧ rget v.a7 j 0 ≠ 12) (by
      rintro D v ⟨k, out, rfl, hk, hD, Ro, h4, hn⟩
      have s0 : lVmLo_l125_s0 (lVmLo_l125_T.mk x m false (Int.ofNat p.length) (k : Int) y p out) = decide (k < p.length) := by
        unfold lVmLo_l125_s0
        exact decide_eq_decide.2 (show (k : Int) < (p.length : Int) ↔ k < p.length by omega)
      have s1 : lVmLo_l125_s1 (lVmLo_l125_T.mk x m false (Int.ofNat p.length) (k : Int) y p out) = decide (rget p k 0 ≠ 12 ∧ rget p k 0 ≠ 11 ∧ out.length < 4) := by
        unfold lVmLo_l125_s1
        show (bif rget p (Int.toNat (k : Int)) 0 != 12 then bif rget p (Int.toNat (k : Int)) 0 != 11 then decide ((out.length : Int) < 4) else false else false) = _
        rw [Int.toNat_natCast]
        by_cases q1 : rget p k 0 = 12
        · rw [show (rget p k 0 != 12) = false by rw [q1]; rfl, decide_eq_false (show ¬ (rget p k 0 ≠ 12 ∧ rget p k 0 ≠ 11 ∧ out.length < 4) from fun c => c.1 q1)]; rfl
        · rw [show (rget p k 0 != 12) = true from bne_iff_ne.2 q1]
          by_cases q2 : rget p k 0 = 11
          · rw [show (rget p k 0 != 11) = false by rw [q2]; rfl, decide_eq_false (show ¬ (rget p k 0 ≠ 12 ∧ rget p k 0 ≠ 11 ∧ out.length < 4) from fun c => c.2.1 q2)]; rfl
          · rw [show (rget p k 0 != 11) = true from bne_iff_ne.2 q2]
            exact decide_eq_decide.2 ⟨fun c => ⟨q1, q2, by omega⟩, fun c => by have := c.2.2; omega⟩
      have s2 : lVmLo_l125_s2 (lVmLo_l125_T.mk x m false (Int.ofNat p.length) (k : Int) y p out) = out ++ [[rget p k 0, rget p k 1, rget p k 2, rget p k 3, rget p k 4]] := by
        unfold lVmLo_l125_s2
        show out ++ [[rget p (Int.toNat (k : Int)) 0, rget p (Int.toNat (k : Int)) 1, rget p (Int.toNat (k : Int)) 2, rget p (Int.toNat (k : Int)) 3, rget p (Int.toNat (k : Int)) 4]] = _
        rw [Int.toNat_natCast]
      refine ⟨?_, ?_⟩
      · unfold lVmLo_l125_st
        rw [s0, s2]
        refine ⟨fun h => ?_, fun _ _ => ?_, trivial⟩
        · have := of_decide_eq_true h
          show (0 : Int) ≤ (k : Int) ∧ (k : Int) < (p.length : Int)
          omega
        · rw [List.length_append, List.length_singleton]; omega
      · unfold lVmLo_l125_st
        rw [s0, s1, s2]
        by_cases h : k < p.length
        · rw [decide_eq_true h]
          have e1 : IntKind.wrap .i64 ((k : Int) + 1) = ((k + 1 : Nat) : Int) := by rw [w64_in (by omega) (by omega)]; rfl
          have f := R.f k h
          by_cases q : rget p k 0 ≠ 12 ∧ rget p k 0 ≠ 11 ∧ out.length < 4
          · rw [decide_eq_true q]
            refine .inl ⟨lVmLo_l125_T.mk x m false (Int.ofNat p.length) ((k + 1 : Nat) : Int) y p (out ++ [[rget p k 0, rget p k 1, rget p k 2, rget p k 3, rget p k 4]]), p.length - (k + 1), ?_, by omega, k + 1, _, rfl, by omega, rfl, rp_app Ro (by omega) f.op f.dst f.a f.b f.m, by rw [List.length_append, List.length_singleton]; omega, fun j hj => ?_⟩
            · rw [← e1]; rfl
            · rw [List.length_append, List.length_singleton] at hj
              by_cases c : j < out.length
              · rw [rget_app, if_pos c]; exact hn j c
              · rw [rget_app, if_neg c, if_pos (by omega)]
                exact ⟨q.2.1, q.1⟩
          · rw [decide_eq_false q]
            refine .inl ⟨lVmLo_l125_T.mk x m false (Int.ofNat p.length) ((k + 1 : Nat) : Int) y p out, p.length - (k + 1), ?_, by omega, k + 1, out, rfl, by omega, rfl, Ro, h4, hn⟩
            rw [← e1]; rfl
        · rw [decide_eq_false h]
          exact .inr ⟨.e 0, _, by simp, rfl, rfl, rfl, rfl, Ro, h4, hn⟩)
    18446744073709551616 p.length _ ⟨0, [], rfl, Nat.zero_le _, rfl, ⟨by simp, fun i h => by simp at h⟩, by simp, fun j h => by simp at h⟩ (by omega)
  exact ⟨⟨v', e, Q⟩, ok⟩

theorem cp_run {b : List (List Int)} (hb : b.length ≤ 4) {n : Nat} (hn : n ≤ 5) (m : Nat) (o : Bool) (y P : List (List Int)) :
    (∃ v, lrun lVmLo_l4093_st 18446744073709551616 (lVmLo_l4093_T10.mk m o (n : Int) 0 y b P []) = some (.e 2, v) ∧ v.a0 = m ∧ v.a7 = cp b n) ∧
    lok lVmLo_l4093_st 18446744073709551616 (lVmLo_l4093_T10.mk m o (n : Int) 0 y b P []) := by
  obtain ⟨⟨c, v', e, hx, rfl, Q⟩, ok⟩ := mr_run (st := lVmLo_l4093_st) (I := fun D v => ∃ k : Nat, v = lVmLo_l4093_T10.mk m o (n : Int) (k : Int) y b P (cp b k) ∧ k ≤ n ∧ D = n - k)
    (R := fun c v => c = .e 2 ∧ v.a0 = m ∧ v.a7 = cp b n) (by
      rintro D v ⟨k, rfl, hk, hD⟩
      have s0 : lVmLo_l4093_s0 (lVmLo_l4093_T10.mk m o (n : Int) (k : Int) y b P (cp b k)) = decide (k < n) := by
        unfold lVmLo_l4093_s0
        exact decide_eq_decide.2 (show (k : Int) < (n : Int) ↔ k < n by omega)
      have s1 : lVmLo_l4093_s1 (lVmLo_l4093_T10.mk m o (n : Int) (k : Int) y b P (cp b k)) = cp b (k + 1) := rfl
      refine ⟨?_, ?_⟩
      · unfold lVmLo_l4093_st
        rw [s0, s1]
        refine ⟨fun _ => ?_, trivial⟩
        rw [cp_len]
        have : (k + 1) * b.length ≤ 6 * 4 := Nat.mul_le_mul (by omega) hb
        omega
      · unfold lVmLo_l4093_st
        rw [s0, s1]
        by_cases h : k < n
        · rw [decide_eq_true h]
          refine .inl ⟨lVmLo_l4093_T10.mk m o (n : Int) ((k + 1 : Nat) : Int) y b P (cp b (k + 1)), n - (k + 1), ?_, by omega, k + 1, rfl, by omega, rfl⟩
          have e1 : IntKind.wrap .i64 ((k : Int) + 1) = ((k + 1 : Nat) : Int) := by rw [w64_in (by omega) (by omega)]; rfl
          rw [← e1]; rfl
        · rw [decide_eq_false h]
          obtain rfl : k = n := by omega
          exact .inr ⟨.e 2, _, by simp, rfl, rfl, rfl, rfl⟩)
    18446744073709551616 n _ ⟨0, rfl, Nat.zero_le _, rfl⟩ (by omega)
  exact ⟨⟨v', e, Q⟩, ok⟩
end Vm

theorem VmLoops_true (y0 : List (List Int)) (p0 : ∀ row ∈ y0, RowFit [.int .u8, .int .u8, .int .u8, .int .u8, .int .i16, .bool] row) (q0 : y0.length ≤ maxLen) (x1 : Int) (a1 : IntKind.min .u8 ≤ x1) (b1 : x1 ≤ IntKind.max .u8) (y2 : List (List Int)) (p2 : ∀ row ∈ y2, RowFit [.int .i32] row) (q2 : y2.length ≤ maxLen) : lVmLo_0 (List.length y0) x1 (List.length y2) y0 y2 = true := by
  obtain ⟨l1, g1⟩ := bd_u8 a1 b1
  have w1 : IntKind.wrap .i64 x1 = x1 := w64_in (by omega) (by omega)
  unfold lVmLo_0
  rw [Vm.awake]
  cases h0 : lVmLo_s0 (List.length y0) (List.length y2) with
  | true => rfl
  | false =>
  have hn : y0.length ≤ 9223372036854775807 := Nat.le_trans q0 (by decide)
  have P := Vm.pr_spec (Vm.sb_of p0) true hn
  obtain ⟨v1, e1, f0, f1, R, l4, np⟩ := (Vm.bd_run P.1 x1 y2.length y2).1
  have e1' : lVmLo_s1 (List.length y0) x1 (List.length y2) y0 y2 = some (.e 0, v1) := e1
  cases h3 : lVmLo_s3 (List.length y0) x1 (List.length y2) y0 y2 with
  | true => rfl
  | false =>
  have l1 : 1 ≤ v1.a7.length := by
    unfold lVmLo_s3 lVmLo_s2 at h3
    rw [e1'] at h3
    have : (v1.a7.length : Int) ≠ 0 := beq_eq_false_iff_ne.1 h3
    omega
  have H : Vm.Bo v1.a7 := ⟨R, l1, l4, np⟩
  obtain ⟨n, n1, n5, s4⟩ : ∃ n : Nat, 1 ≤ n ∧ n ≤ 5 ∧ lVmLo_s4 (List.length y0) x1 (List.length y2) y0 y2 = (n : Int) := by
    refine ⟨(1 + x1 % 5).toNat, by omega, by omega, ?_⟩
    unfold lVmLo_s4
    rw [e1']
    show IntKind.wrap .i64 (1 + IntKind.wrap .i64 (Int.tmod v1.a0 5)) = _
    rw [f0, Int.tmod_eq_emod_of_nonneg (by omega), w64_in (n := x1 % 5) (by omega) (by omega), w64_in (by omega) (by omega)]
    omega
  have s5 : lVmLo_s5 (List.length y0) x1 (List.length y2) y0 y2 = Vm.lpp v1.a7 n := by
    unfold lVmLo_s5 lVmLo_s2
    rw [s4, e1']
    show [12, 0, 0, IntKind.wrap .u8 (v1.a7.length : Int), IntKind.wrap .i16 (n : Int)] :: v1.a7 = _
    rw [wu8, show ((v1.a7.length : Int) % 256) = (v1.a7.length : Int) by omega]
    have w : IntKind.wrap .i16 (n : Int) = (n : Int) := by
      match n, n5 with
      | 0, _ => rfl
      | 1, _ => rfl
      | 2, _ => rfl
      | 3, _ => rfl
      | 4, _ => rfl
      | 5, _ => rfl
    rw [w]; rfl
  obtain ⟨v2, e2, g0, g7⟩ := (Vm.cp_run l4 n5 y2.length (V.valOf (some (X.e 0, v1))).a2 y2 (Vm.lpp v1.a7 n)).1
  have e2' : lVmLo_s6 (List.length y0) x1 (List.length y2) y0 y2 = some (.e 2, v2) := by
    unfold lVmLo_s6
    rw [s4, s5, e1']
    show lrun lVmLo_l4093_st 18446744073709551616 (lVmLo_l4093_T10.mk v1.a1 v1.a2 (n : Int) 0 y2 v1.a7 (Vm.lpp v1.a7 n) []) = _
    rw [f1]
    exact e2
  obtain ⟨B, c⟩ := Vm.lpp_ok H n1 n5
  obtain ⟨R', c'⟩ := Vm.cp_rp H n5
  have hP : vRun_s0 (Vm.lpp v1.a7 n) = true := beq_iff_eq.2 c
  have hQ : vRun_s0 (Vm.cp v1.a7 n) = true := beq_iff_eq.2 c'
  have L := fun g => Vm.loops H n1 n5 g
  have s7 : lVmLo_l4093_T10.a7 (V.valOf (lVmLo_s6 (List.length y0) x1 (List.length y2) y0 y2)) = Vm.cp v1.a7 n := by
    rw [e2']; exact g7
  rw [s5, s7]
  unfold vRun_0 vRun_1 vRun_2 vRun_3 vRun_4 vRun_5 vRun_6 vRun_7 vRun_8 vRun_9 vRun_10 vRun_11 vRun_12 vRun_13 vRun_14 vRun_15 vRun_16 vRun_17 vRun_18 vRun_19 vRun_20 vRun_21 vRun_22 vRun_23 vRun_24 vRun_25 vRun_26 vRun_27 vRun_28 vRun_29 vRun_30 vRun_31 vRun_32 vRun_33 vRun_34 vRun_35 vRun_36 vRun_37 vRun_38 vRun_39 vRun_40 vRun_41 vRun_42 vRun_43 vRun_44 vRun_45 vRun_46 vRun_47 vRun_48 vRun_49
  unfold vRun_s3
  rw [hP, hQ]
  simp only [cond_true]
  rw [(L _).1, (L _).2.1, (L _).2.2]
  simp only [beq_self_eq_true, Bool.and_self, cond_true, Bool.not_true, cond_false]

theorem VmLoops_obs (y0 : List (List Int)) (p0 : ∀ row ∈ y0, RowFit [.int .u8, .int .u8, .int .u8, .int .u8, .int .i16, .bool] row) (q0 : y0.length ≤ maxLen) (x1 : Int) (a1 : IntKind.min .u8 ≤ x1) (b1 : x1 ≤ IntKind.max .u8) (y2 : List (List Int)) (p2 : ∀ row ∈ y2, RowFit [.int .i32] row) (q2 : y2.length ≤ maxLen) : Alls (lVmLo_o (List.length y0) x1 (List.length y2) y0 y2) := by
  obtain ⟨l1, g1⟩ := bd_u8 a1 b1
  have w1 : IntKind.wrap .i64 x1 = x1 := w64_in (by omega) (by omega)
  have hn : y0.length ≤ 9223372036854775807 := Nat.le_trans q0 (by decide)
  have P := Vm.pr_spec (Vm.sb_of p0) true hn
  obtain ⟨⟨v1, e1, f0, f1, R, l4, np⟩, ok1⟩ := Vm.bd_run P.1 x1 y2.length y2
  have e1' : lVmLo_s1 (List.length y0) x1 (List.length y2) y0 y2 = some (.e 0, v1) := e1
  obtain ⟨n, n1, n5, s4⟩ : ∃ n : Nat, 1 ≤ n ∧ n ≤ 5 ∧ lVmLo_s4 (List.length y0) x1 (List.length y2) y0 y2 = (n : Int) := by
    refine ⟨(1 + x1 % 5).toNat, by omega, by omega, ?_⟩
    unfold lVmLo_s4
    rw [e1']
    show IntKind.wrap .i64 (1 + IntKind.wrap .i64 (Int.tmod v1.a0 5)) = _
    rw [f0, Int.tmod_eq_emod_of_nonneg (by omega), w64_in (n := x1 % 5) (by omega) (by omega), w64_in (by omega) (by omega)]
    omega
  have s5 : lVmLo_s5 (List.length y0) x1 (List.length y2) y0 y2 = Vm.lpp v1.a7 n := by
    unfold lVmLo_s5 lVmLo_s2
    rw [s4, e1']
    show [12, 0, 0, IntKind.wrap .u8 (v1.a7.length : Int), IntKind.wrap .i16 (n : Int)] :: v1.a7 = _
    rw [wu8, show ((v1.a7.length : Int) % 256) = (v1.a7.length : Int) by omega]
    have w : IntKind.wrap .i16 (n : Int) = (n : Int) := by
      match n, n5 with
      | 0, _ => rfl
      | 1, _ => rfl
      | 2, _ => rfl
      | 3, _ => rfl
      | 4, _ => rfl
      | 5, _ => rfl
    rw [w]; rfl
  obtain ⟨⟨v2, e2, g0, g7⟩, ok2⟩ := Vm.cp_run l4 n5 y2.length v1.a2 y2 (Vm.lpp v1.a7 n)
  have e2' : lVmLo_s6 (List.length y0) x1 (List.length y2) y0 y2 = some (.e 2, v2) := by
    unfold lVmLo_s6
    rw [s4, s5, e1']
    show lrun lVmLo_l4093_st 18446744073709551616 (lVmLo_l4093_T10.mk v1.a1 v1.a2 (n : Int) 0 y2 v1.a7 (Vm.lpp v1.a7 n) []) = _
    rw [f1]
    exact e2
  have h3 : (!lVmLo_s3 (List.length y0) x1 (List.length y2) y0 y2) = true → Vm.Bo v1.a7 := fun h3 => by
    refine ⟨R, ?_, l4, np⟩
    unfold lVmLo_s3 lVmLo_s2 at h3
    rw [e1'] at h3
    have : (v1.a7.length : Int) ≠ 0 := by
      intro e
      have h3' : (!((v1.a7.length : Int) == 0)) = true := h3
      rw [e] at h3'
      exact absurd h3' (by decide)
    omega
  have s7 : lVmLo_l4093_T10.a7 (V.valOf (lVmLo_s6 (List.length y0) x1 (List.length y2) y0 y2)) = Vm.cp v1.a7 n := by
    rw [e2']; exact g7
  have A := Vm.aw_pb
  unfold lVmLo_o
  unfold lVmLo_s56
  rw [s7, s5, e1', s4]
  refine ⟨rfl, (Vm.ch_obs A true).1, (Vm.ch_obs A true).2, fun h => Vm.run_lok A _ h, fun _ _ => P.2.2.2.1, fun _ _ _ => P.2.2.2.2, fun _ _ => ok1, fun _ _ _ _ => ?_, fun _ _ _ _ => ?_, fun _ _ _ h _ => ?_, fun _ _ _ h _ => ?_, fun _ _ _ h _ => ?_, fun _ _ _ h _ => ?_, fun _ _ _ h _ => ?_, fun _ _ _ h _ => ?_, trivial⟩
  · show (v1.a7.length + 1) * 6 ≤ 70368744177664
    omega
  · show lok lVmLo_l4093_st 18446744073709551616 (lVmLo_l4093_T10.mk v1.a1 v1.a2 (n : Int) 0 y2 v1.a7 (Vm.lpp v1.a7 n) [])
    rw [f1]
    exact ok2
  · exact (Vm.ch_obs (Vm.lpp_ok (h3 h) n1 n5).1 true).1
  · exact (Vm.ch_obs (Vm.lpp_ok (h3 h) n1 n5).1 true).2
  · exact fun k => Vm.run_lok (Vm.lpp_ok (h3 h) n1 n5).1 _ k
  · exact (Vm.ch_obs (Vm.cp_rp (h3 h) n5).1.pb true).1
  · exact (Vm.ch_obs (Vm.cp_rp (h3 h) n5).1.pb true).2
  · exact fun k => Vm.run_lok (Vm.cp_rp (h3 h) n5).1.pb _ k

end Go.Proofs.Ytcdejlgophpdjaa
end

