/-
  That each operation does on the real memory what the function says (second part: stores, new blocks).
-/
import Derived.Test.YtcdejlgophpdjaaVd
namespace Go.Proofs.Ytcdejlgophpdjaa.V
open Go Go.RowKit

theorem updL_spec {β : Type} {k : Nat} {x : β} : ∀ {l : List (Nat × β)} {f : Nat → Option β}, updL f l k = some x → (k, x) ∈ l ∨ (f k = some x ∧ ∀ y, (k, y) ∉ l)
  | [], f, h => .inr ⟨h, fun _ h => by cases h⟩
  | (k', v) :: r, f, h => by
    rcases updL_spec (l := r) h with h1 | ⟨h1, h2⟩
    · exact .inl (List.mem_cons_of_mem _ h1)
    · by_cases e : k = k'
      · subst e
        rw [upd_same] at h1
        simp only [Option.some.injEq] at h1; subst h1
        exact .inl (by simp)
      · rw [upd_other _ _ e] at h1
        refine .inr ⟨h1, fun y hy => ?_⟩
        rcases List.mem_cons.1 hy with hy | hy
        · simp only [Prod.mk.injEq] at hy; exact e hy.1
        · exact h2 y hy

theorem mem_enum {b key : Nat} {x : At} : ∀ {vs : List At} {k : Nat}, (key, x) ∈ enum b k vs ↔ ∃ j, vs[j]? = some x ∧ key = b * 65536 + (k + j)
  | [], k => by simp [enum]
  | v :: vs, k => by
    simp only [enum, List.mem_cons, Prod.mk.injEq, mem_enum (vs := vs)]
    constructor
    · rintro (⟨rfl, rfl⟩ | ⟨j, h1, h2⟩)
      · exact ⟨0, by simp, by simp⟩
      · exact ⟨j + 1, by simpa using h1, by omega⟩
    · rintro ⟨j, h1, h2⟩
      cases j with
      | zero => simp at h1; exact .inl ⟨by omega, h1.symm⟩
      | succ j => exact .inr ⟨j, by simpa using h1, by omega⟩

theorem splice_get {α : Type} (L : List α) (off : Nat) (vs : List α) (h : off + vs.length ≤ L.length) (j : Nat) : (L.take off ++ vs ++ L.drop (off + vs.length))[j]? = if off ≤ j ∧ j < off + vs.length then vs[j - off]? else L[j]? := by
  have hl : (L.take off).length = off := by simp; omega
  rw [List.append_assoc, List.getElem?_append, hl]
  by_cases h1 : j < off
  · rw [if_pos h1, if_neg (by omega), List.getElem?_take, if_pos h1]
  · rw [if_neg h1, List.getElem?_append]
    by_cases h2 : j - off < vs.length
    · rw [if_pos h2, if_pos (by omega)]
    · rw [if_neg h2, if_neg (by omega), List.getElem?_drop]
      congr 1; omega

theorem splice_size {α : Type} (L : List α) (off : Nat) (vs : List α) (h : off + vs.length ≤ L.length) : (L.take off ++ vs ++ L.drop (off + vs.length)).length = L.length := by
  simp; omega

theorem rel_cells_one {φ : Phi} {l : List At} {m : List Value} (h : All2 (At.rel φ) l m) : ∀ v ∈ m, v.oneCell' = true := by
  induction h with
  | nil => simp
  | cons r _ ih => intro v hv; rcases List.mem_cons.1 hv with rfl | hv; exact (At.rel_one r).1; exact ih v hv

theorem vcells_rel {φ : Phi} {lv : LV} {v : Value} {l : List At} (h : lv.rel φ v) (e : vcells lv = some l) : All2 (At.rel φ) l v.cells.toList := by
  cases lv with
  | a x => simp only [vcells, Option.some.injEq] at e; subst e; rw [(At.rel_one h).2]; exact .cons h .nil
  | g m => simp only [vcells, Option.some.injEq] at e; subst e; obtain ⟨cs, rfl, k⟩ := h; exact k
  | t m => simp [vcells] at e
  | u => simp [vcells] at e

theorem RowsIn.congr {arr arr' : Array Value} {o : Nat} {R : Rw} (h : RowsIn arr o R) (hs : arr'.size = arr.size) (he : ∀ k, R.st ≤ k → k < R.st + R.l.length * R.sh.length → arr'[o + k]? = arr[o + k]?) : RowsIn arr' o R := by
  refine ⟨fun p row hp => ?_, by rw [hs]; exact h.2⟩
  obtain ⟨h1, h2⟩ := h.1 p row hp
  refine ⟨h1, fun j n k hj hk => ?_⟩
  rw [he _ (by omega) ?_]
  · exact h2 j n k hj hk
  · have hpl : p < R.l.length := (List.getElem?_eq_some_iff.1 hp).1
    have hjl : j < R.sh.length := (List.getElem?_eq_some_iff.1 hk).1
    have : (p + 1) * R.sh.length ≤ R.l.length * R.sh.length := Nat.mul_le_mul_right _ hpl
    rw [Nat.succ_mul] at this; omega

theorem encs_len : ∀ {ks : List Kd} {xs : List At} {ns : List Int}, encs ks xs = some ns → ns.length = ks.length ∧ xs.length = ks.length
  | [], [], ns, h => by simp only [encs, Option.some.injEq] at h; subst h; exact ⟨rfl, rfl⟩
  | k :: ks, x :: xs, ns, h => by
    simp only [encs] at h
    split at h
    · rename_i n l h1 h2
      simp only [Option.some.injEq] at h; subst h
      obtain ⟨a, b⟩ := encs_len h2
      exact ⟨by simp [a], by simp [b]⟩
    · cases h
  | [], _ :: _, ns, h => by simp [encs] at h
  | _ :: _, [], ns, h => by simp [encs] at h

theorem encs_val {φ : Phi} : ∀ {ks : List Kd} {xs : List At} {ns : List Int} {vs : List Value}, encs ks xs = some ns → All2 (At.rel φ) xs vs → ∀ (j : Nat) n k, ns[j]? = some n → ks[j]? = some k → vs[j]? = some (k.val n)
  | [], [], ns, vs, h, hv, j, n, k, hn, hk => by simp at hk
  | k0 :: ks, x :: xs, ns, vs, h, hv, j, n, k, hn, hk => by
    simp only [encs] at h
    split at h
    · rename_i n0 l h1 h2
      simp only [Option.some.injEq] at h; subst h
      cases hv with
      | cons a b =>
        cases j with
        | zero =>
          simp at hn hk; subst hn; subst hk
          simp [encA_val h1 a]
        | succ j => simpa using encs_val h2 b j n k (by simpa using hn) (by simpa using hk)
    · cases h
  | [], _ :: _, ns, vs, h, hv, j, n, k, hn, hk => by simp at hk
  | _ :: _, [], ns, vs, h, hv, j, n, k, hn, hk => by simp [encs] at h

theorem encRows_spec {φ : Phi} {sh : List Kd} : ∀ {n : Nat} {xs : List At} {l : List (List Int)} {vs : List Value}, encRows sh n xs = some l → All2 (At.rel φ) xs vs →
    l.length = n ∧ xs.length = n * sh.length ∧ ∀ (p : Nat) row, l[p]? = some row → row.length = sh.length ∧ ∀ (j : Nat) m k, row[j]? = some m → sh[j]? = some k → vs[p * sh.length + j]? = some (k.val m)
  | 0, [], l, vs, h, hv => by simp only [encRows, Option.some.injEq] at h; subst h; simp
  | 0, _ :: _, l, vs, h, hv => by simp [encRows] at h
  | n + 1, xs, l, vs, h, hv => by
    simp only [encRows] at h
    split at h
    · rename_i r rs h1 h2
      simp only [Option.some.injEq] at h; subst h
      obtain ⟨a1, a2⟩ := encs_len h1
      obtain ⟨b1, b2, b3⟩ := encRows_spec h2 (hv.drop sh.length)
      have hxl : sh.length ≤ xs.length := by
        have : (xs.take sh.length).length = sh.length := a2
        simp at this; omega
      refine ⟨by simp [b1], ?_, fun p row hp => ?_⟩
      · have : (xs.drop sh.length).length = xs.length - sh.length := by simp
        rw [Nat.succ_mul]; omega
      · cases p with
        | zero =>
          simp at hp; subst hp
          refine ⟨a1, fun j m k hj hk => ?_⟩
          have := encs_val h1 (hv.take sh.length) j m k hj hk
          rw [List.getElem?_take] at this
          split at this
          · simpa using this
          · cases this
        | succ p =>
          obtain ⟨c1, c2⟩ := b3 p row (by simpa using hp)
          refine ⟨c1, fun j m k hj hk => ?_⟩
          have := c2 j m k hj hk
          rw [List.getElem?_drop] at this
          rw [← this]; congr 1; rw [Nat.succ_mul]; omega
    · cases h

section
variable {P : Program} {w0 : World} {may : Nat → Prop} {φ : Phi} {σ : Sig} {μ : Mem} {ρ : Hds} {fr : Nat → Prop} {w : World}

theorem phi_same {φ : Phi} {b : Nat} {i : Inf} (h : φ b = some i) : (fun n => if n = b then some i else φ n) = φ := by
  funext n; by_cases e : n = b <;> simp [e, h]

/-- Cells of a block are written: what the local memory says then of them. -/
theorem MR.write (hM : MR w0 may φ μ ρ fr w) {b r : Nat} {i : Inf} (hi : φ b = some i) (hia : i.a = some (r, 0)) (hro : i.ro = false) {arr arr' : Array Value} (harr : w.heap[r]? = some (.cells arr i.ty (0, 0))) (hsz : arr'.size = arr.size)
    {h0 : Hd} (hh0 : ρ b = some h0) {cs : List (Nat × At)} {hs : List (Nat × Hd)}
    (hcs : ∀ key x, (key, x) ∈ cs → ∃ k, k < 65536 ∧ key = b * 65536 + k ∧ i.v = 0 ∧ k < i.z ∧ ∃ v, arr'[k]? = some v ∧ x.rel φ v)
    (hhs : ∀ c g, (c, g) ∈ hs → c = b ∧ HdOK ((w.setRow r arr').heap[·]?) i g)
    (hkeep : ∀ k, arr'[k]? = arr[k]? ∨ (∃ x, (b * 65536 + k, x) ∈ cs) ∨ (∃ h R, ρ b = some h ∧ h.R = some R ∧ R.st ≤ k ∧ k < R.st + R.l.length * R.sh.length))
    (hrows : hs = [] → ∀ h R, ρ b = some h → h.R = some R → ∀ k, R.st ≤ k → k < R.st + R.l.length * R.sh.length → arr'[k]? = arr[k]?)
    (hap : ∀ key x g, (key, x) ∈ cs → updL ρ hs b = some g → Apart (key % 65536) g)
    (hap2 : ∀ c g, (c, g) ∈ hs → ∀ k, Apart k h0 → Apart k g) :
    MR w0 may φ (updL μ cs) (updL ρ hs) fr (w.setRow r arr') := by
  have hst := hM.step (b := b) (j := i) (r := r) (arr := arr') (w' := w.setRow r arr') (μ' := updL μ cs) (ρ' := updL ρ hs) (.inr ⟨i, hi, i.le_refl, hro⟩) hia hro
    (by obtain ⟨_, _, ar, h1, h2⟩ := hM.own b i r 0 hi hia hro; rw [harr] at h1; simp only [Option.some.injEq, Obj.cells.injEq] at h1; rw [hsz, h1.1, h2]) (.inl ⟨i, hi, hia⟩) (setRow_heap w r arr arr' _ _ harr)
    (fun k _ hk => setRow_other _ _ _ _ hk) rfl rfl rfl (by rw [size_setRow]; exact Nat.le_refl _) (frozen_setRow harr)
    (by
      intro k x hx
      rw [phi_same hi]
      rcases updL_spec hx with h1 | ⟨h1, h2⟩
      · obtain ⟨k', e1, e2, e3, e4, v, e5, e6⟩ := hcs k x h1
        right; right
        subst e2
        rw [key_div _ _ e1, key_mod _ _ e1]
        exact ⟨rfl, e3, e4, r, 0, arr', i.ty, (0, 0), v, hia, setRow_heap w r arr arr' _ _ harr, by simpa using e5, e6⟩
      · by_cases hk : k / 65536 = b
        · rcases hM.cell k x h1 with h3 | ⟨i', h3, h4, h5, r2, o2, ar, ty, fz, v, h6, h7, h8, h9⟩
          · exact .inr (.inl h3)
          · rw [hk, hi] at h3; simp only [Option.some.injEq] at h3; subst h3
            rw [hia] at h6; simp only [Option.some.injEq, Prod.mk.injEq] at h6
            obtain ⟨rfl, rfl⟩ := h6
            have h7 : w.heap[r]? = _ := h7
            rw [harr] at h7; simp only [Option.some.injEq, Obj.cells.injEq] at h7
            obtain ⟨rfl, rfl, _⟩ := h7
            right
            by_cases hu : x = .unk
            · exact .inl hu
            right
            refine ⟨hk, h4, h5, r, 0, arr', i.ty, (0, 0), v, hia, setRow_heap w r arr arr' _ _ harr, ?_, h9⟩
            rcases hkeep (k % 65536) with e | ⟨y, hy⟩ | ⟨h, R, g1, g2, g3, g4⟩
            · rw [Nat.zero_add, e]; simpa using h8
            · exfalso
              apply h2 y
              have : k = b * 65536 + k % 65536 := by rw [← hk]; omega
              rw [this]; exact hy
            · exfalso
              have := (hM.apart k x h h1 hu (by rw [hk]; exact g1)).2 R g2
              omega
        · exact .inl ⟨hk, h1⟩)
    (by
      intro c g hg
      rcases updL_spec hg with h1 | ⟨h1, h2⟩
      · obtain ⟨rfl, h3⟩ := hhs c g h1
        exact .inr ⟨rfl, h3⟩
      · by_cases hc : c = b
        · subst hc
          right
          refine ⟨rfl, ?_⟩
          have hnil : hs = [] := by
            cases hs with
            | nil => rfl
            | cons p q =>
              obtain ⟨c', g'⟩ := p
              obtain ⟨rfl, _⟩ := hhs c' g' (by simp)
              exact absurd (by simp) (h2 g')
          obtain ⟨i', h3, h4, h5, h6, h7⟩ := hM.hdr c g h1
          rw [hi] at h3; simp only [Option.some.injEq] at h3; subst h3
          refine ⟨h4, h5, h6, fun R hR => ?_⟩
          obtain ⟨q1, q2, q3⟩ := h7 R hR
          refine ⟨q1, q2, ?_⟩
          rcases q3 with q3 | ⟨r2, o2, ar, ty, fz, q4, q5, q6, q7⟩
          · exact .inl q3
          · rw [hia] at q4; simp only [Option.some.injEq, Prod.mk.injEq] at q4
            obtain ⟨rfl, rfl⟩ := q4
            have q5 : w.heap[r]? = _ := q5
            rw [harr] at q5; simp only [Option.some.injEq, Obj.cells.injEq] at q5
            obtain ⟨rfl, rfl, _⟩ := q5
            exact .inr ⟨r, 0, arr', i.ty, (0, 0), hia, setRow_heap w r arr arr' _ _ harr, q6.congr hsz fun k k1 k2 => by simpa using hrows hnil g R h1 hR k k1 k2, q7⟩
        · exact .inl ⟨hc, h1⟩)
    (by
      intro k x g hx hne hk hg
      rcases updL_spec hx with h1 | ⟨h1, _⟩
      · exact hap k x g h1 hg
      · rcases updL_spec hg with h2 | ⟨h2, _⟩
        · exact hap2 b g h2 _ (hM.apart k x h0 h1 hne (by rw [hk]; exact hh0))
        · exact hM.apart k x g h1 hne (by rw [hk]; exact h2))
  rw [phi_same hi] at hst
  exact hst.drop fun c hc => ⟨hc, fun e => by
    subst e
    have := hM.dom c hc
    rw [hi] at this; cases this⟩
end
end Go.Proofs.Ytcdejlgophpdjaa.V
