/-
  The operations, each by a function on the local memory.
-/
import Derived.Test.YtcdejlgophpdjaaVb
namespace Go.Proofs.Ytcdejlgophpdjaa.V
open Go Go.RowKit

def Alls : List Prop → Prop
  | [] => True
  | p :: ps => p ∧ Alls ps

theorem Alls.append {l m : List Prop} : Alls (l ++ m) ↔ Alls l ∧ Alls m := by
  induction l with
  | nil => simp [Alls]
  | cons p ps ih => simp [Alls, ih, and_assoc]

/-- A block as a callee is handed it: its head, its cells. -/
structure BC where
  h : Hd
  cs : List (Option At)

abbrev Con := List LV → List BC → Option (List Prop × LV × List (Option BC))
abbrev Tab := List (Nat × Con)

def find : Tab → Nat → List LV → List BC → Option (List Prop × LV × List (Option BC))
  | [], _, _, _ => none
  | (g, c) :: T, f, args, bs => match Nat.beq g f with
    | true => match c args bs with
      | some r => some r
      | none => find T f args bs
    | false => find T f args bs

theorem find_mem {T : Tab} {f : Nat} {args : List LV} {bs : List BC} {r : List Prop × LV × List (Option BC)} (h : find T f args bs = some r) : ∃ c, (f, c) ∈ T ∧ c args bs = some r := by
  induction T with
  | nil => simp [find] at h
  | cons p T ih =>
    obtain ⟨g, c'⟩ := p
    have rest : find T f args bs = some r → ∃ c, (f, c) ∈ (g, c') :: T ∧ c args bs = some r := fun h => by
      obtain ⟨c, h1, h2⟩ := ih h
      exact ⟨c, List.mem_cons_of_mem _ h1, h2⟩
    unfold find at h
    split at h
    · rename_i hb
      have : g = f := Nat.eq_of_beq_eq_true hb
      subst this
      split at h
      · rename_i r' hc
        simp only [Option.some.injEq] at h
        subst h
        exact ⟨c', by simp, hc⟩
      · exact rest h
    · exact rest h

/-! Rows. -/
def rget (l : List (List Int)) (i j : Nat) : Int := (l.getD i []).getD j 0
def wr (row : List Int) : Nat → List Int → List Int
  | _, [] => row
  | j, v :: vs => wr (row.set j v) (j + 1) vs
def rset (l : List (List Int)) (i j : Nat) (vs : List Int) : List (List Int) := l.set i (wr (l.getD i []) j vs)

def encs : List Kd → List At → Option (List Int)
  | [], [] => some []
  | k :: ks, x :: xs => match encA k x, encs ks xs with
    | some n, some l => some (n :: l)
    | _, _ => none
  | _, _ => none

/-- Cells as so many rows. -/
def encRows (sh : List Kd) : Nat → List At → Option (List (List Int))
  | 0, [] => some []
  | 0, _ :: _ => none
  | n + 1, l => match encs sh (l.take sh.length), encRows sh n (l.drop sh.length) with
    | some r, some rs => some (r :: rs)
    | _, _ => none

def kdOf : At → Option Kd
  | .int _ k _ => some (.int k)
  | .bool .. => some .bool
  | _ => none

def kdsOf : List At → Option (List Kd)
  | [] => some []
  | x :: r => match kdOf x, kdsOf r with
    | some k, some ks => some (k :: ks)
    | _, _ => none

def kdEq : Kd → Kd → Bool
  | .int k, .int k' => decide (k = k')
  | .bool, .bool => true
  | _, _ => false

def kdsEq : List Kd → List Kd → Bool
  | [], [] => true
  | k :: ks, k' :: ks' => match kdEq k k' with
    | true => kdsEq ks ks'
    | false => false
  | _, _ => false

def ksAt : List Kd → Nat → List Kd
  | ks, 0 => ks
  | _ :: ks, n + 1 => ksAt ks n
  | [], _ + 1 => []

/-- All of one kind. -/
def oneKd : List Kd → Option Kd
  | [] => none
  | k :: ks => match ks.all (kdEq k) with
    | true => some k
    | false => none

def atRow (l : List (List Int)) (i : Nat) : List Kd → Nat → Nat → Option (List At)
  | _, _, 0 => some []
  | [], _, _ + 1 => none
  | k :: ks, j, n + 1 => match atRow l i ks (j + 1) n with
    | some r => some (k.at (rget l i j) :: r)
    | none => none

/-! Reading a block. -/
def rdr (ρ : Hds) (b k : Nat) : Option At :=
  match ρ b with
  | some h => match h.R with
    | some R => match R.fx with
      | some N => match Nat.ble R.st k && Nat.blt k (R.st + N * R.sh.length) with
        | true => match R.sh[(k - R.st) % R.sh.length]? with
          | some kd => some (kd.at (rget R.l ((k - R.st) / R.sh.length) ((k - R.st) % R.sh.length)))
          | none => none
        | false => none
      | none => none
    | none => none
  | none => none

def rdc (μ : Mem) (ρ : Hds) (b k : Nat) : Option At :=
  match Nat.blt k 65536 with
  | true => match μ (b * 65536 + k) with
    | some .unk => rdr ρ b k
    | some x => some x
    | none => rdr ρ b k
  | false => none

def rdAll (μ : Mem) (ρ : Hds) (b : Nat) : Nat → Nat → Option (List At)
  | _, 0 => some []
  | k, n + 1 => match rdc μ ρ b k, rdAll μ ρ b (k + 1) n with
    | some x, some l => some (x :: l)
    | _, _ => none

/-- Is the block there, of this version? -/
def cur (ρ : Hds) (b v : Nat) : Option Hd :=
  match ρ b with
  | some h => match Nat.beq h.v v with
    | true => some h
    | false => none
  | none => none

def loadP (P : Program) (μ : Mem) (ρ : Hds) (t : TypeId) (b off : Nat) : Option LV :=
  match cur ρ b 0, shape P t with
  | some _, some (true, n) => match rdAll μ ρ b off n with
    | some l => some (.g l)
    | none => none
  | some _, some (false, _) => match rdc μ ρ b off with
    | some x => some (.a x)
    | none => none
  | _, _ => none

def rowsAt (ρ : Hds) (b v st e : Nat) : Option (Hd × Rw) :=
  match cur ρ b v with
  | some h => match h.R with
    | some R => match Nat.beq R.st st && Nat.beq R.sh.length e with
      | true => some (h, R)
      | false => none
    | none => none
  | none => none

def loadR (P : Program) (ρ : Hds) (t : TypeId) (s : Bool) (b v st e i j : Nat) : Option LV :=
  match rowsAt ρ b v st e, shape P t, s with
  | some (_, R), some (true, n), false => match atRow R.l i (ksAt R.sh j) j n with
    | some l => some (.g l)
    | none => none
  | some (_, R), some (false, _), false => match R.sh[j]? with
    | some k => some (.a (k.at (rget R.l i j)))
    | none => none
  | some (_, R), some (false, _), true => match oneKd R.sh with
    | some k => some (.a (k.at (rget R.l i j)))
    | none => none
  | _, _, _ => none

def vcells : LV → Option (List At)
  | .a x => some [x]
  | .g l => some l
  | _ => none

def enum (b : Nat) : Nat → List At → List (Nat × At)
  | _, [] => []
  | k, x :: r => (b * 65536 + k, x) :: enum b (k + 1) r

abbrev Ret := Option (List Prop × LV × List (Nat × At) × List (Nat × Hd))

/-- Does the store lie apart from the block's rows? -/
def apartR (h : Hd) (off n : Nat) : Bool :=
  match h.R with
  | none => true
  | some R => match R.fx with
    | some N => Nat.ble (off + n) R.st || Nat.ble (R.st + N * R.sh.length) off
    | none => false

def allCells (μ : Mem) (b : Nat) : Nat → Nat → Bool
  | _, 0 => true
  | k, n + 1 => match μ (b * 65536 + k) with
    | some _ => allCells μ b (k + 1) n
    | none => false

def withRows (h : Hd) (R : Rw) (l : List (List Int)) : Hd := ⟨h.v, h.z, h.ro, some ⟨R.st, R.sh, l, R.fx⟩⟩

def storeP (P : Program) (ρ : Hds) (t : TypeId) (b off : Nat) (vs : List At) : Ret :=
  match cur ρ b 0, shape P t with
  | some h, some (_, n) => match Nat.beq vs.length n && !h.ro && Nat.ble (off + n) h.z && Nat.ble h.z 65536 with
    | true => match apartR h off n with
      | true => some ([], .t [], enum b off vs, [])
      | false => match h.R with
        | some R => match R.fx with
          | some N => match Nat.ble off R.st && Nat.ble (R.st + N * R.sh.length) (off + n) with
            | true => match encRows R.sh N ((vs.drop (R.st - off)).take (N * R.sh.length)) with
              | some l => some ([], .t [], enum b off (vs.take (R.st - off)) ++ enum b (R.st + N * R.sh.length) (vs.drop (R.st - off + N * R.sh.length)), [(b, withRows h R l)])
              | none => none
            | false => match Nat.ble R.st off && Nat.ble ((off - R.st) % R.sh.length + n) R.sh.length && Nat.ble (off + n) (R.st + N * R.sh.length) with
              | true => match encs ((ksAt R.sh ((off - R.st) % R.sh.length)).take n) vs with
                | some ns => some ([], .t [], [], [(b, withRows h R (rset R.l ((off - R.st) / R.sh.length) ((off - R.st) % R.sh.length) ns))])
                | none => none
              | false => none
          | none => none
        | none => none
    | false => none
  | _, _ => none

def storeR (P : Program) (ρ : Hds) (t : TypeId) (s : Bool) (b v st e i j : Nat) (vs : List At) : Ret :=
  match rowsAt ρ b v st e, shape P t, s with
  | some (h, R), some (_, n), false => match Nat.beq vs.length n && !h.ro, encs ((ksAt R.sh j).take n) vs with
    | true, some ns => match Nat.beq j 0 && Nat.beq n e with
      | true => some ([], .t [], [], [(b, withRows h R (R.l.set i ns))])
      | false => some ([], .t [], [], [(b, withRows h R (rset R.l i j ns))])
    | _, _ => none
  | some (h, R), some (_, n), true => match oneKd R.sh with
    | some k => match Nat.beq vs.length 1 && Nat.beq n 1 && !h.ro, encs [k] vs with
      | true, some ns => some ([], .t [], [], [(b, withRows h R (rset R.l i j ns))])
      | _, _ => none
    | none => none
  | _, _, _ => none

/-! Cells that are found by a number that is not known. -/
def col (μ : Mem) (ρ : Hds) (b e : Nat) : Nat → Nat → Option (List At)
  | _, 0 => some []
  | k, n + 1 => match rdc μ ρ b k, col μ ρ b e (k + e) n with
    | some x, some l => some (x :: l)
    | _, _ => none

/-- All of one kind: their numbers. -/
def oneCol : List At → Option (Kd × List Int)
  | [] => none
  | x :: l => match kdOf x with
    | some k => match encs (List.replicate (l.length + 1) k) (x :: l) with
      | some ns => some (k, ns)
      | none => none
    | none => none

def cols (μ : Mem) (ρ : Hds) (b e i N : Nat) : Nat → Nat → Option (List At)
  | _, 0 => some []
  | k, n + 1 => match (col μ ρ b e k N).bind oneCol, cols μ ρ b e i N (k + 1) n with
    | some (kd, ns), some r => some (kd.at (ns.getD i 0) :: r)
    | _, _ => none

def loadC (P : Program) (μ : Mem) (ρ : Hds) (t : TypeId) (s : Bool) (b v st e i j : Nat) : Option (List Prop × LV) :=
  match cur ρ b 0, shape P t, s, Nat.beq v 0 && Nat.ble 1 e with
  | some h, some (true, n), false, true => match h.R, Nat.ble (j + n) e with
    | none, true => match cols μ ρ b e i ((h.z - st) / e) (st + j) n with
      | some l => some ([i < (h.z - st) / e], .g l)
      | none => none
    | _, _ => none
  | some h, some (false, _), false, true => match h.R with
    | none => match cols μ ρ b e i ((h.z - st) / e) (st + j) 1 with
      | some [x] => some ([i < (h.z - st) / e], .a x)
      | _ => none
    | some _ => none
  | _, _, _, _ => none

def mixA (c : Bool) : At → At → Option At
  | .int _ k n, .int _ k' m => match decide (k = k') with
    | true => some (.int true k (bif c then n else m))
    | false => none
  | .bool _ a, .bool _ b => some (.bool true (bif c then a else b))
  | _, _ => none

def mixCells (μ : Mem) (ρ : Hds) (b : Nat) (c : Bool) : Nat → List At → Option (List (Nat × At))
  | _, [] => some []
  | k, y :: r => match (rdc μ ρ b k).bind (mixA c y), mixCells μ ρ b c (k + 1) r with
    | some x, some l => some ((b * 65536 + k, x) :: l)
    | _, _ => none

def mixRows (μ : Mem) (ρ : Hds) (b e i k : Nat) (vs : List At) : Nat → Option (List (Nat × At))
  | 0 => some []
  | p + 1 => match mixCells μ ρ b (Nat.beq i p) (k + p * e) vs, mixRows μ ρ b e i k vs p with
    | some l, some m => some (l ++ m)
    | _, _ => none

def storeC (P : Program) (μ : Mem) (ρ : Hds) (t : TypeId) (s : Bool) (b v st e i j : Nat) (vs : List At) : Ret :=
  match cur ρ b 0, shape P t, s with
  | some h, some (_, n), false => match h.R, Nat.beq v 0 && Nat.beq vs.length n && !h.ro && Nat.ble (j + n) e && Nat.ble 1 e && Nat.ble st h.z && Nat.ble h.z 65536 with
    | none, true => match mixRows μ ρ b e i (st + j) vs ((h.z - st) / e) with
      | some cs => some ([i < (h.z - st) / e], .t [], cs, [])
      | none => none
    | _, _ => none
  | _, _, _ => none

/-! Numbers that are asked for. -/
def idxOK (s : Bool) (i : Int) (n : Nat) : Option (List Prop) :=
  match s with
  | false => match decide (0 ≤ i ∧ i < (n : Int)) with
    | true => some []
    | false => none
  | true => some [0 ≤ i ∧ i < (n : Int)]

theorem idxOK_spec {s : Bool} {i : Int} {n : Nat} {obs : List Prop} (h : idxOK s i n = some obs) (ho : Alls obs) : 0 ≤ i ∧ i < (n : Int) := by
  unfold idxOK at h
  split at h
  · split at h
    · rename_i hh; exact of_decide_eq_true hh
    · cases h
  · simp only [Option.some.injEq] at h; subst h; exact ho.1

def bndOK (s : Bool) (l h : Int) (n : Nat) : Option (List Prop) :=
  match s with
  | false => match decide (0 ≤ l ∧ l ≤ h ∧ h ≤ (n : Int)) with
    | true => some []
    | false => none
  | true => some [0 ≤ l ∧ l ≤ h ∧ h ≤ (n : Int)]

theorem bndOK_spec {s : Bool} {l h : Int} {n : Nat} {obs : List Prop} (e : bndOK s l h n = some obs) (ho : Alls obs) : 0 ≤ l ∧ l ≤ h ∧ h ≤ (n : Int) := by
  unfold bndOK at e
  split at e
  · split at e
    · rename_i hh; exact of_decide_eq_true hh
    · cases e
  · simp only [Option.some.injEq] at e; subst e; exact ho.1

def divOK (s : Bool) (m : Int) : Option (List Prop) :=
  match s with
  | false => match decide (m = 0) with
    | false => some []
    | true => none
  | true => some [m ≠ 0]

theorem divOK_spec {s : Bool} {m : Int} {obs : List Prop} (h : divOK s m = some obs) (ho : Alls obs) : m ≠ 0 := by
  unfold divOK at h
  split at h
  · split at h
    · rename_i hh; exact of_decide_eq_false hh
    · cases h
  · simp only [Option.some.injEq] at h; subst h; exact ho.1

def shOK (s : Bool) (m : Int) : Option (List Prop) :=
  match s with
  | false => match decide (0 ≤ m) with
    | true => some []
    | false => none
  | true => some [0 ≤ m]

theorem shOK_spec {s : Bool} {m : Int} {obs : List Prop} (h : shOK s m = some obs) (ho : Alls obs) : 0 ≤ m := by
  unfold shOK at h
  split at h
  · split at h
    · rename_i hh; exact of_decide_eq_true hh
    · cases h
  · simp only [Option.some.injEq] at h; subst h; exact ho.1

def rho (σ : Sig) (x : Operand) : Value := match lev σ x with
  | some lv => lv.real0
  | none => undef

def opsFree (σ : Sig) : List Operand → Bool
  | [] => true
  | x :: r => match lev σ x with
    | some lv => match lv.free with
      | true => opsFree σ r
      | false => false
    | none => false

def opsSym (σ : Sig) : List Operand → Bool
  | [] => false
  | x :: r => match lev σ x with
    | some lv => match lv.sym with
      | true => true
      | false => opsSym σ r
    | none => opsSym σ r

theorem rho_eq {φ : Phi} {σ : Sig} {a : Act} (h : TRel φ σ a.tmps) : ∀ {l : List Operand}, opsFree σ l = true → ∀ {x : Operand}, x ∈ l → rho σ x = a.eval x
  | [], _, x, hx => by cases hx
  | y :: r, hf, x, hx => by
    unfold opsFree at hf
    split at hf
    · rename_i lv e
      split at hf
      · rename_i hfr
        rcases List.mem_cons.1 hx with rfl | hx
        · simp only [rho, e]
          exact (LV.of_free hfr (lev_rel h e)).symm
        · exact rho_eq h hf hx
      · cases hf
    · cases hf

def calmOp (P : Program) (σ : Sig) (o : Oper) : Ret :=
  match opsFree σ o.op.operands.toList with
  | true => match calm P (execOp (rho σ) o) with
    | some (.value v) => match LV.ofVal (opsSym σ o.op.operands.toList) v with
      | some lv => some ([], lv, [], [])
      | none => none
    | _ => none
  | false => none

/-- Cells of a struct's part. -/
def lpart (P : Program) (t : TypeId) (l : List At) (off : Nat) : Option LV :=
  match shape P t with
  | some (true, n) => some (.g ((l.drop off).take n))
  | some (false, _) => match l[off]? with
    | some x => some (.a x)
    | none => none
  | none => none

def lfill (place : Nat → Option (Nat × Nat)) : List At → List (Nat × LV) → Option (List At)
  | cells, [] => some cells
  | cells, (i, v) :: rest => match place i, vcells v with
    | some (off, size), some vs => match Nat.beq vs.length size && Nat.ble (off + size) cells.length with
      | true => lfill place (cells.take off ++ vs ++ cells.drop (off + vs.length)) rest
      | false => none
    | _, _ => none

def zeroL (P : Program) (t : TypeId) : Option (List At) :=
  match P.info? t with
  | some i => match i.zero with
    | some z => match LV.ofVal false z with
      | some lv => vcells lv
      | none => none
    | none => none
  | none => none

def lparts (σ : Sig) : List (Nat × Operand) → Option (List (Nat × LV))
  | [] => some []
  | (i, x) :: rest => match lev σ x, lparts σ rest with
    | some v, some r => some ((i, v) :: r)
    | _, _ => none

def lbuild (P : Program) (t : TypeId) (parts : List (Nat × LV)) : Option (List At) :=
  match P.underlying t, zeroL P t with
  | some (.array _ e), some z => match P.info? e with
    | some ie => lfill (fun i => some (i * ie.size, ie.size)) z parts
    | none => none
  | some (.struct fields), some z => match fields.toList.mapM (fun f => (P.info? f.type).map fun i => (f.offset, i.size)) with
    | some places => lfill (places.toArray[·]?) z parts
    | none => none
  | _, _ => none

def lcaps : List LV → Option (List (Nat × Nat))
  | [] => some []
  | .a (.ptr b o) :: r => match lcaps r with
    | some l => some ((b, o) :: l)
    | none => none
  | _ => none

def levs (σ : Sig) : List Operand → Option (List LV)
  | [] => some []
  | x :: r => match lev σ x, levs σ r with
    | some v, some l => some (v :: l)
    | _, _ => none

def lbool (v : LV) : Option (Bool × Bool) := match v with
  | .a (.bool s b) => some (s, b)
  | _ => none

/-! Blocks' names, from the caller's to the callee's and back. -/
def idxOf (b : Nat) : List Nat → Nat → Option Nat
  | [], _ => none
  | c :: r, i => match Nat.beq c b with
    | true => some i
    | false => idxOf b r (i + 1)

def renB (ρ : Hds) (foot : List Nat) (b v : Nat) : Option Nat :=
  match idxOf b foot 0 with
  | some i => match cur ρ b v with
    | some _ => some i
    | none => none
  | none => none

def renC (ρ : Hds) (foot : List Nat) : List (Nat × Nat) → Option (List (Nat × Nat))
  | [] => some []
  | (b, o) :: r => match renB ρ foot b 0, renC ρ foot r with
    | some i, some l => some ((i, o) :: l)
    | _, _ => none

def renA (ρ : Hds) (foot : List Nat) : At → At
  | .ptr b o => match renB ρ foot b 0 with
    | some i => .ptr i o
    | none => .unk
  | .prw s b v st e i j => match renB ρ foot b v with
    | some c => .prw s c 0 st e i j
    | none => .unk
  | .slc s b v st e off len => match renB ρ foot b v with
    | some c => .slc s c 0 st e off len
    | none => .unk
  | .vec b v e => match renB ρ foot b v with
    | some c => .vec c 0 e
    | none => .unk
  | .fn f caps => match renC ρ foot caps with
    | some l => .fn f l
    | none => .unk
  | x => x

def renV (ρ : Hds) (foot : List Nat) : LV → LV
  | .a x => .a (renA ρ foot x)
  | .g l => .g (l.map (renA ρ foot))
  | _ => .u

def renO (ρ : Hds) (foot : List Nat) : Option At → Option At
  | some x => some (renA ρ foot x)
  | none => none

def blkCells (μ : Mem) (ρ : Hds) (foot : List Nat) (b : Nat) : Nat → Nat → List (Option At)
  | _, 0 => []
  | k, n + 1 => renO ρ foot (μ (b * 65536 + k)) :: blkCells μ ρ foot b (k + 1) n

def blkOf (μ : Mem) (ρ : Hds) (foot : List Nat) (b : Nat) : Option BC :=
  match ρ b with
  | some h => match Nat.ble h.z 65536 with
    | true => some ⟨⟨0, h.z, h.ro, h.R⟩, blkCells μ ρ foot b 0 h.z⟩
    | false => none
  | none => none

def blksOf (μ : Mem) (ρ : Hds) (foot : List Nat) : List Nat → Option (List BC)
  | [] => some []
  | b :: r => match blkOf μ ρ foot b, blksOf μ ρ foot r with
    | some c, some l => some (c :: l)
    | _, _ => none

/-- Back: a callee's name, and how far its version goes beyond. -/
def backB (ρ : Hds) (foot : List Nat) (id i : Nat) : Nat × Nat :=
  match foot[i]? with
  | some b => match ρ b with
    | some h => (b, h.v)
    | none => (b, 0)
  | none => (id + (i - foot.length), 0)

def backC (ρ : Hds) (foot : List Nat) (id : Nat) : List (Nat × Nat) → Option (List (Nat × Nat))
  | [] => some []
  | (i, o) :: r => match backB ρ foot id i, backC ρ foot id r with
    | (b, v), some l => match Nat.beq v 0 with
      | true => some ((b, o) :: l)
      | false => none
    | _, none => none

def backA (ρ : Hds) (foot : List Nat) (id : Nat) : At → At
  | .ptr i o => match backB ρ foot id i with
    | (b, v) => match Nat.beq v 0 with
      | true => .ptr b o
      | false => .unk
  | .prw s i v st e p q => match backB ρ foot id i with
    | (b, u) => .prw s b (u + v) st e p q
  | .slc s i v st e off len => match backB ρ foot id i with
    | (b, u) => .slc s b (u + v) st e off len
  | .vec i v e => match backB ρ foot id i with
    | (b, u) => .vec b (u + v) e
  | .fn f caps => match backC ρ foot id caps with
    | some l => .fn f l
    | none => .unk
  | x => x

def backV (ρ : Hds) (foot : List Nat) (id : Nat) : LV → Option LV
  | .a x => some (.a (backA ρ foot id x))
  | .g l => some (.g (l.map (backA ρ foot id)))
  | _ => none

def backVs (ρ : Hds) (foot : List Nat) (id : Nat) : List LV → Option (List LV)
  | [] => some []
  | x :: r => match backV ρ foot id x, backVs ρ foot id r with
    | some y, some l => some (y :: l)
    | _, _ => none

def backT (ρ : Hds) (foot : List Nat) (id : Nat) : LV → Option LV
  | .t l => match backVs ρ foot id l with
    | some m => some (.t m)
    | none => none
  | x => backV ρ foot id x

def backCells (ρ : Hds) (foot : List Nat) (id b u : Nat) : Nat → List (Option At) → List (Nat × At)
  | _, [] => []
  | k, x :: r => (b * 65536 + k, match x, Nat.beq u 0 with
    | some y, true => backA ρ foot id y
    | _, _ => .unk) :: backCells ρ foot id b u (k + 1) r

/-- What the caller's memory becomes: by what the callee says of each block. -/
def backBlks (ρ : Hds) (foot : List Nat) (id : Nat) : Nat → List (Option BC) → List (Nat × At) × List (Nat × Hd)
  | _, [] => ([], [])
  | i, none :: r => backBlks ρ foot id (i + 1) r
  | i, some c :: r => match backB ρ foot id i, backBlks ρ foot id (i + 1) r with
    | (b, u), (cs, hs) => (backCells ρ foot id b u 0 c.cs ++ cs, (b, ⟨u + c.h.v, c.h.z, c.h.ro, c.h.R⟩) :: hs)

def cellBound : List (Option BC) → Bool
  | [] => true
  | none :: r => cellBound r
  | some c :: r => match Nat.beq c.cs.length c.h.z && Nat.ble c.h.z 65536 && !c.h.ro with
    | true => cellBound r
    | false => false

/-- All cells of a written block are told. -/
def zOK : List BC → List (Option BC) → Bool
  | [], _ => true
  | _ :: _, [] => false
  | _ :: bs, none :: out => zOK bs out
  | b :: bs, some c :: out => match Nat.ble b.h.z c.cs.length with
    | true => zOK bs out
    | false => false

/-- A block that was moved may become more. -/
def vOK (ρ : Hds) (foot : List Nat) (id : Nat) : Nat → List (Option BC) → Bool
  | _, [] => true
  | i, none :: out => vOK ρ foot id (i + 1) out
  | i, some c :: out => match Nat.beq (backB ρ foot id i).2 0 || c.h.grows with
    | true => vOK ρ foot id (i + 1) out
    | false => false

def allSet : List (Option BC) → Bool
  | [] => true
  | none :: _ => false
  | some _ :: r => allSet r

def nodupB : List Nat → Bool
  | [] => true
  | b :: r => match idxOf b r 0 with
    | some _ => false
    | none => nodupB r

/-- A call: 'foot' names the caller's blocks that the callee may look into; new ones are named from id on (at most 16). -/
def lcallF (T : Tab) (id : Nat) (foot : List Nat) (σ : Sig) (μ : Mem) (ρ : Hds) (x : Operand) (as : List Operand) : Ret :=
  match lev σ x, levs σ as with
  | some (.a (.fn f caps)), some args => match blksOf μ ρ foot foot, nodupB foot with
    | some bs, true => match find T f ((args ++ caps.map fun p => LV.a (.ptr p.1 p.2)).map (renV ρ foot)) bs with
      | some (obs, v, out) => match cellBound out && zOK bs out && vOK ρ foot id 0 out && Nat.ble out.length (foot.length + 16) && allSet (out.drop foot.length), backT ρ foot id v with
        | true, some v' => match backBlks ρ foot id 0 out with
          | (cs, hs) => some (obs, v', cs, hs)
        | _, _ => none
      | none => none
    | _, _ => none
  | _, _ => none

/-! append, make -/
def srcRows (μ : Mem) (ρ : Hds) (sh : List Kd) : LV → Option (List (List Int))
  | .a .nils => some []
  | .a (.vec b v e) => match rowsAt ρ b v 0 e with
    | some (_, R) => match kdsEq R.sh sh with
      | true => some R.l
      | false => none
    | none => none
  | .a (.slc s b v st e off len) => match rowsAt ρ b v st e with
    | some (_, R) => match kdsEq R.sh sh with
      | true => some ((R.l.drop off).take len)
      | false => none
    | none => match s, Nat.beq v 0, cur ρ b 0, rdAll μ ρ b (st + off * e) (len * e) with
      | false, true, some _, some l => match Nat.beq e sh.length with
        | true => encRows sh len l
        | false => none
      | _, _, _, _ => none
  | _ => none

def grow (id : Nat) (ρ : Hds) (bytes : Nat) (z : Nat) (sh : List Kd) (new : List (List Int)) : LV → Ret
  | .a .nils => some ([new.length * bytes ≤ 70368744177664], .a (.vec id 0 z), [], [(id, ⟨0, 0, false, some ⟨0, sh, new, none⟩⟩)])
  | .a (.vec b v e) => match rowsAt ρ b v 0 e with
    | some (h, R) => match kdsEq R.sh sh && !h.ro, R.fx with
      | true, none => some ([(R.l ++ new).length * bytes ≤ 70368744177664], .a (.vec b (v + 1) e), [], [(b, ⟨v + 1, 0, false, some ⟨0, sh, R.l ++ new, none⟩⟩)])
      | _, _ => none
    | none => none
  | _ => none

def lappend (P : Program) (id : Nat) (σ : Sig) (μ : Mem) (ρ : Hds) (x y : Operand) (tx ty : TypeId) : Ret :=
  match P.underlying tx, P.underlying ty, lev σ x, lev σ y with
  | some (.slice e), some (.slice e'), some vx, some vy => match zeroL P e, P.info? e with
    | some zs, some ie => match kdsOf zs, Nat.beq e e' && Nat.beq tx ty && Nat.ble 1 zs.length && Nat.beq zs.length ie.size && Nat.ble 1 ie.bytes with
      | some sh, true => match srcRows μ ρ sh vy with
        | some new => grow id ρ ie.bytes zs.length sh new vx
        | none => none
      | _, _ => none
    | _, _ => none
  | _, _, _, _ => none

/-- Where rows are copied to: block, version, cells of a row, from which row on, how many. -/
def dstOf (ρ : Hds) : At → Option (Nat × Nat × Nat × Nat × Nat)
  | .vec b v e => match rowsAt ρ b v 0 e with
    | some (_, R) => some (b, v, e, 0, R.l.length)
    | none => none
  | .slc _ b v 0 e off n => some (b, v, e, off, n)
  | _ => none

def lcopy (P : Program) (σ : Sig) (μ : Mem) (ρ : Hds) (x y : Operand) (tx : TypeId) : Ret :=
  match P.underlying tx, lev σ x, lev σ y with
  | some (.slice el), some (.a d), some vy => match P.info? el, dstOf ρ d with
    | some ie, some (b, v, e, off, n) => match rowsAt ρ b v 0 e with
      | some (h, R) => match Nat.beq ie.size e && Nat.ble 1 e && !h.ro, R.fx, srcRows μ ρ R.sh vy with
        | true, none, some new => some ([], .a (.int true .i64 (Int.ofNat (Nat.min new.length n))), [], [(b, withRows h R (R.l.take off ++ new.take n ++ R.l.drop (off + Nat.min new.length n)))])
        | _, _, _ => none
      | none => none
    | _, _ => none
  | _, _, _ => none

/-- So many zeros appended. -/
def lappendZ (P : Program) (id : Nat) (σ : Sig) (ρ : Hds) (x y : Operand) (tx ty : TypeId) : Ret :=
  match P.underlying tx, P.underlying ty, lev σ x, lev σ y with
  | some (.slice e), some (.int _), some vx, some (.a (.int _ _ m)) => match zeroL P e, P.info? e with
    | some zs, some ie => match kdsOf zs, Nat.ble 1 zs.length && Nat.beq zs.length ie.size && Nat.ble 1 ie.bytes with
      | some sh, true => match encs sh zs with
        | some row => match grow id ρ ie.bytes zs.length sh (List.replicate m.toNat row) vx with
          | some (obs, r) => some ((0 ≤ m) :: obs, r)
          | none => none
        | none => none
      | _, _ => none
    | _, _ => none
  | _, _, _, _ => none

def lmake (P : Program) (id : Nat) (σ : Sig) (t : TypeId) (x y : Operand) : Ret :=
  match P.underlying t, lev σ x, lev σ y with
  | some (.slice e), some (.a (.int _ .i64 n)), some (.a (.int _ .i64 m)) => match zeroL P e, P.info? e with
    | some zs, some ie => match kdsOf zs, Nat.ble 1 zs.length && Nat.beq zs.length ie.size && Nat.ble 1 ie.bytes with
      | some sh, true => match encs sh zs with
        | some row => some ([0 ≤ n ∧ n = m ∧ n * (ie.bytes : Int) ≤ 70368744177664], .a (.vec id 0 zs.length), [], [(id, ⟨0, 0, false, some ⟨0, sh, List.replicate n.toNat row, none⟩⟩)])
        | none => none
      | _, _ => none
    | _, _ => none
  | _, _, _ => none

def lcall (P : Program) (T : Tab) (id : Nat) (foot : List Nat) (σ : Sig) (μ : Mem) (ρ : Hds) (c : Call) (o : Oper) : Ret :=
  match c.callee with
  | .value x => lcallF T id foot σ μ ρ x c.args.toList
  | .builtin .append => match c.args.toList, c.argTypes.toList with
    | [x, y], [tx, ty] => match lappend P id σ μ ρ x y tx ty with
      | some r => some r
      | none => lappendZ P id σ ρ x y tx ty
    | _, _ => none
  | .builtin .copy => match c.args.toList, c.argTypes.toList with
    | [x, y], [tx, _] => lcopy P σ μ ρ x y tx
    | _, _ => none
  | .builtin .len => match c.args.toList, c.argTypes.toList with
    | [x], [t] => match lev σ x, P.underlying t with
      | some (.a (.slc s b v _ _ _ n)), some (.slice _) => match cur ρ b v with
        | some _ => some ([], .a (.int s .i64 n), [], [])
        | none => none
      | some (.a (.vec b v e)), some (.slice _) => match rowsAt ρ b v 0 e with
        | some (_, R) => some ([], .a (.int true .i64 R.l.length), [], [])
        | none => none
      | some (.a .nils), some (.slice _) => some ([], .a (.int false .i64 0), [], [])
      | some _, some (.array n _) => some ([], .a (.int false .i64 n), [], [])
      | _, _ => calmOp P σ o
    | _, _ => none
  | .builtin _ => calmOp P σ o
  | _ => none

/-- '==' of structs and arrays of numbers, bools, strings. -/
def leqFields (P : Program) (rec : TypeId → LV → LV → Option Bool) (xs ys : List At) : List Field → Option Bool
  | [] => some true
  | f :: fs => match decide (f.name = "_"), lpart P f.type xs f.offset, lpart P f.type ys f.offset with
    | false, some x, some y => match rec f.type x y, fs with
      | some a, [] => some a
      | some a, g :: gs => match leqFields P rec xs ys (g :: gs) with
        | some b => some (a && b)
        | none => none
      | none, _ => none
    | _, _, _ => none

def leqItems (P : Program) (rec : TypeId → LV → LV → Option Bool) (e : TypeId) (n : Nat) (xs ys : List At) : List Nat → Option Bool
  | [] => some true
  | i :: is => match lpart P e xs (i * n), lpart P e ys (i * n) with
    | some x, some y => match rec e x y, is with
      | some a, [] => some a
      | some a, j :: js => match leqItems P rec e n xs ys (j :: js) with
        | some b => some (a && b)
        | none => none
      | none, _ => none
    | _, _ => none

def leq (P : Program) : Nat → TypeId → LV → LV → Option Bool
  | 0, _, _, _ => none
  | d + 1, t, x, y => match P.underlying t, x, y with
    | some (.int _), .a (.int _ k a), .a (.int _ k' b) => match decide (k = k') with
      | true => some (a == b)
      | false => none
    | some .bool, .a (.bool _ a), .a (.bool _ b) => some (a == b)
    | some .string, .a (.str _ a), .a (.str _ b) => some (a.toList == b.toList)
    | some (.struct fs), .g xs, .g ys => match P.stoodInHeld t with
      | false => leqFields P (leq P d) xs ys fs.toList
      | true => none
    | some (.array n e), .g xs, .g ys => match P.info? e with
      | some i => leqItems P (leq P d) e i.size xs ys (List.range n)
      | none => none
    | _, _, _ => none

def leqOp (P : Program) (t : TypeId) (x y : LV) : Option Bool :=
  match P.eqGuardType P.depth t with
  | false => leq P 20 t x y
  | true => none

def isPtr : At → Bool
  | .ptr .. | .prw .. => true
  | _ => false

/-- Is there such a block (not a slice that is nil)? -/
def there (ρ : Hds) : At → Bool
  | .ptr b _ => match cur ρ b 0 with
    | some h => match h.R with
      | none => true
      | some R => match R.fx with
        | some _ => true
        | none => false
    | none => false
  | .prw _ b v _ _ _ _ => match cur ρ b v with
    | some _ => true
    | none => false
  | _ => false

/-- A slice that has elements is not nil. -/
def lnils (P : Program) (ρ : Hds) (op : BinOp) (t : TypeId) : At → Ret
  | .vec b v e => match rowsAt ρ b v 0 e, P.underlying t, op with
    | some (_, R), some (.slice _), .eql => some ([R.l.length ≠ 0], .a (.bool false false), [], [])
    | some (_, R), some (.slice _), .neq => some ([R.l.length ≠ 0], .a (.bool false true), [], [])
    | _, _, _ => none
  | .slc _ b v _ _ _ n => match cur ρ b v, P.underlying t, op with
    | some _, some (.slice _), .eql => some ([n ≠ 0], .a (.bool false false), [], [])
    | some _, some (.slice _), .neq => some ([n ≠ 0], .a (.bool false true), [], [])
    | _, _, _ => none
  | _ => none

def lbin (P : Program) (σ : Sig) (ρ : Hds) (op : BinOp) (t : TypeId) (x y : Operand) (o : Oper) : Ret :=
  match lev σ x, lev σ y with
  | some (.g xs), some (.g ys) => match op with
    | .eql => match leqOp P t (.g xs) (.g ys) with
      | some b => some ([], .a (.bool (LV.sym (.g xs) || LV.sym (.g ys)) b), [], [])
      | none => none
    | .neq => match leqOp P t (.g xs) (.g ys) with
      | some b => some ([], .a (.bool (LV.sym (.g xs) || LV.sym (.g ys)) (!b)), [], [])
      | none => none
    | _ => none
  | some (.a (.int s k n)), some (.a (.int s' k' m)) => match op with
    | .quo => match decide (k = k'), divOK s' m with
      | true, some obs => some (obs, .a (.int (s || s') k (k.wrap (n.tdiv m))), [], [])
      | _, _ => none
    | .rem => match decide (k = k'), divOK s' m with
      | true, some obs => some (obs, .a (.int (s || s') k (n.tmod m)), [], [])
      | _, _ => none
    | .shl => match shOK s' m with
      | some obs => some (obs, .a (.int (s || s') k (k.wrap (n * 2 ^ (min m.toNat k.bits)))), [], [])
      | none => none
    | .shr => match shOK s' m with
      | some obs => some (obs, .a (.int (s || s') k (n.fdiv (2 ^ (min m.toNat k.bits)))), [], [])
      | none => none
    | _ => calmOp P σ o
  | some (.a p), some (.a .nils) => match lnils P ρ op t p with
    | some r => some r
    | none => calmOp P σ o
  | some (.a p), some (.a .nil) => match there ρ p, op, P.underlying t with
    | true, .eql, some (.pointer _) => some ([], .a (.bool false false), [], [])
    | true, .neq, some (.pointer _) => some ([], .a (.bool false true), [], [])
    | _, _, _ => calmOp P σ o
  | _, _ => calmOp P σ o

def selI (k : IntKind) : List At → Option (List Int)
  | [] => some []
  | .int _ k' n :: r => match decide (k = k'), selI k r with
    | true, some l => some (n :: l)
    | _, _ => none
  | _ :: _ => none

def kindOf : List At → Option IntKind
  | .int _ k _ :: _ => some k
  | _ => none

/-- A bound of a slice, or what stands for it. -/
def bnd (σ : Sig) (x : Option Operand) (n : Nat) : Option (Bool × Int) :=
  match x with
  | none => some (false, n)
  | some y => match lev σ y with
    | some (.a (.int s _ i)) => some (s, i)
    | _ => none

/-- A byte of a text. -/
def byteAt (x : ByteArray) (i : Nat) : Int := match x[i]? with
  | some b => b.toNat
  | none => 0

/-- Bytes as a text. -/
def bytesOf (l : List (List Int)) : ByteArray := (l.map fun r => r.getD 0 0).foldl (fun r n => r.push (UInt8.ofNat n.toNat)) ByteArray.empty

def lconv (P : Program) (σ : Sig) (μ : Mem) (ρ : Hds) (s d : TypeId) (x : Operand) : Ret :=
  match P.underlying s, P.underlying d, lev σ x with
  | some (.slice e), some .string, some v => match P.underlying e with
    | some (.int .u8) => match srcRows μ ρ [.int .u8] v with
      | some l => some ([], .a (.str true (bytesOf l)), [], [])
      | none => none
    | _ => none
  | _, _, _ => none

/-- Are slices that are written out to be rows from the start? (Told by a contract of function 2 that asks for what is never so.) -/
def vecLit (T : Tab) : Bool := match find T 2 [.u] [] with
  | some _ => true
  | none => false

def vecLitC : Con
  | [.u], [] => some ([False], .u, [])
  | _, _ => none

/-- Which way code goes at a place, where it is to be shown afterwards. (Told as 'vecLit' is.) -/
def decC (D : List (Nat × Bool)) : Con
  | [.a (.int false .i64 p)], [] => match look D p.toNat with
    | some d => some ([False], .a (.bool false d), [])
    | none => none
  | _, _ => none

def decAt (T : Tab) (p : Nat) : Option Bool := match find T 2 [.a (.int false .i64 p)] [] with
  | some (_, .a (.bool _ d), _) => some d
  | _ => none

theorem decC_ok {D : List (Nat × Bool)} {args : List LV} {bs : List BC} {obs : List Prop} {lv : LV} {out : List (Option BC)} (h : decC D args bs = some (obs, lv, out)) (ho : Alls obs) : False := by
  unfold decC at h
  split at h
  · split at h
    · simp only [Option.some.injEq, Prod.mk.injEq] at h
      obtain ⟨rfl, rfl, rfl⟩ := h
      exact ho.1
    · cases h
  · cases h

def lop (P : Program) (T : Tab) (id : Nat) (foot : List Nat) (σ : Sig) (μ : Mem) (ρ : Hds) (o : Oper) : Ret :=
  match o.op with
  | .move x | .assign x => match lev σ x with
    | some v => some ([], v, [], [])
    | none => none
  | .pick c x y => match (lev σ c).bind lbool with
    | some (false, q) => match (match q with
      | true => lev σ x
      | false => lev σ y) with
      | some v => some ([], v, [], [])
      | none => none
    | _ => none
  | .alloc t => match zeroL P t with
    | some l => match Nat.ble 1 l.length && Nat.ble l.length 65536 with
      | true => some ([], .a (.ptr id 0), enum id 0 l, [(id, ⟨0, l.length, false, none⟩)])
      | false => none
    | none => none
  | .box _ x => match (lev σ x).bind vcells with
    | some l => match Nat.ble 1 l.length && Nat.ble l.length 65536 with
      | true => some ([], .a (.ptr id 0), enum id 0 l, [(id, ⟨0, l.length, false, none⟩)])
      | false => none
    | none => none
  | .build t parts => match lparts σ parts.toList with
    | some ps => match lbuild P t ps with
      | some l => some ([], .g l, [], [])
      | none => none
    | none => none
  | .buildSlice t len parts => match lparts σ parts.toList, P.underlying t with
    | some ps, some (.slice e) => match zeroL P e, P.info? e with
      | some z, some ie => match Nat.beq z.length ie.size && Nat.ble 1 z.length with
        | true => match len with
          | 0 => match kdsOf z, ps with
            | some sh, [] => some ([], .a (.vec id 0 z.length), [], [(id, ⟨0, 0, false, some ⟨0, sh, [], none⟩⟩)])
            | _, _ => none
          | n + 1 => match Nat.ble ((n + 1) * ie.size) 65536 with
            | true => match lfill (fun i => some (i * ie.size, ie.size)) ((List.replicate (n + 1) z).flatten) ps with
              | some l => match vecLit T with
                | false => some ([], .a (.slc false id 0 0 z.length 0 (n + 1)), enum id 0 l, [(id, ⟨0, l.length, false, none⟩)])
                | true => match kdsOf z with
                  | some sh => match encRows sh (n + 1) l with
                    | some rows => some ([], .a (.vec id 0 z.length), [], [(id, ⟨0, 0, false, some ⟨0, sh, rows, none⟩⟩)])
                    | none => none
                  | none => none
              | none => none
            | false => none
        | false => none
      | _, _ => none
    | _, _ => none
  | .load t x => match lev σ x with
    | some (.a (.ptr b off)) => match loadP P μ ρ t b off with
      | some v => some ([], v, [], [])
      | none => none
    | some (.a (.prw s b v st e i j)) => match loadR P ρ t s b v st e i j with
      | some v => some ([], v, [], [])
      | none => match loadC P μ ρ t s b v st e i j with
        | some (obs, v) => some (obs, v, [], [])
        | none => none
    | _ => none
  | .store t x y => match lev σ x, (lev σ y).bind vcells with
    | some (.a (.ptr b off)), some vs => storeP P ρ t b off vs
    | some (.a (.prw s b v st e i j)), some vs => match storeR P ρ t s b v st e i j vs with
      | some r => some r
      | none => storeC P μ ρ t s b v st e i j vs
    | _, _ => none
  | .nilCheck x => match lev σ x with
    | some (.a (.fn f caps)) => some ([], .a (.fn f caps), [], [])
    | some (.a p) => match there ρ p with
      | true => some ([], .a p, [], [])
      | false => none
    | _ => none
  | .fieldAddr s x f => match lev σ x, P.underlying s with
    | some (.a p), some (.struct fields) => match fields[f]? with
      | some fl => match P.info? fl.type with
        | some i => match Nat.ble 1 i.size && there ρ p, p with
          | true, .ptr b off => some ([], .a (.ptr b (off + fl.offset)), [], [])
          | true, .prw false b v st e i j => match Nat.blt (j + fl.offset) e with
            | true => some ([], .a (.prw false b v st e i (j + fl.offset)), [], [])
            | false => none
          | _, _ => none
        | none => none
      | none => none
    | _, _ => none
  | .field s x f => match lev σ x, P.underlying s with
    | some (.g l), some (.struct fields) => match fields[f]? with
      | some fl => match lpart P fl.type l fl.offset with
        | some v => some ([], v, [], [])
        | none => none
      | none => none
    | _, _ => none
  | .indexAddr t x ix => match lev σ x, lev σ ix, P.underlying t with
    | some (.a (.ptr b off)), some (.a (.int s _ i)), some (.array n e) => match P.info? e, idxOK s i n, cur ρ b 0 with
      | some ie, some obs, some h => match s with
        | false => match there ρ (.ptr b off) with
          | true => some (obs, .a (.ptr b (off + i.toNat * ie.size)), [], [])
          | false => none
        | true => match h.R with
          | some R => match Nat.beq R.st off && Nat.beq R.sh.length ie.size && Nat.ble 1 ie.size, R.fx with
            | true, some N => match Nat.beq N n with
              | true => some (obs, .a (.prw false b 0 off ie.size i.toNat 0), [], [])
              | false => none
            | _, _ => none
          | none => match Nat.ble n h.z && Nat.ble 1 ie.size with
            | true => some (obs, .a (.prw false b 0 off ie.size i.toNat 0), [], [])
            | false => none
      | _, _, _ => none
    | some (.a (.prw false b v st e p j)), some (.a (.int s _ i)), some (.array n el) => match P.info? el, idxOK s i n, there ρ (.prw false b v st e p j) with
      | some ie, some obs, true => match s with
        | false => match Nat.blt (j + i.toNat * ie.size) e with
          | true => some (obs, .a (.prw false b v st e p (j + i.toNat * ie.size)), [], [])
          | false => none
        | true => match Nat.beq ie.size 1 && Nat.ble (j + n) e with
          | true => some (obs, .a (.prw true b v st e p (j + i.toNat)), [], [])
          | false => none
      | _, _, _ => none
    | some (.a (.slc s b v st e off n)), some (.a (.int s' _ i)), some (.slice el) => match P.info? el, idxOK (s || s') i n with
      | some ie, some obs => match Nat.beq ie.size e && Nat.ble 1 e, cur ρ b v with
        | true, some h => match h.R with
          | some _ => some (obs, .a (.prw false b v st e (off + i.toNat) 0), [], [])
          | none => match s || s' with
            | false => some (obs, .a (.ptr b (st + (off + i.toNat) * e)), [], [])
            | true => none
        | _, _ => none
      | _, _ => none
    | some (.a (.vec b v e)), some (.a (.int _ _ i)), some (.slice el) => match P.info? el, rowsAt ρ b v 0 e with
      | some ie, some (_, R) => match Nat.beq ie.size e && Nat.ble 1 e, idxOK true i R.l.length with
        | true, some obs => some (obs, .a (.prw false b v 0 e i.toNat 0), [], [])
        | _, _ => none
      | _, _ => none
    | _, _, _ => none
  | .index t x ix => match lev σ x, lev σ ix, P.underlying t with
    | some (.g l), some (.a (.int false _ i)), some (.array n e) => match P.info? e, idxOK false i n with
      | some ie, some obs => match lpart P e l (i.toNat * ie.size) with
        | some v => some (obs, v, [], [])
        | none => none
      | _, _ => none
    | some (.g l), some (.a (.int true _ i)), some (.array n e) => match shape P e, P.info? e, kindOf l with
      | some (false, _), some ie, some k => match selI k l, Nat.beq l.length n && Nat.beq ie.size 1 with
        | some ns, true => some ([0 ≤ i ∧ i < (n : Int)], .a (.int true k (ns.getD i.toNat 0)), [], [])
        | _, _ => none
      | _, _, _ => none
    | some (.a (.str q x)), some (.a (.int s _ i)), some .string => match idxOK (q || s) i x.size with
      | some obs => some (obs, .a (.int (q || s) .u8 (byteAt x i.toNat)), [], [])
      | none => none
    | _, _, _ => none
  | .makeFunc (.func f) first caps => match first.toList, levs σ caps.toList with
    | [], some l => match lcaps l with
      | some ps => some ([], .a (.fn f ps), [], [])
      | none => none
    | _, _ => none
  | .extract x i => match lev σ x with
    | some (.t l) => match l[i]? with
      | some (.a y) => some ([], .a y, [], [])
      | some (.g y) => some ([], .g y, [], [])
      | _ => none
    | _ => none
  | .slice t x lo hi none => match lev σ x, P.underlying t, bnd σ lo 0 with
    | some (.a (.ptr b off)), some (.array n e), some (s, l) => match bnd σ hi n, P.info? e, cur ρ b 0 with
      | some (s', h), some ie, some hd => match s || s', bndOK false l h n with
        | false, some obs => match Nat.ble 1 ie.size && Nat.ble (off + n * ie.size) hd.z && there ρ (.ptr b off), hd.R with
          | true, none => some (obs, .a (.slc false b 0 off ie.size l.toNat (h.toNat - l.toNat)), [], [])
          | _, _ => none
        | _, _ => none
      | _, _, _ => none
    | some (.a (.slc q b v st e off n)), some (.slice el), some (s, l) => match bnd σ hi n, P.info? el, cur ρ b v with
      | some (s', h), some ie, some _ => match Nat.beq ie.size e && Nat.ble 1 e, bndOK (q || s || s') l h n with
        | true, some obs => some (obs, .a (.slc (q || s || s') b v st e (off + l.toNat) (h.toNat - l.toNat)), [], [])
        | _, _ => none
      | _, _, _ => none
    | some (.a (.vec b v e)), some (.slice el), some (_, l) => match P.info? el, rowsAt ρ b v 0 e with
      | some ie, some (_, R) => match bnd σ hi R.l.length, Nat.beq ie.size e && Nat.ble 1 e with
        | some (_, h), true => match bndOK true l h R.l.length with
          | some obs => some (obs, .a (.slc true b v 0 e l.toNat (h.toNat - l.toNat)), [], [])
          | none => none
        | _, _ => none
      | _, _ => none
    | some (.a (.str q x)), some .string, some (s, l) => match bnd σ hi x.size with
      | some (s', h) => match bndOK (q || s || s') l h x.size with
        | some obs => some (obs, .a (.str (q || s || s') (x.extract l.toNat h.toNat)), [], [])
        | none => none
      | none => none
    | _, _, _ => none
  | .makeSlice t x y => lmake P id σ t x y
  | .binOp op t x y _ => lbin P σ ρ op t x y o
  | .convert s d x => match lconv P σ μ ρ s d x with
    | some r => some r
    | none => calmOp P σ o
  | .unOp .. => calmOp P σ o
  | .call c => lcall P T id foot σ μ ρ c o
  | _ => none

end Go.Proofs.Ytcdejlgophpdjaa.V
