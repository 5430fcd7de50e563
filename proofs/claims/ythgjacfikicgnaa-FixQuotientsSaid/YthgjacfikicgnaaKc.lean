/-
  The operations, each by a function on the local memory, and that the real ones do the same.
-/
import Derived.Test.YthgjacfikicgnaaKb
namespace Go.Proofs.Ythgjacfikicgnaa.K
open Go Go.RowKit

def Alls : List Prop → Prop
  | [] => True
  | p :: ps => p ∧ Alls ps

theorem Alls.append {l m : List Prop} : Alls (l ++ m) ↔ Alls l ∧ Alls m := by
  induction l with
  | nil => simp [Alls]
  | cons p ps ih => simp [Alls, ih, and_assoc]

abbrev Con := List LV → Option (List Prop × LV)
abbrev Tab := List (Nat × Con)

def find : Tab → Nat → List LV → Option (List Prop × LV)
  | [], _, _ => none
  | (g, c) :: T, f, args => match Nat.beq g f with
    | true => match c args with
      | some r => some r
      | none => find T f args
    | false => find T f args

theorem find_mem {T : Tab} {f : Nat} {args : List LV} {r : List Prop × LV} (h : find T f args = some r) : ∃ c, (f, c) ∈ T ∧ c args = some r := by
  induction T with
  | nil => simp [find] at h
  | cons p T ih =>
    obtain ⟨g, c'⟩ := p
    have rest : find T f args = some r → ∃ c, (f, c) ∈ (g, c') :: T ∧ c args = some r := fun h => by
      obtain ⟨c, h1, h2⟩ := ih h
      exact ⟨c, List.mem_cons_of_mem _ h1, h2⟩
    unfold find at h
    split at h
    · rename_i hb
      have : g = f := Nat.eq_of_beq_eq_true hb
      subst this
      split at h
      · rename_i r' hc
        simp only [Option.some.injEq] at h
        subst h
        exact ⟨c', by simp, hc⟩
      · exact rest h
    · exact rest h

/-- A function whose result hangs on its arguments alone, and that leaves what was there. -/
def PureOK (P : Program) (f : Nat) (c : Con) : Prop := ∀ args obs lv, c args = some (obs, lv) → Alls obs → ∀ (φ : Phi) (vs : Array Value) (w : World), All2 (LV.rel φ) args vs.toList →
  Calls P f vs w fun e w' => ∃ v', e = .returned v' ∧ lv.rel (fun _ => none) v' ∧ Grows w w'

def Enters (P : Program) (f : Nat) : Prop := ∀ args, calm P (callFunc f args) = some (.enter f args)

def TOK (P : Program) (T : Tab) : Prop := ∀ p ∈ T, Enters P p.1 ∧ PureOK P p.1 p.2

theorem TOK.nil {P : Program} : TOK P [] := by intro p hp; cases hp
theorem TOK.cons {P : Program} {T : Tab} {f : Nat} {c : Con} (he : Enters P f) (hc : PureOK P f c) (h : TOK P T) : TOK P ((f, c) :: T) := by
  intro p hp
  rcases List.mem_cons.1 hp with rfl | hp
  · exact ⟨he, hc⟩
  · exact h p hp

/-- What is to be done at a test or an index: k: the kernel reckons it; t, f: it is laid as a premise. -/
inductive D where
  | k | t | f

abbrev Ret := Option (List Prop × LV × Option (Nat × List At))

def idxOK (d : D) (i : Int) (n : Nat) : Option (List Prop) :=
  match d with
  | .k => match decide (0 ≤ i ∧ i < (n : Int)) with
    | true => some []
    | false => none
  | _ => some [0 ≤ i ∧ i < (n : Int)]

theorem idxOK_spec {d : D} {i : Int} {n : Nat} {obs : List Prop} (h : idxOK d i n = some obs) (ho : Alls obs) : 0 ≤ i ∧ i < (n : Int) := by
  unfold idxOK at h
  split at h
  · split at h
    · rename_i hh; exact of_decide_eq_true hh
    · cases h
  · simp only [Option.some.injEq] at h; subst h; exact ho.1

def rho (σ : Sig) (x : Operand) : Value := match lev σ x with
  | some lv => lv.real0
  | none => undef

def opsFree (σ : Sig) (l : List Operand) : Bool := l.all fun x => match lev σ x with
  | some lv => lv.free
  | none => false

theorem rho_eq {φ : Phi} {σ : Sig} {a : Act} (h : TRel φ σ a.tmps) {l : List Operand} (hf : opsFree σ l = true) {x : Operand} (hx : x ∈ l) : rho σ x = a.eval x := by
  unfold opsFree at hf
  have := List.all_eq_true.1 hf x hx
  cases e : lev σ x with
  | none => simp [e] at this
  | some lv =>
    simp only [e] at this
    simp only [rho, e]
    exact (LV.of_free this (lev_rel h e)).symm

def calmOp (P : Program) (σ : Sig) (o : Oper) : Ret :=
  match opsFree σ o.op.operands.toList with
  | true => match calm P (execOp (rho σ) o) with
    | some (.value v) => match LV.ofVal v with
      | some lv => some ([], lv, none)
      | none => none
    | _ => none
  | false => none

/-- Cells of a struct's part. -/
def lpart (P : Program) (t : TypeId) (l : List At) (off : Nat) : Option LV :=
  match shape P t with
  | some (true, n) => some (.g ((l.drop off).take n))
  | some (false, _) => match l[off]? with
    | some x => some (.a x)
    | none => none
  | none => none

def lload (P : Program) (μ : Loc) (t : TypeId) (b off : Nat) : Option LV :=
  match μ b with
  | some l => match shape P t with
    | some (true, n) => match Nat.ble (off + n) l.length with
      | true => some (.g ((l.drop off).take n))
      | false => none
    | some (false, _) => match l[off]? with
      | some x => some (.a x)
      | none => none
    | none => none
  | none => none

def lfill (place : Nat → Option (Nat × Nat)) : List At → List (Nat × LV) → Option (List At)
  | cells, [] => some cells
  | cells, (i, v) :: rest => match place i, vcells v with
    | some (off, size), some vs => match Nat.beq vs.length size && Nat.ble (off + size) cells.length with
      | true => lfill place (cells.take off ++ vs ++ cells.drop (off + vs.length)) rest
      | false => none
    | _, _ => none

def zeroL (P : Program) (t : TypeId) : Option (List At) :=
  match P.info? t with
  | some i => match i.zero with
    | some z => match LV.ofVal z with
      | some lv => vcells lv
      | none => none
    | none => none
  | none => none

def lparts (σ : Sig) : List (Nat × Operand) → Option (List (Nat × LV))
  | [] => some []
  | (i, x) :: rest => match lev σ x, lparts σ rest with
    | some v, some r => some ((i, v) :: r)
    | _, _ => none

def lbuild (P : Program) (t : TypeId) (parts : List (Nat × LV)) : Option (List At) :=
  match P.underlying t, zeroL P t with
  | some (.array _ e), some z => match P.info? e with
    | some ie => lfill (fun i => some (i * ie.size, ie.size)) z parts
    | none => none
  | some (.struct fields), some z => match fields.toList.mapM (fun f => (P.info? f.type).map fun i => (f.offset, i.size)) with
    | some places => lfill (places.toArray[·]?) z parts
    | none => none
  | _, _ => none

def lcaps : List LV → Option (List (Nat × Nat))
  | [] => some []
  | .a (.ptr b o) :: r => match lcaps r with
    | some l => some ((b, o) :: l)
    | none => none
  | _ => none

def levs (σ : Sig) : List Operand → Option (List LV)
  | [] => some []
  | x :: r => match lev σ x, levs σ r with
    | some v, some l => some (v :: l)
    | _, _ => none

def lbool (v : LV) : Option Bool := match v with
  | .a (.bool b) => some b
  | _ => none

def lcall (P : Program) (T : Tab) (σ : Sig) (c : Call) (o : Oper) : Ret :=
  match c.callee with
  | .value x => match lev σ x, levs σ c.args.toList with
    | some (.a (.fn f caps)), some args => match find T f (args ++ caps.map fun p => .a (.ptr p.1 p.2)) with
      | some (obs, v) => some (obs, v, none)
      | none => none
    | _, _ => none
  | .builtin .len => match c.args.toList, c.argTypes.toList with
    | [x], [t] => match lev σ x, P.underlying t with
      | some (.a (.slc _ _ n _)), some (.slice _) => some ([], .a (.int .i64 n), none)
      | some (.a .nils), some (.slice _) => some ([], .a (.int .i64 0), none)
      | some _, some (.array n _) => some ([], .a (.int .i64 n), none)
      | _, _ => calmOp P σ o
    | _, _ => none
  | .builtin _ => calmOp P σ o
  | _ => none

/-- '==' of structs and arrays of numbers, bools, strings. -/
def leqFields (P : Program) (rec : TypeId → LV → LV → Option Bool) (xs ys : List At) : List Field → Option Bool
  | [] => some true
  | f :: fs => match decide (f.name = "_"), lpart P f.type xs f.offset, lpart P f.type ys f.offset with
    | false, some x, some y => match rec f.type x y, fs with
      | some a, [] => some a
      | some a, g :: gs => match leqFields P rec xs ys (g :: gs) with
        | some b => some (a && b)
        | none => none
      | none, _ => none
    | _, _, _ => none

def leqItems (P : Program) (rec : TypeId → LV → LV → Option Bool) (e : TypeId) (n : Nat) (xs ys : List At) : List Nat → Option Bool
  | [] => some true
  | i :: is => match lpart P e xs (i * n), lpart P e ys (i * n) with
    | some x, some y => match rec e x y, is with
      | some a, [] => some a
      | some a, j :: js => match leqItems P rec e n xs ys (j :: js) with
        | some b => some (a && b)
        | none => none
      | none, _ => none
    | _, _ => none

def leq (P : Program) : Nat → TypeId → LV → LV → Option Bool
  | 0, _, _, _ => none
  | d + 1, t, x, y => match P.underlying t, x, y with
    | some (.int _), .a (.int k a), .a (.int k' b) => match decide (k = k') with
      | true => some (a == b)
      | false => none
    | some .bool, .a (.bool a), .a (.bool b) => some (a == b)
    | some .string, .a (.str a), .a (.str b) => some (a.toList == b.toList)
    | some (.struct fs), .g xs, .g ys => match P.stoodInHeld t with
      | false => leqFields P (leq P d) xs ys fs.toList
      | true => none
    | some (.array n e), .g xs, .g ys => match P.info? e with
      | some i => leqItems P (leq P d) e i.size xs ys (List.range n)
      | none => none
    | _, _, _ => none

def leqOp (P : Program) (t : TypeId) (x y : LV) : Option Bool :=
  match P.eqGuardType P.depth t with
  | false => leq P 20 t x y
  | true => none

def divOK (d : D) (m : Int) : Option (List Prop) :=
  match d with
  | .k => match decide (m = 0) with
    | false => some []
    | true => none
  | _ => some [m ≠ 0]

theorem divOK_spec {d : D} {m : Int} {obs : List Prop} (h : divOK d m = some obs) (ho : Alls obs) : m ≠ 0 := by
  unfold divOK at h
  split at h
  · split at h
    · rename_i hh; exact of_decide_eq_false hh
    · cases h
  · simp only [Option.some.injEq] at h; subst h; exact ho.1

def shOK (d : D) (m : Int) : Option (List Prop) :=
  match d with
  | .k => match decide (0 ≤ m) with
    | true => some []
    | false => none
  | _ => some [0 ≤ m]

theorem shOK_spec {d : D} {m : Int} {obs : List Prop} (h : shOK d m = some obs) (ho : Alls obs) : 0 ≤ m := by
  unfold shOK at h
  split at h
  · split at h
    · rename_i hh; exact of_decide_eq_true hh
    · cases h
  · simp only [Option.some.injEq] at h; subst h; exact ho.1

def lbin (P : Program) (σ : Sig) (d : D) (op : BinOp) (t : TypeId) (x y : Operand) (o : Oper) : Ret :=
  match lev σ x, lev σ y with
  | some (.g xs), some (.g ys) => match op with
    | .eql => match leqOp P t (.g xs) (.g ys) with
      | some b => some ([], .a (.bool b), none)
      | none => none
    | .neq => match leqOp P t (.g xs) (.g ys) with
      | some b => some ([], .a (.bool (!b)), none)
      | none => none
    | _ => none
  | some (.a (.int k n)), some (.a (.int k' m)) => match op with
    | .quo => match decide (k = k'), divOK d m with
      | true, some obs => some (obs, .a (.int k (k.wrap (n.tdiv m))), none)
      | _, _ => none
    | .rem => match decide (k = k'), divOK d m with
      | true, some obs => some (obs, .a (.int k (n.tmod m)), none)
      | _, _ => none
    | .shl => match shOK d m with
      | some obs => some (obs, .a (.int k (k.wrap (n * 2 ^ (min m.toNat k.bits)))), none)
      | none => none
    | .shr => match shOK d m with
      | some obs => some (obs, .a (.int k (n.fdiv (2 ^ (min m.toNat k.bits)))), none)
      | none => none
    | _ => calmOp P σ o
  | _, _ => calmOp P σ o

def lop (P : Program) (T : Tab) (id : Nat) (σ : Sig) (μ : Loc) (d : D) (o : Oper) : Ret :=
  match o.op with
  | .move x | .assign x => match lev σ x with
    | some v => some ([], v, none)
    | none => none
  | .pick c x y => match (lev σ c).bind lbool with
    | some q => match (match q with
      | true => lev σ x
      | false => lev σ y) with
      | some v => some ([], v, none)
      | none => none
    | none => none
  | .alloc t => match zeroL P t with
    | some l => some ([], .a (.ptr id 0), some (id, l))
    | none => none
  | .box _ x => match (lev σ x).bind vcells with
    | some l => some ([], .a (.ptr id 0), some (id, l))
    | none => none
  | .build t parts => match lparts σ parts.toList with
    | some ps => match lbuild P t ps with
      | some l => some ([], .g l, none)
      | none => none
    | none => none
  | .buildSlice t len parts => match lparts σ parts.toList, P.underlying t with
    | some ps, some (.slice e) => match zeroL P e, P.info? e with
      | some z, some ie => match Nat.beq z.length ie.size && Nat.ble 1 (len * ie.size) && Nat.ble (len * ie.size) 16777216 with
        | true => match lfill (fun i => some (i * ie.size, ie.size)) ((List.replicate len z).flatten) ps with
          | some l => some ([], .a (.slc id 0 len len), some (id, l))
          | none => none
        | false => none
      | _, _ => none
    | _, _ => none
  | .load t x => match lev σ x with
    | some (.a (.ptr b off)) => match lload P μ t b off with
      | some v => some ([], v, none)
      | none => none
    | _ => none
  | .store t x y => match lev σ x, (lev σ y).bind vcells, shape P t with
    | some (.a (.ptr b off)), some vs, some (_, n) => match μ b with
      | some l => match Nat.beq vs.length n && Nat.ble (off + n) l.length with
        | true => some ([], .t [], some (b, l.take off ++ vs ++ l.drop (off + vs.length)))
        | false => none
      | none => none
    | _, _, _ => none
  | .nilCheck x => match lev σ x with
    | some (.a (.ptr b off)) => some ([], .a (.ptr b off), none)
    | some (.a (.fn f caps)) => some ([], .a (.fn f caps), none)
    | _ => none
  | .fieldAddr s x f => match lev σ x, P.underlying s with
    | some (.a (.ptr b off)), some (.struct fields) => match fields[f]? with
      | some fl => match P.info? fl.type with
        | some i => match Nat.ble 1 i.size with
          | true => some ([], .a (.ptr b (off + fl.offset)), none)
          | false => none
        | none => none
      | none => none
    | _, _ => none
  | .field s x f => match lev σ x, P.underlying s with
    | some (.g l), some (.struct fields) => match fields[f]? with
      | some fl => match lpart P fl.type l fl.offset with
        | some v => some ([], v, none)
        | none => none
      | none => none
    | _, _ => none
  | .indexAddr t x ix => match lev σ x, lev σ ix, P.underlying t with
    | some (.a (.ptr b off)), some (.a (.int _ i)), some (.array n e) => match P.info? e, idxOK d i n with
      | some ie, some obs => some (obs, .a (.ptr b (off + i.toNat * ie.size)), none)
      | _, _ => none
    | some (.a (.slc b off n _)), some (.a (.int _ i)), some (.slice e) => match P.info? e, idxOK d i n with
      | some ie, some obs => some (obs, .a (.ptr b (off + i.toNat * ie.size)), none)
      | _, _ => none
    | _, _, _ => none
  | .index t x ix => match lev σ x, lev σ ix, P.underlying t with
    | some (.g l), some (.a (.int _ i)), some (.array n e) => match P.info? e, idxOK d i n with
      | some ie, some obs => match lpart P e l (i.toNat * ie.size) with
        | some v => some (obs, v, none)
        | none => none
      | _, _ => none
    | _, _, _ => none
  | .makeFunc (.func f) first caps => match first.toList, levs σ caps.toList with
    | [], some l => match lcaps l with
      | some ps => some ([], .a (.fn f ps), none)
      | none => none
    | _, _ => none
  | .extract x i => match lev σ x with
    | some (.t l) => match l[i]? with
      | some (.a y) => some ([], .a y, none)
      | some (.g y) => some ([], .g y, none)
      | _ => none
    | _ => none
  | .slice t x lo hi mx => match lev σ x, P.underlying t, mx with
    | some (.a (.ptr b off)), some (.array n e), none => match P.info? e, lo.map (lev σ), hi.map (lev σ) with
      | some ie, some (some (.a (.int _ l))), none => match idxOK d l (n + 1) with
        | some obs => some (obs, .a (.slc b (if n = l.toNat then off else off + l.toNat * ie.size) (n - l.toNat) (n - l.toNat)), none)
        | none => none
      | some _, none, none => some ([], .a (.slc b off n n), none)
      | _, _, _ => none
    | _, _, _ => none
  | .binOp op t x y _ => lbin P σ d op t x y o
  | .unOp .. | .convert .. => calmOp P σ o
  | .call c => lcall P T σ c o
  | _ => none

end Go.Proofs.Ythgjacfikicgnaa.K
