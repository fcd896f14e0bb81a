/- An interpreter over the program's code on plain values, in continuation style: its definitions. -/
import Derived.Calls
import Derived.KernelRfl
namespace Go.Proofs.YtnfjggagenmkjaaDoor.AM
open Go

/-- One cell's plain value. -/
inductive S where
  | int (k : IntKind) (n : Int) | bool (b : Bool) | str (l : List UInt8) | fn (f : Nat) | nils
/-- A row of cells. -/
inductive Xs where
  | ints (k : IntKind) (l : List Int) | strs (l : List (List UInt8)) | ss (l : List S)
/-- A value that may stand in a tuple. -/
inductive C where
  | u | s (x : S) | agg (x : Xs) | own (x : Xs) | ro (x : Xs)
abbrev Out := List C × Option Xs
/-- What a slot holds. -/
inductive V where
  | u | c (x : C) | tup (l : List C) | box (T : Nat) (x : Xs) | via (s off : Nat) | all (s : Nat) | ali (s lo n : Nat) | iter (l : List UInt8) (pos : Nat) | it (s : Nat)
abbrev Env := List V

def S.enc : S → Value
  | .int k n => .int k n
  | .bool b => .bool b
  | .str l => .string ⟨⟨l⟩⟩
  | .fn f => .func (.func f) #[] #[]
  | .nils => .slice none 0 0
def Xs.toS : Xs → List S
  | .ints k l => l.map (S.int k)
  | .strs l => l.map S.str
  | .ss l => l
def Xs.enc (x : Xs) : List Value := x.toS.map S.enc
def Xs.len : Xs → Nat
  | .ints _ l => l.length
  | .strs l => l.length
  | .ss l => l.length

def ofConst : Value → V
  | .int k n => .c (.s (.int k n))
  | .bool b => .c (.s (.bool b))
  | .string s => .c (.s (.str s.data.toList))
  | .slice none 0 0 => .c (.s .nils)
  | _ => .u
def plainC : C → Bool
  | .own _ => false
  | _ => true
def rd (e : Env) (t : Nat) : V :=
  match e.getD t .u with
  | .box _ _ => .via t 0
  | .c (.own _) => .all t
  | .c (.ro _) => .all t
  | .iter _ _ => .it t
  | .tup l => (match l.all plainC with | true => .tup l | false => .u)
  | v => v
def ev (e : Env) : Operand → V
  | .tmp t => rd e t
  | .const v => ofConst v
  | .func f => .c (.s (.fn f))
  | .global _ => .u

/-- Is a slot the owner of memory, or of a name for memory? -/
def owner : V → Bool
  | .box _ _ | .iter _ _ | .c (.own _) | .c (.ro _) => true
  | _ => false
def aliasOf (d : Nat) : V → Bool
  | .via s _ | .all s | .ali s _ _ | .it s => s == d
  | _ => false
def noSelf (d : Nat) (v : V) : V := match aliasOf d v with | true => .u | false => v
def kill (d : Nat) (e : Env) : Env := e.map (noSelf d)
def put (e : Env) (d : Nat) (v : V) : Env := match owner (e.getD d .u) with | true => (kill d e).set d (noSelf d v) | false => e.set d (noSelf d v)
def putO (e : Env) (d : Option Nat) (v : V) : Env := match d with | some d => put e d v | none => e

def at? {α : Type} (l : List α) (i : Int) : Option α := if 0 ≤ i then l[i.toNat]? else none
def Xs.atK : Xs → Int → (S → Option Out) → Option Out
  | .ints k l, i, K => (at? l i).bind fun n => K (.int k n)
  | .strs l, i, K => (at? l i).bind fun s => K (.str s)
  | .ss l, i, K => (at? l i).bind K
def Xs.set : Xs → Nat → S → Option Xs
  | .ints k l, i, .int k' n => if k = k' then some (.ints k (l.set i n)) else none
  | .strs l, i, .str s => some (.strs (l.set i s))
  | .ss l, i, s => some (.ss (l.set i s))
  | _, _, _ => none
def Xs.cut : Xs → Nat → Nat → Xs
  | .ints k l, lo, n => .ints k ((l.drop lo).take n)
  | .strs l, lo, n => .strs ((l.drop lo).take n)
  | .ss l, lo, n => .ss ((l.drop lo).take n)
def Xs.app : Xs → Xs → Option Xs
  | .ints k l, .ints k' m => if k = k' then some (.ints k (l ++ m)) else none
  | .strs l, .strs m => some (.strs (l ++ m))
  | .ss [], x => some x
  | x, .ss [] => some x
  | .ss l, .ss m => some (.ss (l ++ m))
  | _, _ => none
def Xs.lay : Xs → Nat → List S → Option Xs
  | x, _, [] => some x
  | x, i, s :: r => (x.set i s).bind fun y => y.lay (i + 1) r
def cut (l : List UInt8) (lo hi : Option Int) : Option (List UInt8) :=
  if 0 ≤ lo.getD 0 ∧ lo.getD 0 ≤ hi.getD l.length ∧ hi.getD l.length ≤ l.length then some ((l.take (hi.getD l.length).toNat).drop (lo.getD 0).toNat) else none
def cutN (n : Nat) (lo hi : Option Int) : Option (Nat × Nat) :=
  if 0 ≤ lo.getD 0 ∧ lo.getD 0 ≤ hi.getD n ∧ hi.getD n ≤ n then some ((lo.getD 0).toNat, (hi.getD n).toNat - (lo.getD 0).toNat) else none
def cat (a b : List UInt8) : Option (List UInt8) := if a.length + b.length ≤ 4611686018427387904 then some (a ++ b) else none

def bopI (op : BinOp) (k : IntKind) (x y : Int) (K : S → Option Out) : Option Out :=
  match op with
  | .add => K (.int k (k.wrap (x + y)))
  | .sub => K (.int k (k.wrap (x - y)))
  | .mul => K (.int k (k.wrap (x * y)))
  | .quo => bif y == 0 then none else K (.int k (k.wrap (x.tdiv y)))
  | .rem => bif y == 0 then none else K (.int k (x.tmod y))
  | .and => K (.int k (k.wrap (BitVec.ofInt k.bits x &&& BitVec.ofInt k.bits y).toNat))
  | .or => K (.int k (k.wrap (BitVec.ofInt k.bits x ||| BitVec.ofInt k.bits y).toNat))
  | .xor => K (.int k (k.wrap (BitVec.ofInt k.bits x ^^^ BitVec.ofInt k.bits y).toNat))
  | .eql => K (.bool (x == y))
  | .neq => K (.bool (x != y))
  | .lss => K (.bool (decide (x < y)))
  | .leq => K (.bool (decide (x ≤ y)))
  | .gtr => K (.bool (decide (x > y)))
  | .geq => K (.bool (decide (x ≥ y)))
  | _ => none
def shift (op : BinOp) (k : IntKind) (x y : Int) (K : S → Option Out) : Option Out :=
  bif decide (y < 0) then none else
  match op with
  | .shl => K (.int k (k.wrap (x * 2 ^ (min y.toNat k.bits))))
  | .shr => K (.int k (x.fdiv (2 ^ (min y.toNat k.bits))))
  | _ => none
def bop (op : BinOp) (a b : S) (K : S → Option Out) : Option Out :=
  match op, a, b with
  | .shl, .int k a, .int _ b => shift .shl k a b K
  | .shr, .int k a, .int _ b => shift .shr k a b K
  | op, .int k a, .int k' b => if k = k' then bopI op k a b K else none
  | .add, .str a, .str b => (cat a b).bind fun l => K (.str l)
  | .eql, .str a, .str b => K (.bool (a == b))
  | .neq, .str a, .str b => K (.bool (!(a == b)))
  | .lss, .str a, .str b => K (.bool (Op.bytesLess a b))
  | .gtr, .str a, .str b => K (.bool (!(Op.bytesLess a b || a == b)))
  | _, _, _ => none
def uop (op : UnOp) (a : S) : Option S :=
  match op, a with
  | .not, .bool b => some (.bool !b)
  | .neg, .int k n => some (.int k (k.wrap (0 - n)))
  | _, _ => none

section types
variable (P : Program)
def intKind (t : Nat) : Option IntKind := match P.underlying t with | some (.int k) => some k | _ => none
def plainDesc : TypeDesc → Bool
  | .int _ | .bool | .string => true
  | _ => false
def eqT : Option TypeDesc → S → S → Option Bool
  | some (.int _), .int k a, .int k' b => if k = k' then some (a == b) else none
  | some .bool, .bool a, .bool b => some (a == b)
  | some .string, .str a, .str b => some (a == b)
  | _, _, _ => none
/-- Two structs of plain one-cell fields: are they one? -/
def eqF : List Field → Nat → List S → List S → Option Bool
  | [], _, [], [] => some true
  | f :: fs, i, a :: x, b :: y => match f.offset == i && f.name != "_", eqT (P.underlying f.type) a b, eqF fs (i + 1) x y with
    | true, some p, some q => some (p && q)
    | _, _, _ => none
  | _, _, _, _ => none
def isAggB (t : Nat) : Option Bool := match P.underlying t with | some (.struct _) => some true | some (.array _ _) => some true | some _ => some false | none => none
def eqV : Value → S → Bool
  | .int k n, .int k' m => k == k' && n == m
  | .bool a, .bool b => a == b
  | .string a, .str l => a.data.toList == l
  | .slice none 0 0, .nils => true
  | _, _ => false
def eqVs : List Value → List S → Bool
  | [], [] => true
  | v :: r, s :: q => eqV v s && eqVs r q
  | _, _ => false
def ofCell : Value → S
  | .int k n => .int k n
  | .bool b => .bool b
  | .string s => .str s.data.toList
  | _ => .nils
/-- The zero cells of a type. -/
def zeroXs (t : Nat) : Option Xs :=
  match P.info? t with
  | some i => match i.zero with
    | some z =>
      let x : Xs := match i.desc with
        | .array n e => match P.underlying e with
          | some (.int k) => .ints k (List.replicate n 0)
          | some .string => .strs (List.replicate n [])
          | _ => .ss (z.cells.toList.map ofCell)
        | .named _ e => (match P.underlying e with
          | some (.array n e) => (match P.underlying e with
            | some (.int k) => .ints k (List.replicate n 0)
            | some .string => .strs (List.replicate n [])
            | _ => .ss (z.cells.toList.map ofCell))
          | _ => .ss (z.cells.toList.map ofCell))
        | _ => .ss (z.cells.toList.map ofCell)
      match eqVs z.cells.toList x.toS && i.size == x.len && !(i.desc matches .tuple _) with
      | true => some x
      | false => none
    | none => none
  | none => none
/-- A slice's element type, if it has one cell that is plain; its zero. -/
def elemZ (t : Nat) : Option (Nat × S) :=
  match P.underlying t with
  | some (.slice e) => match P.underlying e, P.info? e with
    | some (.int k), some i => if i.size = 1 ∧ i.bytes ≤ 16 then (match i.zero with | some (.int k' 0) => if k = k' then some (e, .int k 0) else none | _ => none) else none
    | some .string, some i => if i.size = 1 ∧ i.bytes ≤ 16 then (match i.zero with | some (.string ⟨⟨[]⟩⟩) => some (e, .str []) | _ => none) else none
    | _, _ => none
  | _ => none
def fieldOff (t f : Nat) : Option (Nat × Nat) := match P.underlying t with | some (.struct fs) => (match fs[f]? with | some x => (match P.cellsOf x.type with | 0 => none | _ + 1 => some (x.offset, x.type)) | none => none) | _ => none
end types

def xsOf : S → Nat → Xs
  | .int k n, m => .ints k (List.replicate m n)
  | .str s, m => .strs (List.replicate m s)
  | s, m => .ss (List.replicate m s)
def cellsOf : C → Option (List S)
  | .s x => some [x]
  | .agg x => some x.toS
  | _ => none
def bytesOf : Xs → Option (List UInt8)
  | .ints .u8 l => some (l.map fun n => UInt8.ofNat n.toNat)
  | .ss [] => some []
  | _ => none
/-- What a value is as an argument. -/
def argC (e : Env) : V → Option C
  | .c (.s x) => some (.s x)
  | .c (.agg x) => some (.agg x)
  | .all s => match e.getD s .u with
    | .c (.own x) => some (.ro x)
    | .c (.ro x) => some (.ro x)
    | _ => none
  | .ali s lo n => match e.getD s .u with
    | .c (.own x) => some (.ro (x.cut lo n))
    | .c (.ro x) => some (.ro (x.cut lo n))
    | _ => none
  | _ => none
def argCs (e : Env) : List V → Option (List C)
  | [] => some []
  | v :: r => match argC e v, argCs e r with
    | some c, some l => some (c :: l)
    | _, _ => none
def ofRes : List C → V
  | [] => .u
  | [c] => .c c
  | l => .tup l
def resOk : C → Bool
  | .s _ | .agg _ | .own _ => true
  | _ => false
abbrev Gam := Nat → Option (Nat × Xs) → List C → (Out → Option Out) → Option Out
/-- A slice's content. -/
def content (e : Env) (s : Nat) : Option Xs := match e.getD s .u with
  | .c (.own x) => some x
  | .c (.ro x) => some x
  | _ => none
def contentB (e : Env) (s : Nat) : Option Xs := match e.getD s .u with
  | .c (.own x) => some x
  | .c (.ro x) => some x
  | .box _ x => some x
  | _ => none
def srcOf (e : Env) : V → Option Xs
  | .all s => content e s
  | .ali s lo n => (match contentB e s with | some x => some (x.cut lo n) | none => none)
  | .c (.s .nils) => some (.ss [])
  | .c (.s (.str l)) => some (.ints .u8 (l.map fun c => (c.toNat : Int)))
  | _ => none
end Go.Proofs.YtnfjggagenmkjaaDoor.AM
