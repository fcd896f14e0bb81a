/- An interpreter over the program's code on plain values, in continuation style: operations and code. -/
import Derived.Test.YtnfjggagenmkjaaDoorAmA
import Derived.Orders
namespace Go.Proofs.YtnfjggagenmkjaaDoor.AM
open Go

section
variable (P : Program) (Γ : Gam) (nn : Nat)

def eqAgg (t : Nat) (x y : Xs) : Option Bool := match P.underlying t, !P.stoodInHeld t && !P.eqGuardType P.depth t with
  | some (.struct fs), true => eqF P fs.toList 0 x.toS y.toS
  | _, _ => none
/-- One cell, of a plain type? -/
def cell1 (t : Nat) : Bool := match P.underlying t, P.info? t with
  | some d, some i => plainDesc d && i.size == 1
  | _, _ => false
def partC (t : Nat) (x : Xs) (off : Nat) : Option C :=
  match cell1 P t, isAggB P t with
  | true, _ => (match x.toS[off]? with | some s => some (.s s) | none => none)
  | false, some true => (match Nat.ble (off + P.cellsOf t) x.toS.length with | true => some (.agg (.ss ((x.toS.drop off).take (P.cellsOf t)))) | false => none)
  | _, _ => none
def Xs.atN : Xs → Nat → (S → Option Out) → Option Out
  | .ints k l, i, K => (l[i]?).bind fun n => K (.int k n)
  | .strs l, i, K => (l[i]?).bind fun s => K (.str s)
  | .ss l, i, K => (l[i]?).bind K
def Xs.splice : Xs → Nat → Nat → Xs → Option Xs
  | .ints k l, lo, m, .ints k' y => if k = k' then some (.ints k (l.take lo ++ y.take m ++ l.drop (lo + m))) else none
  | .strs l, lo, m, .strs y => some (.strs (l.take lo ++ y.take m ++ l.drop (lo + m)))
  | x, _, _, .ss [] => some x
  | _, _, _, _ => none

def S1 : V → Option S
  | .c (.s x) => some x
  | _ => none
def optI (e : Env) : Option Operand → Option (Option Int)
  | none => some none
  | some x => match ev e x with
    | .c (.s (.int _ n)) => some (some n)
    | _ => none
/-- An assignment: a temporary's memory becomes the variable's. -/
def asgK (e : Env) (d : Nat) (v : V) (K : Env → Option Out) : Option Out :=
  match v with
  | .via s off => match e.getD s .u, off, Nat.ble nn s with
    | .box T x, 0, true => K (((kill s (kill d e)).set s .u).set d (.box T x))
    | _, _, _ => (match s == d with | true => none | false => K (put e d v))
  | .all s => match e.getD s .u, Nat.ble nn s, s == d with
    | .c (.own x), true, false => K (((kill s (kill d e)).set s .u).set d (.c (.own x)))
    | .c (.ro x), true, false => K (((kill s (kill d e)).set s .u).set d (.c (.ro x)))
    | _, _, true => K e
    | _, _, false => K (put e d v)
  | .ali s lo n => match e.getD s .u, Nat.ble nn s || s == d with
    | .c (.ro x), true => K (((kill s (kill d e)).set s .u).set d (.c (.ro (x.cut lo n))))
    | .c (.own x), true => (match lo with
      | 0 => K (((kill s (kill d e)).set s .u).set d (.c (.own (x.cut 0 n))))
      | _ + 1 => match s == d with | true => none | false => K (put e d v))
    | _, _ => (match s == d with | true => none | false => K (put e d v))
  | .it _ => none
  | v => K (put e d v)

def buildX (e : Env) (place : Nat → Option (Nat × Nat)) : Xs → List (Nat × Operand) → Option Xs
  | x, [] => some x
  | x, (i, o) :: r => match place i, ev e o with
    | some (off, n), .c c => (match cellsOf c with
      | some l => (match l.length == n && Nat.ble (off + n) x.toS.length with
        | true => (match x.lay off l with | some y => buildX e place y r | none => none)
        | false => none)
      | none => none)
    | _, _ => none

def callK (e : Env) (d : Option Nat) (g : Nat) (vs : List V) (K : Env → Option Out) : Option Out :=
  match vs with
  | .via s 0 :: r => (match e.getD s .u, argCs e r with
    | .box T x, some as => Γ g (some (T, x)) as fun p => match p.2 with
      | some y => K (putO (e.set s (.box T y)) d (ofRes p.1))
      | none => none
    | _, _ => none)
  | vs => match argCs e vs with
    | some as => Γ g none as fun p => K (putO e d (ofRes p.1))
    | none => none

def appendK (e : Env) (d : Option Nat) (y : Xs) (K : Env → Option Out) : V → Option Out
  | .all s => match e.getD s .u with
    | .c (.own x) => (match x.app y with
      | some z => bif decide (z.len ≤ 1099511627776) then K (putO ((kill s e).set s .u) d (.c (.own z))) else none
      | none => none)
    | _ => none
  | .ali s lo n => match e.getD s .u, lo with
    | .c (.own x), 0 => (match (x.cut 0 n).app y with
      | some z => bif decide (z.len ≤ 1099511627776) then K (putO ((kill s e).set s .u) d (.c (.own z))) else none
      | none => none)
    | _, _ => none
  | .c (.s .nils) => bif decide (y.len ≤ 1099511627776) then K (putO e d (.c (.own y))) else none
  | _ => none
def copyK (e : Env) (d : Option Nat) (y : Xs) (K : Env → Option Out) (s lo n : Nat) : Option Out :=
  match e.getD s .u with
  | .c (.own x) => (match x.splice lo (min y.len n) y with
    | some z => K (putO (e.set s (.c (.own z))) d (.c (.s (.int .i64 (min y.len n : Nat)))))
    | none => none)
  | .box T x => (match x.splice lo (min y.len n) y with
    | some z => K (putO (e.set s (.box T z)) d (.c (.s (.int .i64 (min y.len n : Nat)))))
    | none => none)
  | _ => none
def sliceish (t : Nat) : Bool := match P.underlying t with | some (.slice _) => true | some .string => true | _ => false
def lenTy (t : Nat) (v : V) : Bool := match P.underlying t, v with
  | some .string, .c (.s (.str _)) => true
  | some (.slice _), .c (.s (.str _)) => false
  | some (.slice _), _ => true
  | _, _ => false
def lenK (e : Env) (v : V) (K : Nat → Option Out) : Option Out :=
  match v with
  | .c (.s (.str l)) => K l.length
  | .c (.s .nils) => K 0
  | .all s => (match content e s with | some x => K x.len | none => none)
  | .ali _ _ n => K n
  | _ => none

def opK (e : Env) (o : Oper) (K : Env → Option Out) : Option Out :=
  match o.op with
  | .move x => (match x with
    | .tmp t => (match e.getD t .u, o.dst == some t with
      | .tup l, false => (match l.all plainC with
        | true => K (putO e o.dst (.tup l))
        | false => K (putO (e.set t .u) o.dst (.tup l)))
      | _, _ => K (putO e o.dst (ev e x)))
    | _ => K (putO e o.dst (ev e x)))
  | .assign x => (match o.dst with | some d => asgK nn e d (ev e x) K | none => none)
  | .pick c a b => (match ev e c with
    | .c (.s (.bool t)) => bif t then K (putO e o.dst (ev e a)) else K (putO e o.dst (ev e b))
    | _ => none)
  | .binOp op t x y _ => (match ev e x, ev e y with
    | .c (.s (.bool a)), .c (.s (.bool b)) => (match op, P.underlying t with
      | .eql, some .bool => K (putO e o.dst (.c (.s (.bool (a == b)))))
      | .neq, some .bool => K (putO e o.dst (.c (.s (.bool (!(a == b))))))
      | _, _ => none)
    | .c (.s a), .c (.s b) => bop op a b fun r => K (putO e o.dst (.c (.s r)))
    | .c (.agg a), .c (.agg b) => (match op, eqAgg P t a b with
      | .eql, some r => K (putO e o.dst (.c (.s (.bool r))))
      | .neq, some r => K (putO e o.dst (.c (.s (.bool !r))))
      | _, _ => none)
    | _, _ => none)
  | .unOp op _ x => (match ev e x with
    | .c (.s a) => (match uop op a with | some r => K (putO e o.dst (.c (.s r))) | none => none)
    | _ => none)
  | .convert s d x => (match P.underlying s, P.underlying d, ev e x with
    | some _, some (.int k), .c (.s (.int _ n)) => K (putO e o.dst (.c (.s (.int k (k.wrap n)))))
    | some _, some .string, .c (.s (.int _ n)) => K (putO e o.dst (.c (.s (.str (Utf8.encode n).data.toList))))
    | some _, some .string, .c (.s (.str l)) => K (putO e o.dst (.c (.s (.str l))))
    | some _, some (.slice t), .c (.s (.str l)) => (match P.underlying t with
      | some (.int .u8) => K (putO e o.dst (.c (.own (.ints .u8 (l.map fun c => (c.toNat : Int))))))
      | _ => none)
    | some (.slice t), some .string, v => (match P.underlying t, v with
      | some (.int .u8), .all s => (match content e s with
        | some x => (match bytesOf x with | some l => K (putO e o.dst (.c (.s (.str l)))) | none => none)
        | none => none)
      | some (.int .u8), .ali s lo n => (match contentB e s with
        | some x => (match bytesOf (x.cut lo n) with | some l => K (putO e o.dst (.c (.s (.str l)))) | none => none)
        | none => none)
      | some (.int .u8), .c (.s .nils) => K (putO e o.dst (.c (.s (.str []))))
      | _, _ => none)
    | _, _, _ => none)
  | .index t x i => (match P.underlying t, ev e x, ev e i with
    | some .string, .c (.s (.str l)), .c (.s (.int _ i)) => (at? l i).bind fun b => K (putO e o.dst (.c (.s (.int .u8 b.toNat))))
    | some (.array n el), .c (.agg x), .c (.s (.int _ i)) => (match cell1 P el with
      | true => bif decide (i < (n : Int)) then x.atK i fun s => K (putO e o.dst (.c (.s s))) else none
      | false => none)
    | _, _, _ => none)
  | .slice t x lo hi none => (match optI e lo, optI e hi with
    | some lo, some hi => (match P.underlying t, ev e x with
      | some .string, .c (.s (.str l)) => (cut l lo hi).bind fun r => K (putO e o.dst (.c (.s (.str r))))
      | some (.slice el), .all s => (match cell1 P el, content e s with
        | true, some x => (cutN x.len lo hi).bind fun p => K (putO e o.dst (.ali s p.1 p.2))
        | _, _ => none)
      | some (.slice el), .ali s a n => (match cell1 P el with
        | true => (cutN n lo hi).bind fun p => K (putO e o.dst (.ali s (a + p.1) p.2))
        | _ => none)
      | some (.slice el), .c (.s .nils) => (match cell1 P el with
        | true => (cutN 0 lo hi).bind fun _ => K (putO e o.dst (.c (.s .nils)))
        | _ => none)
      | some (.array n el), .via s off => (match cell1 P el, e.getD s .u with
        | true, .box _ y => bif decide (off + n ≤ y.len) then (cutN n lo hi).bind fun p => K (putO e o.dst (.ali s (off + p.1) p.2)) else none
        | _, _ => none)
      | _, _ => none)
    | _, _ => none)
  | .field t x f => (match ev e x, fieldOff P t f with
    | .c (.agg x), some (off, ft) => (match partC P ft x off with | some c => K (putO e o.dst (.c c)) | none => none)
    | _, _ => none)
  | .build t parts => (match P.underlying t, zeroXs P t with
    | some (.struct fs), some z => (match fs.toList.mapM (fun f => (P.info? f.type).map fun i => (f.offset, i.size)) with
      | some places => (match buildX e (fun i => places[i]?) z parts.toList with
        | some x => K (putO e o.dst (.c (.agg x)))
        | none => none)
      | none => none)
    | some (.array _ el), some z => (match P.info? el with
      | some ie => (match buildX e (fun i => some (i * ie.size, ie.size)) z parts.toList with
        | some x => K (putO e o.dst (.c (.agg x)))
        | none => none)
      | none => none)
    | _, _ => none)
  | .buildSlice t n parts => (match elemZ P t, Nat.ble n 65536 with
    | some (_, z), true => (match buildX e (fun i => some (i, 1)) (xsOf z n) parts.toList with
      | some x => K (putO e o.dst (.c (.own x)))
      | none => none)
    | _, _ => none)
  | .alloc t => (match zeroXs P t with
    | some x => K (putO e o.dst (.box t x))
    | none => none)
  | .box t x => (match ev e x with
    | .c (.agg x) => (match x.toS.length == P.cellsOf t with | true => K (putO e o.dst (.box t x)) | false => none)
    | .c (.s s) => (match P.cellsOf t with | 1 => K (putO e o.dst (.box t (.ss [s]))) | _ => none)
    | _ => none)
  | .load t a => (match ev e a with
    | .via s off => (match e.getD s .u, cell1 P t, isAggB P t with
      | .box _ x, true, _ => x.atN off fun s => K (putO e o.dst (.c (.s s)))
      | .c (.own x), true, _ => x.atN off fun s => K (putO e o.dst (.c (.s s)))
      | .c (.ro x), true, _ => x.atN off fun s => K (putO e o.dst (.c (.s s)))
      | .box T x, false, some true => (match T == t, off with
        | true, 0 => K (putO e o.dst (.c (.agg x)))
        | _, _ => (match partC P t x off with | some c => K (putO e o.dst (.c c)) | none => none))
      | _, _, _ => none)
    | _ => none)
  | .store t a v => (match o.dst, ev e a, ev e v with
    | none, .via s off, .c c => (match e.getD s .u, c, cell1 P t with
      | .box T x, .s y, true => (match x.set off y with
        | some z => bif decide (off < x.len) then K (e.set s (.box T z)) else none
        | none => none)
      | .c (.own x), .s y, true => (match x.set off y with
        | some z => bif decide (off < x.len) then K (e.set s (.c (.own z))) else none
        | none => none)
      | .box T x, .agg y, false => (match isAggB P t, y.toS.length == P.cellsOf t with
        | some true, true => (match T == t, off with
          | true, 0 => K (e.set s (.box T y))
          | _, _ => (match Nat.ble (off + y.toS.length) x.toS.length, x.lay off y.toS with
            | true, some z => K (e.set s (.box T z))
            | _, _ => none))
        | _, _ => none)
      | _, _, _ => none)
    | _, _, _ => none)
  | .nilCheck x => (match ev e x with
    | .via s off => K (putO e o.dst (.via s off))
    | _ => none)
  | .fieldAddr t x f => (match ev e x, fieldOff P t f with
    | .via s off, some (fo, _) => K (putO e o.dst (.via s (off + fo)))
    | _, _ => none)
  | .indexAddr t x i => (match P.underlying t, ev e x, ev e i with
    | some (.array n el), .via s off, .c (.s (.int _ i)) => (match cell1 P el with
      | true => bif decide (0 ≤ i) && decide (i < (n : Int)) then K (putO e o.dst (.via s (off + i.toNat))) else none
      | false => none)
    | some (.slice el), .all s, .c (.s (.int _ i)) => (match cell1 P el, content e s with
      | true, some x => bif decide (0 ≤ i) && decide (i < (x.len : Int)) then K (putO e o.dst (.via s i.toNat)) else none
      | _, _ => none)
    | some (.slice el), .ali s lo n, .c (.s (.int _ i)) => (match cell1 P el with
      | true => bif decide (0 ≤ i) && decide (i < (n : Int)) then K (putO e o.dst (.via s (lo + i.toNat))) else none
      | false => none)
    | _, _, _ => none)
  | .range t x => (match P.underlying t, ev e x with
    | some .string, .c (.s (.str l)) => K (putO e o.dst (.iter l 0))
    | _, _ => none)
  | .next x true => (match ev e x with
    | .it s => (match e.getD s .u with
      | .iter l pos => bif decide (pos < l.length) then
          K (putO (e.set s (.iter l (pos + (Utf8.decode ⟨⟨l⟩⟩ pos).2))) o.dst (.tup [.s (.bool true), .s (.int .i64 pos), .s (.int .i32 (Utf8.decode ⟨⟨l⟩⟩ pos).1)]))
        else K (putO e o.dst (.tup [.s (.bool false)]))
      | _ => none)
    | _ => none)
  | .extract (.tmp t) i => (match e.getD t .u with
    | .tup l => (match l[i]?, o.dst == some t with
      | some (.own x), false => K (putO (e.set t (.tup (l.set i .u))) o.dst (.c (.own x)))
      | some (.s x), _ => K (putO e o.dst (.c (.s x)))
      | some (.agg x), _ => K (putO e o.dst (.c (.agg x)))
      | _, _ => none)
    | _ => none)
  | .makeSlice t l c => (match elemZ P t, ev e l, ev e c with
    | some (_, z), .c (.s (.int _ l)), .c (.s (.int _ c)) =>
      bif decide (0 ≤ l) && decide (l ≤ c) && decide (c ≤ 1099511627776) then K (putO e o.dst (.c (.own (xsOf z l.toNat)))) else none
    | _, _, _ => none)
  | .call c => (match c.callee with
    | .value f => (match ev e f with
      | .c (.s (.fn g)) => callK Γ e o.dst g (c.args.toList.map (ev e)) K
      | _ => none)
    | .builtin .len => (match c.args.toList, c.argTypes.toList with
      | [x], [t] => (match lenTy P t (ev e x) with
        | true => lenK e (ev e x) fun n => K (putO e o.dst (.c (.s (.int .i64 n))))
        | false => none)
      | _, _ => none)
    | .builtin .append => (match c.args.toList, c.argTypes.toList with
      | [x, y], [t, u] => (match elemZ P t, sliceish P u, srcOf e (ev e y) with
        | some _, true, some y => appendK e o.dst y K (ev e x)
        | _, _, _ => none)
      | _, _ => none)
    | .builtin .copy => (match c.args.toList, c.argTypes.toList with
      | [x, y], [t, _] => (match elemZ P t, srcOf e (ev e y), ev e x with
        | some _, some y, .all s => (match content e s with | some x => copyK e o.dst y K s 0 x.len | none => none)
        | some _, some y, .ali s lo n => copyK e o.dst y K s lo n
        | _, _, _ => none)
      | _, _ => none)
    | _ => none)
  | _ => none

/-- One operation, behind its guard: where that is not known the way parts, and what is known goes into the guard's slot. -/
def stepK (all : List Oper) (o : Oper) (e : Env) (K : Env → Option Out) : Option Out :=
  match o.guard with
  | none => opK P Γ nn e o K
  | some (j, want) =>
    match (all[j]?).bind (·.dst) with
    | none => none
    | some d => match e.getD d .u with
      | .c (.s (.bool t)) => bif t then
          (match want with
            | true => opK P Γ nn (e.set d (.c (.s (.bool true)))) o K
            | false => K (putO (e.set d (.c (.s (.bool true)))) o.dst (.tup [])))
        else
          (match want with
            | false => opK P Γ nn (e.set d (.c (.s (.bool false)))) o K
            | true => K (putO (e.set d (.c (.s (.bool false)))) o.dst (.tup [])))
      | .tup [] => K (putO e o.dst (.tup []))
      | _ => none
/-- An environment whose slots are looked at ahead of what follows: the kernel carries no thunks on. -/
def forceV (v : V) (K : V → Option Out) : Option Out := match v with
  | .u => K .u
  | .c c => K (.c c)
  | .tup l => K (.tup l)
  | .box T x => K (.box T x)
  | .via s off => K (.via s off)
  | .all s => K (.all s)
  | .ali s lo n => K (.ali s lo n)
  | .iter l pos => K (.iter l pos)
  | .it s => K (.it s)
def forceE : Env → (Env → Option Out) → Option Out
  | [], K => K []
  | v :: e, K => forceV v fun v => forceE e fun e => K (v :: e)
/-- A region's operations, in the text's order. -/
def opsK (all : List Oper) : List Oper → Env → (Env → Option Out) → Option Out
  | [], e, K => K e
  | o :: os, e, K => stepK P Γ nn all o e fun e => forceE e fun e => opsK all os e K

/-- Does an operation leave the memory that was there as it was? -/
def quietE (e : Env) (o : Oper) : Bool := match o.op with
  | .store _ _ _ | .next _ _ => false
  | .call c => (match c.callee with
    | .value _ => (match c.args.toList.map (ev e) with | .via _ _ :: _ => false | _ => true)
    | .builtin .len => true
    | _ => false)
  | _ => true
/-- Is an operation one that only tells? -/
def simpleE (e : Env) (o : Oper) : Bool := match o.op with
  | .move (.tmp t) => (match e.getD t .u with | .tup l => l.all plainC | _ => true)
  | .extract (.tmp t) i => (match e.getD t .u with | .tup l => (match l[i]? with | some (.own _) => false | _ => true) | _ => true)
  | .move _ | .pick _ _ _ | .binOp _ _ _ _ _ | .unOp _ _ _ | .index _ _ _ | .slice _ _ _ _ _ | .field _ _ _ | .build _ _ | .load _ _ | .nilCheck _ | .fieldAddr _ _ _ | .indexAddr _ _ _ => true
  | .convert _ d _ => (match P.underlying d with | some (.slice _) => false | _ => true)
  | .assign x => (match ev e x with | .c _ => true | _ => false)
  | .call c => (match c.callee with | .builtin .len => true | _ => false)
  | _ => false
/-- Does an operation that tells look into memory? -/
def memO (o : Oper) : Bool := match o.op with
  | .load _ _ | .convert _ _ _ | .next _ _ => true
  | _ => false
def simpleS (o : Oper) : Bool := match o.op with
  | .extract _ _ => true
  | .move _ | .pick _ _ _ | .binOp _ _ _ _ _ | .unOp _ _ _ | .index _ _ _ | .slice _ _ _ _ _ | .field _ _ _ | .build _ _ | .load _ _ | .nilCheck _ | .fieldAddr _ _ _ | .indexAddr _ _ _ => true
  | .convert _ d _ => (match P.underlying d with | some (.slice _) => false | _ => true)
  | .call c => (match c.callee with | .builtin .len => true | _ => false)
  | _ => false
/-- What an operation waits for, at once; and by what that waits for. -/
def onsOf (ops : List Oper) (j : Nat) : List Nat := match ops[j]? with
  | some o => o.after.toList.filterMap fun e => match Region.binds .any e with | true => some e.on | false => none
  | none => []
def ancL (ops : List Oper) : Nat → List Nat → List Nat
  | 0, S => S
  | f + 1, S => ancL ops f (S ++ ((S.flatMap (onsOf ops)).eraseDups.filter fun i => !S.contains i))
def calm (o : Oper) : Bool := match o.op with
  | .store _ _ _ | .next _ _ => false
  | .call c => (match c.callee with | .builtin .len | .value _ => true | _ => false)
  | _ => true
/-- An order in which a region that draws may be gone through once: what tells and stands apart from all that may come before it goes first; else there is one operation that may come. -/
def lates (ops : List Oper) : List Nat := ops.filterMap fun o => match o.op with
  | .store _ (.tmp s) _ => (match ops.all fun p => (match p.op with | .load _ _ => true | _ => !memO p) && !(p.dst == some s) with | true => some s | false => none)
  | _ => none
def isLate (D : List Nat) (o : Oper) : Bool := match o.op with
  | .store _ (.tmp s) _ => D.contains s
  | _ => false
def planGo (D : List Nat) (ops : List Oper) : Nat → Array Bool → List Nat → Option (List (Nat × Bool))
  | 0, listed, _ => match Region.ready .any ops.toArray listed with | [] => some [] | _ => none
  | f + 1, listed, mem => match Region.ready .any ops.toArray listed with
    | [] => some []
    | r :: rs => match (r :: rs).find? fun i => (match ops[i]? with | some o => simpleS P o | none => false) && Region.free .any ops.toArray listed i with
      | some i => (match ops[i]? with
        | some o => (match planGo D ops f (listed.setIfInBounds i true) (match memO o with | true => i :: mem | false => mem) with
          | some l => some ((i, true) :: l)
          | none => none)
        | none => none)
      | none => (match rs, ops[r]? with
        | [], some o => (match calm o || isLate D o || (mem.all fun i => (ancL ops ops.length (onsOf ops r)).contains i) with
          | true => (match planGo D ops f (listed.setIfInBounds r true) mem with
            | some l => some ((r, calm o) :: l)
            | none => none)
          | false => none)
        | _, _ => none)
def plan (ops : List Oper) : Option (List Nat × List (Nat × Bool)) := match Region.noSelect ops.toArray with
  | true => (match planGo P [] ops ops.length (Array.replicate ops.length false) [] with
    | some l => some ([], l)
    | none => (match planGo P (lates ops) ops ops.length (Array.replicate ops.length false) [] with
      | some l => some (lates ops, l)
      | none => none))
  | false => none
/-- Where a load looks. -/
def ldSlot (e : Env) (o : Oper) : Option Nat := match o.op with
  | .load _ x => (match ev e x with | .via s _ => some s | _ => none)
  | _ => none
def isBox : V → Bool
  | .box _ _ => true
  | _ => false
/-- Does an operation look past the variables that are stored late? -/
def dOk (D : List Nat) (e : Env) (o : Oper) : Bool := match D, memO o with
  | [], _ => true
  | _, false => true
  | _, true => (match o.op with
    | .load _ x => (match ev e x with
      | .via s _ => !D.contains s && D.all fun d => isBox (e.getD d .u)
      | .tup [] => true
      | _ => false)
    | _ => false)
/-- The operations of a region that draws, in such an order. -/
def drawK (D : List Nat) (all : List Oper) : List (Nat × Bool) → Env → (Env → Option Out) → Option Out
  | [], e, K => K e
  | (i, q) :: l, e, K => match all[i]? with
    | none => none
    | some o => match simpleS P o, simpleE P e o && dOk D e o, q, quietE e o with
      | true, false, _, _ => none
      | _, _, true, false => none
      | _, _, _, _ => stepK P Γ nn all o e fun e => forceE e fun e => drawK D all l e K

def dsts : Code → List Nat
  | .region _ ops _ => ops.toList.flatMap fun o => o.dst.toList
  | .seq a b => dsts a ++ dsts b
  | .cond _ a b => dsts a ++ dsts b
  | .block _ a | .loop a | .scope a => dsts a
  | _ => []
/-- What is left of the slots at a place where ways meet: those that are named, told as the place wants it. -/
inductive Co where
  | k | o (x : Xs) | a
def findCo : List (Nat × Co) → Nat → Option Co
  | [], _ => none
  | (j, c) :: l, i => match Nat.beq j i with | true => some c | false => findCo l i
def keepOk (lv : List (Nat × Co)) : V → Bool
  | .via s _ | .all s | .ali s _ _ | .it s => (findCo lv s).isSome
  | _ => true
def coV (e : Env) : Co → V → V
  | .o x, .c (.s .nils) => (match x.len with | 0 => .c (.own x) | _ + 1 => .u)
  | .a, .all s => (match content e s with | some x => .ali s 0 x.len | none => .u)
  | _, v => v
def keepV (lv : List (Nat × Co)) (e : Env) (i : Nat) (v : V) : V := match findCo lv i, keepOk lv v with
  | some c, true => coV e c v
  | _, _ => .u
def keepFrom (lv : List (Nat × Co)) (e0 : Env) : Nat → Env → Env
  | _, [] => []
  | i, v :: e => keepV lv e0 i v :: keepFrom lv e0 (i + 1) e
def trim (lv : Option (List (Nat × Co))) (e : Env) : Env := match lv with | some l => keepFrom l e 0 e | none => e
/-- A name for the place ahead of a piece of code: its first region, and how deep that lies. -/
def up (m n : Nat) : Nat := match m with
  | 0 => (match n with | 0 => 0 | _ + 1 => n + 1)
  | _ + 1 => m + 1
def hid : Code → Nat
  | .region id _ _ => 64 * (id + 1)
  | .seq a b => up (hid a) (hid b)
  | .cond _ a b => up (hid a) (hid b)
  | .block _ a => up (hid a) 0
  | .loop a => up (hid a) 0
  | .scope a => up (hid a) 0
  | _ => 0

def hasLabel (l : Nat) : Code → Bool
  | .seq a b => hasLabel l a || hasLabel l b
  | .label l' => l' == l
  | _ => false

section
variable (Cut : Nat → Env → (Env → Option Out) → Option Out)
/-- A place where ways meet. -/
def atCut (lv : Option (List (Nat × Co))) (key : Nat) (e : Env) (t : Env → Option Out) : Option Out := match lv with
  | some l => Cut key (keepFrom l e 0 e) t
  | none => t e
def loopK (body : Env → (Exit → Env → Option Out) → Option Out) (lv : Option (List (Nat × Co))) (key : Nat) : Nat → Env → (Exit → Env → Option Out) → Option Out
  | 0, _, _ => none
  | k + 1, e, K => body e fun x e' => match x with
    | .normal => atCut Cut lv key e' fun e => loopK body lv key k e K
    | x => K x e'
def againK (fromL : Nat → Env → (Exit → Env → Option Out) → Option Out) (has : Nat → Bool) (K : Exit → Env → Option Out) : Nat → Nat → Env → Option Out
  | 0, _, _ => none
  | j + 1, l, e => fromL l e fun x e' => match x with
    | .goto l' => (match has l' with
      | true => Cut (3000000 + l') e' fun e => againK fromL has K j l' e
      | false => K (.goto l') e')
    | x => K x e'
def handK (fromL : Nat → Env → (Exit → Env → Option Out) → Option Out) (has : Nat → Bool) (K : Exit → Env → Option Out) (j : Nat) (x : Exit) (e : Env) : Option Out := match x with
  | .goto l' => (match has l' with
    | true => Cut (3000000 + l') e fun e => againK Cut fromL has K j l' e
    | false => K (.goto l') e)
  | x => K x e
end

variable (Lv : Nat → Option (List (Nat × Co))) (Cut : Nat → Env → (Env → Option Out) → Option Out)
mutual
def execK (k : Nat) : Code → Env → (Exit → Env → Option Out) → Option Out
  | .skip, e, K => K .normal e
  | .label _, e, K => K .normal e
  | .region _ ops false, e, K => forceE e fun e => opsK P Γ nn ops.toList ops.toList e (K .normal)
  | .region _ ops true, e, K => match plan P ops.toList with
    | some (D, l) => forceE e fun e => drawK P Γ nn D ops.toList l e (K .normal)
    | none => none
  | .seq a b, e, K => execK k a e fun x e' => match x with | .normal => atCut Cut (Lv (hid b)) (hid b) e' fun e => execK k b e K | x => K x e'
  | .cond c a b, e, K => match ev e c with
    | .c (.s (.bool t)) => bif t then execK k a e K else execK k b e K
    | _ => none
  | .block id a, e, K => execK k a e fun x e' => match x with
    | .exit id' => (match id' == id with | true => K .normal e' | false => K (.exit id') e')
    | x => K x e'
  | .exit id, e, K => K (.exit id) e
  | .goto l, e, K => K (.goto l) (trim (Lv (3000000 + l)) e)
  | .ret, e, K => K .ret e
  | .loop a, e, K => atCut Cut (Lv (1000000 + hid (.loop a))) (1000000 + hid (.loop a)) e fun e => loopK Cut (fun e K => execK k a e K) (Lv (1000000 + hid (.loop a))) (1000000 + hid (.loop a)) k e K
  | .scope a, e, K => execK k a e (handK Cut (fun l e K => fromK k l a e K) (fun l => hasLabel l a) K k)
  | _, _, _ => none
def fromK (k : Nat) (l : Nat) : Code → Env → (Exit → Env → Option Out) → Option Out
  | .seq a b, e, K => match hasLabel l a with
    | true => fromK k l a e fun x e' => match x with | .normal => atCut Cut (Lv (hid b)) (hid b) e' fun e => execK k b e K | x => K x e'
    | false => fromK k l b e K
  | .label _, e, K => K .normal e
  | _, _, _ => none
end
/-- What follows a place in the code. -/
def kontK (k : Nat) : Code → List Nat → (Exit → Env → Option Out) → Exit → Env → Option Out
  | .seq a b, 0 :: p, K => kontK k a p fun x e' => match x with | .normal => atCut Cut (Lv (hid b)) (hid b) e' fun e => execK P Γ nn Lv Cut k b e K | x => K x e'
  | .seq _ b, _ :: p, K => kontK k b p K
  | .cond _ a _, 0 :: p, K => kontK k a p K
  | .cond _ _ b, _ :: p, K => kontK k b p K
  | .block id a, _ :: p, K => kontK k a p fun x e' => match x with
    | .exit id' => (match id' == id with | true => K .normal e' | false => K (.exit id') e')
    | x => K x e'
  | .loop a, j :: p, K => kontK k a p fun x e' => match x with
    | .normal => atCut Cut (Lv (1000000 + hid (.loop a))) (1000000 + hid (.loop a)) e' fun e => loopK Cut (fun e K => execK P Γ nn Lv Cut k a e K) (Lv (1000000 + hid (.loop a))) (1000000 + hid (.loop a)) j e K
    | x => K x e'
  | .scope a, j :: p, K => kontK k a p (handK Cut (fun l e K => fromK P Γ nn Lv Cut k l a e K) (fun l => hasLabel l a) K j)
  | _, _, K => K
/-- The code at a place; the loop at it. -/
def subAt : Code → List Nat → Code
  | .seq a _, 0 :: p => subAt a p
  | .seq _ b, _ :: p => subAt b p
  | .cond _ a _, 0 :: p => subAt a p
  | .cond _ _ b, _ :: p => subAt b p
  | .block _ a, _ :: p => subAt a p
  | .loop a, _ :: p => subAt a p
  | .scope a, _ :: p => subAt a p
  | c, _ => c
def bodyOf : Code → Code
  | .loop a => a
  | .scope a => a
  | c => c
def atK (k : Nat) (c : Code) (p : List Nat) (e : Env) (K : Exit → Env → Option Out) : Option Out := execK P Γ nn Lv Cut k (subAt c p) e (kontK P Γ nn Lv Cut k c p K)
def headK (k j : Nat) (c : Code) (p : List Nat) (e : Env) (K : Exit → Env → Option Out) : Option Out :=
  loopK Cut (fun e K => execK P Γ nn Lv Cut k (bodyOf (subAt c p)) e K) (Lv (1000000 + hid (subAt c p))) (1000000 + hid (subAt c p)) j e (kontK P Γ nn Lv Cut k c p K)
def jumpK (k j l : Nat) (c : Code) (p : List Nat) (e : Env) (K : Exit → Env → Option Out) : Option Out :=
  againK Cut (fun l e K => fromK P Γ nn Lv Cut k l (bodyOf (subAt c p)) e K) (fun l => hasLabel l (bodyOf (subAt c p))) (kontK P Γ nn Lv Cut k c p K) j l e

/-- What a function's slots tell at its end. -/
def outC (e : Env) (rt : Nat) : ResultVar → Option C
  | .tmp t => match e.getD t .u with
    | .c (.s .nils) => (match elemZ P rt with | some (_, z) => some (.own (xsOf z 0)) | none => none)
    | .c (.s x) => some (.s x)
    | .c (.agg x) => some (.agg x)
    | .c (.own x) => some (.own x)
    | .all s => (match e.getD s .u with | .c (.own x) => some (.own x) | _ => none)
    | _ => none
  | .cell a t => match rd e a with
    | .via s 0 => (match e.getD s .u, isAggB P t with | .box T x, some true => (match T == t with | true => some (.agg x) | false => none) | _, _ => none)
    | _ => none
def outCs (e : Env) : List Nat → List ResultVar → Option (List C)
  | t :: ts, r :: rs => match outC P e t r, outCs e ts rs with
    | some c, some l => some (c :: l)
    | _, _ => none
  | _, [] => some []
  | _, _ => none
/-- The slots whose memory is handed back. -/
def outS (e : Env) : ResultVar → List Nat
  | .tmp t => match e.getD t .u with
    | .c (.own _) => [t]
    | .all s => [s]
    | _ => []
  | .cell _ _ => []
def apartB : List Nat → Bool
  | [] => true
  | x :: l => !l.contains x && apartB l
/-- How a function ends: its results, and what its receiver's cells hold. -/
def fin (fn : Func) (recv : Option Nat) (K : Out → Option Out) : Exit → Env → Option Out
  | .ret, e | .normal, e => match apartB (fn.results.toList.flatMap (outS e)), outCs P e fn.resultTypes.toList fn.results.toList, recv, e.getD 0 .u with
    | true, some l, some T, .box T' x => (match T == T' with | true => K (l, some x) | false => none)
    | true, some l, none, _ => K (l, none)
    | _, _, _, _ => none
  | _, _ => none
/-- A function run on its arguments. -/
def argV : C → V
  | c => .c c
def preV : Option (Nat × Xs) → List V
  | some (T, x) => [.box T x]
  | none => []
def startE (fn : Func) (rc : Option (Nat × Xs)) (as : List C) : Env := preV rc ++ as.map argV ++ List.replicate (fn.ntmps - as.length - (preV rc).length) .u
def runK (k : Nat) (fn : Func) (rc : Option (Nat × Xs)) (as : List C) (K : Out → Option Out) : Option Out :=
  match fn.body with
  | some c => (match rc with
    | none => execK P Γ nn Lv Cut k c (startE fn none as) (fin P fn none K)
    | some q => (match (dsts c).contains 0 with
      | true => none
      | false => execK P Γ nn Lv Cut k c (startE fn (some q) as) (fin P fn (some q.1) K)))
  | none => none
end
end Go.Proofs.YtnfjggagenmkjaaDoor.AM
