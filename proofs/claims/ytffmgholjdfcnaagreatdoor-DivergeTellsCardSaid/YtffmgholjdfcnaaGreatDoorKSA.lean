import Derived.Calls
import Derived.KernelRfl
import Derived.Orders
import Derived.Below
import Derived.Laws.Entries
import Derived.Laws.Strings
import Derived.WalkKit
import Derived.Lib.Strings
import Derived.Laws.StructEq
import Derived.Laws.Strings2
import Derived.Laws.Slices
import Derived.Laws.BytesString
import Derived.Laws.Cells
import Derived.Laws.Tables
import Derived.Laws.CopyRow
import Derived.Lib.ConvBytes
import Derived.Laws.RangeString
import Derived.Laws.Append
import Derived.Deep.LoopGhost
import Derived.Scope
import Derived.Sort.Grow
import Derived.Deep.Draws
namespace Go.Proofs.YtffmgholjdfcnaaGreatDoor.AM
open Go
inductive S where
 | int (k:IntKind) (n:Int) | bool (b:Bool) | str (l:List UInt8) | fn (f:Nat) | nils
inductive Xs where
 | ints (k:IntKind) (l:List Int) | strs (l:List (List UInt8)) | ss (l:List S)
inductive C where
 | u | s (x:S) | agg (x:Xs) | own (x:Xs) | ro (x:Xs)
abbrev Out:=List C × Option Xs
inductive V where
 | u | c (x:C) | tup (l:List C) | box (T:Nat) (x:Xs) | via (s off:Nat) | all (s:Nat) | ali (s lo n:Nat) | iter (l:List UInt8) (pos:Nat) | it (s:Nat)
abbrev Env:=List V
def S.enc:S→Value
 | .int k n=>.int k n
 | .bool b=>.bool b
 | .str l=>.string ⟨⟨l⟩⟩
 | .fn f=>.func (.func f) #[] #[]
 | .nils=>.slice none 0 0
def Xs.toS:Xs→List S
 | .ints k l=>l.map (S.int k)
 | .strs l=>l.map S.str
 | .ss l=>l
def Xs.enc (x:Xs):List Value:=x.toS.map S.enc
def Xs.len:Xs→Nat
 | .ints _ l=>l.length
 | .strs l=>l.length
 | .ss l=>l.length
def ofConst:Value→V
 | .int k n=>.c (.s (.int k n))
 | .bool b=>.c (.s (.bool b))
 | .string s=>.c (.s (.str s.data.toList))
 | .slice none 0 0=>.c (.s .nils)
 | _=>.u
def plainC:C→Bool
 | .own _=>false
 | _=>true
def rd (e:Env) (t:Nat):V:=
 match e.getD t .u with
 | .box _ _=>.via t 0
 | .c (.own _)=>.all t
 | .c (.ro _)=>.all t
 | .iter _ _=>.it t
 | .tup l=>(match l.all plainC with | true=>.tup l | false=>.u)
 | v=>v
def ev (e:Env):Operand→V
 | .tmp t=>rd e t
 | .const v=>ofConst v
 | .func f=>.c (.s (.fn f))
 | .global _=>.u
def owner:V→Bool
 | .box _ _ | .iter _ _ | .c (.own _) | .c (.ro _)=>true
 | _=>false
def aliasOf (d:Nat):V→Bool
 | .via s _ | .all s | .ali s _ _ | .it s=>s==d
 | _=>false
def noSelf (d:Nat) (v:V):V:=match aliasOf d v with | true=>.u | false=>v
def kill (d:Nat) (e:Env):Env:=e.map (noSelf d)
def put (e:Env) (d:Nat) (v:V):Env:=match owner (e.getD d .u) with | true=>(kill d e).set d (noSelf d v) | false=>e.set d (noSelf d v)
def putO (e:Env) (d:Option Nat) (v:V):Env:=match d with | some d=>put e d v | none=>e
def at? {α:Type} (l:List α) (i:Int):Option α:=if 0≤i then l[i.toNat]? else none
def Xs.atK:Xs→Int→(S→Option Out)→Option Out
 | .ints k l,i,K=>(at? l i).bind fun n=>K (.int k n)
 | .strs l,i,K=>(at? l i).bind fun s=>K (.str s)
 | .ss l,i,K=>(at? l i).bind K
def Xs.set:Xs→Nat→S→Option Xs
 | .ints k l,i,.int k' n=>if k=k' then some (.ints k (l.set i n)) else none
 | .strs l,i,.str s=>some (.strs (l.set i s))
 | .ss l,i,s=>some (.ss (l.set i s))
 | _,_,_=>none
def Xs.cut:Xs→Nat→Nat→Xs
 | .ints k l,lo,n=>.ints k ((l.drop lo).take n)
 | .strs l,lo,n=>.strs ((l.drop lo).take n)
 | .ss l,lo,n=>.ss ((l.drop lo).take n)
def Xs.app:Xs→Xs→Option Xs
 | .ints k l,.ints k' m=>if k=k' then some (.ints k (l++m)) else none
 | .strs l,.strs m=>some (.strs (l++m))
 | .ss [],x=>some x
 | x,.ss []=>some x
 | .ss l,.ss m=>some (.ss (l++m))
 | _,_=>none
def Xs.lay:Xs→Nat→List S→Option Xs
 | x,_,[]=>some x
 | x,i,s :: r=>(x.set i s).bind fun y=>y.lay (i+1) r
def cut (l:List UInt8) (lo hi:Option Int):Option (List UInt8):=
 if 0≤lo.getD 0∧lo.getD 0≤hi.getD l.length∧hi.getD l.length≤l.length then some ((l.take (hi.getD l.length).toNat).drop (lo.getD 0).toNat) else none
def cutN (n:Nat) (lo hi:Option Int):Option (Nat × Nat):=
 if 0≤lo.getD 0∧lo.getD 0≤hi.getD n∧hi.getD n≤n then some ((lo.getD 0).toNat,(hi.getD n).toNat - (lo.getD 0).toNat) else none
def cut1 (lo:Option Int) (p:Nat × Nat):Nat:=match lo with | none=>0 | some _=>p.1
def cat (a b:List UInt8):Option (List UInt8):=if a.length+b.length≤4611686018427387904 then some (a++b) else none
def bopI (op:BinOp) (k:IntKind) (x y:Int) (K:S→Option Out):Option Out:=
 match op with
 | .add=>K (.int k (k.wrap (x+y)))
 | .sub=>K (.int k (k.wrap (x - y)))
 | .mul=>K (.int k (k.wrap (x * y)))
 | .quo=>bif y==0 then none else K (.int k (k.wrap (x.tdiv y)))
 | .rem=>bif y==0 then none else K (.int k (x.tmod y))
 | .and=>K (.int k (k.wrap (BitVec.ofInt k.bits x &&& BitVec.ofInt k.bits y).toNat))
 | .or=>K (.int k (k.wrap (BitVec.ofInt k.bits x ||| BitVec.ofInt k.bits y).toNat))
 | .xor=>K (.int k (k.wrap (BitVec.ofInt k.bits x ^^^ BitVec.ofInt k.bits y).toNat))
 | .eql=>K (.bool (x==y))
 | .neq=>K (.bool (x != y))
 | .lss=>K (.bool (decide (x<y)))
 | .leq=>K (.bool (decide (x≤y)))
 | .gtr=>K (.bool (decide (x > y)))
 | .geq=>K (.bool (decide (x ≥ y)))
 | _=>none
def shift (op:BinOp) (k:IntKind) (x y:Int) (K:S→Option Out):Option Out:=
 bif decide (y<0) then none else
 match op with
 | .shl=>K (.int k (k.wrap (x * 2 ^ (min y.toNat k.bits))))
 | .shr=>K (.int k (x.fdiv (2 ^ (min y.toNat k.bits))))
 | _=>none
def bop (op:BinOp) (a b:S) (K:S→Option Out):Option Out:=
 match op,a,b with
 | .shl,.int k a,.int _ b=>shift .shl k a b K
 | .shr,.int k a,.int _ b=>shift .shr k a b K
 | op,.int k a,.int k' b=>if k=k' then bopI op k a b K else none
 | .add,.str a,.str b=>(cat a b).bind fun l=>K (.str l)
 | .eql,.str a,.str b=>K (.bool (a==b))
 | .neq,.str a,.str b=>K (.bool (!(a==b)))
 | .lss,.str a,.str b=>K (.bool (Op.bytesLess a b))
 | .gtr,.str a,.str b=>K (.bool (!(Op.bytesLess a b || a==b)))
 | _,_,_=>none
def uop (op:UnOp) (a:S):Option S:=
 match op,a with
 | .not,.bool b=>some (.bool !b)
 | .neg,.int k n=>some (.int k (k.wrap (0 - n)))
 | _,_=>none
section types
variable (P:Program)
def plainDesc:TypeDesc→Bool
 | .int _ | .bool | .string=>true
 | _=>false
def eqT:Option TypeDesc→S→S→Option Bool
 | some (.int _),.int k a,.int k' b=>if k=k' then some (a==b) else none
 | some .bool,.bool a,.bool b=>some (a==b)
 | some .string,.str a,.str b=>some (a==b)
 | _,_,_=>none
def eqF:List Field→Nat→List S→List S→Option Bool
 | [],_,[],[]=>some true
 | f :: fs,i,a :: x,b :: y=>match f.offset==i&&f.name != "_",eqT (P.underlying f.type) a b,eqF fs (i+1) x y with
  | true,some p,some q=>some (p&&q)
  | _,_,_=>none
 | _,_,_,_=>none
def isAggB (t:Nat):Option Bool:=match P.underlying t with | some (.struct _)=>some true | some (.array _ _)=>some true | some _=>some false | none=>none
def eqV:Value→S→Bool
 | .int k n,.int k' m=>k==k'&&n==m
 | .bool a,.bool b=>a==b
 | .string a,.str l=>a.data.toList==l
 | .slice none 0 0,.nils=>true
 | _,_=>false
def eqVs:List Value→List S→Bool
 | [],[]=>true
 | v :: r,s :: q=>eqV v s&&eqVs r q
 | _,_=>false
def ofCell:Value→S
 | .int k n=>.int k n
 | .bool b=>.bool b
 | .string s=>.str s.data.toList
 | _=>.nils
def zeroXs (t:Nat):Option Xs:=
 match P.info? t with
 | some i=>match i.zero with
  | some z =>
   let x:Xs:=match i.desc with
    | .array n e=>match P.underlying e with
     | some (.int k)=>.ints k (List.replicate n 0)
     | some .string=>.strs (List.replicate n [])
     | _=>.ss (z.cells.toList.map ofCell)
    | .named _ e=>(match P.underlying e with
     | some (.array n e)=>(match P.underlying e with
      | some (.int k)=>.ints k (List.replicate n 0)
      | some .string=>.strs (List.replicate n [])
      | _=>.ss (z.cells.toList.map ofCell))
     | _=>.ss (z.cells.toList.map ofCell))
    | _=>.ss (z.cells.toList.map ofCell)
   match eqVs z.cells.toList x.toS&&i.size==x.len&&!(i.desc matches .tuple _) with
   | true=>some x
   | false=>none
  | none=>none
 | none=>none
def elemZ (t:Nat):Option (Nat × S):=
 match P.underlying t with
 | some (.slice e)=>match P.underlying e,P.info? e with
  | some (.int k),some i=>if i.size=1∧i.bytes≤16 then (match i.zero with | some (.int k' 0)=>if k=k' then some (e,.int k 0) else none | _=>none) else none
  | some .string,some i=>if i.size=1∧i.bytes≤16 then (match i.zero with | some (.string ⟨⟨[]⟩⟩)=>some (e,.str []) | _=>none) else none
  | _,_=>none
 | _=>none
def fieldOff (t f:Nat):Option (Nat × Nat):=match P.underlying t with | some (.struct fs)=>(match fs[f]? with | some x=>(match P.cellsOf x.type with | 0=>none | _+1=>some (x.offset,x.type)) | none=>none) | _=>none
end types
def xsOf:S→Nat→Xs
 | .int k n,m=>.ints k (List.replicate m n)
 | .str s,m=>.strs (List.replicate m s)
 | s,m=>.ss (List.replicate m s)
def cellsOf:C→Option (List S)
 | .s x=>some [x]
 | .agg x=>some x.toS
 | _=>none
def bytesOf:Xs→Option (List UInt8)
 | .ints .u8 l=>some (l.map fun n=>UInt8.ofNat n.toNat)
 | .ss []=>some []
 | _=>none
def argC (e:Env):V→Option C
 | .c (.s x)=>some (.s x)
 | .c (.agg x)=>some (.agg x)
 | .all s=>match e.getD s .u with
  | .c (.own x)=>some (.ro x)
  | .c (.ro x)=>some (.ro x)
  | _=>none
 | .ali s lo n=>match e.getD s .u with
  | .c (.own x)=>some (.ro (x.cut lo n))
  | .c (.ro x)=>some (.ro (x.cut lo n))
  | _=>none
 | _=>none
def argCs (e:Env):List V→Option (List C)
 | []=>some []
 | v :: r=>match argC e v,argCs e r with
  | some c,some l=>some (c :: l)
  | _,_=>none
def ofRes:List C→V
 | []=>.u
 | [c]=>.c c
 | l=>.tup l
def resOk:C→Bool
 | .s _ | .agg _ | .own _=>true
 | _=>false
abbrev Gam:=Nat→Option (Nat × Xs)→List C→(Out→Option Out)→Option Out
def content (e:Env) (s:Nat):Option Xs:=match e.getD s .u with
 | .c (.own x)=>some x
 | .c (.ro x)=>some x
 | _=>none
def contentB (e:Env) (s:Nat):Option Xs:=match e.getD s .u with
 | .c (.own x)=>some x
 | .c (.ro x)=>some x
 | .box _ x=>some x
 | _=>none
def srcOf (e:Env):V→Option Xs
 | .all s=>content e s
 | .ali s lo n=>(match contentB e s with | some x=>some (x.cut lo n) | none=>none)
 | .c (.s .nils)=>some (.ss [])
 | .c (.s (.str l))=>some (.ints .u8 (l.map fun c=>(c.toNat:Int)))
 | _=>none
end Go.Proofs.YtffmgholjdfcnaaGreatDoor.AM
namespace Go.Proofs.YtffmgholjdfcnaaGreatDoor.AM
open Go
section
variable (P:Program) (Γ:Gam) (nn:Nat)
def eqAgg (t:Nat) (x y:Xs):Option Bool:=match P.underlying t,!P.stoodInHeld t&&!P.eqGuardType P.depth t with
 | some (.struct fs),true=>eqF P fs.toList 0 x.toS y.toS
 | _,_=>none
def cell1 (t:Nat):Bool:=match P.underlying t,P.info? t with
 | some d,some i=>plainDesc d&&i.size==1
 | _,_=>false
def partC (t:Nat) (x:Xs) (off:Nat):Option C:=
 match cell1 P t,isAggB P t with
 | true,_=>(match x.toS[off]? with | some s=>some (.s s) | none=>none)
 | false,some true=>(match Nat.ble (off+P.cellsOf t) x.toS.length with | true=>some (.agg (.ss ((x.toS.drop off).take (P.cellsOf t)))) | false=>none)
 | _,_=>none
def Xs.atN:Xs→Nat→(S→Option Out)→Option Out
 | .ints k l,i,K=>(l[i]?).bind fun n=>K (.int k n)
 | .strs l,i,K=>(l[i]?).bind fun s=>K (.str s)
 | .ss l,i,K=>(l[i]?).bind K
def Xs.splice:Xs→Nat→Nat→Xs→Option Xs
 | .ints k l,lo,m,.ints k' y=>if k=k' then some (.ints k (l.take lo++y.take m++l.drop (lo+m))) else none
 | .strs l,lo,m,.strs y=>some (.strs (l.take lo++y.take m++l.drop (lo+m)))
 | x,_,_,.ss []=>some x
 | _,_,_,_=>none
def optI (e:Env):Option Operand→Option (Option Int)
 | none=>some none
 | some x=>match ev e x with
  | .c (.s (.int _ n))=>some (some n)
  | _=>none
def asgK (e:Env) (d:Nat) (v:V) (K:Env→Option Out):Option Out:=
 match v with
 | .via s off=>match e.getD s .u,off,Nat.ble nn s with
  | .box T x,0,true=>K (((kill s (kill d e)).set s .u).set d (.box T x))
  | _,_,_=>(match s==d with | true=>none | false=>K (put e d v))
 | .all s=>match e.getD s .u,Nat.ble nn s,s==d with
  | .c (.own x),true,false=>K (((kill s (kill d e)).set s .u).set d (.c (.own x)))
  | .c (.ro x),true,false=>K (((kill s (kill d e)).set s .u).set d (.c (.ro x)))
  | _,_,true=>K e
  | _,_,false=>K (put e d v)
 | .ali s lo n=>match e.getD s .u,Nat.ble nn s || s==d with
  | .c (.ro x),true=>K (((kill s (kill d e)).set s .u).set d (.c (.ro (x.cut lo n))))
  | .c (.own x),true=>(match lo with
   | 0=>K (((kill s (kill d e)).set s .u).set d (.c (.own (x.cut 0 n))))
   | _+1=>match s==d with | true=>none | false=>K (put e d v))
  | _,_=>(match s==d with | true=>none | false=>K (put e d v))
 | .it _=>none
 | v=>K (put e d v)
def buildX (e:Env) (place:Nat→Option (Nat × Nat)):Xs→List (Nat × Operand)→Option Xs
 | x,[]=>some x
 | x,(i,o) :: r=>match place i,ev e o with
  | some (off,n),.c c=>(match cellsOf c with
   | some l=>(match l.length==n&&Nat.ble (off+n) x.toS.length with
    | true=>(match x.lay off l with | some y=>buildX e place y r | none=>none)
    | false=>none)
   | none=>none)
  | _,_=>none
def callP (e:Env) (d:Option Nat) (g:Nat) (vs:List V) (K:Env→Option Out):Option Out:=
 match argCs e vs with
 | some as=>Γ g none as fun p=>K (putO e d (ofRes p.1))
 | none=>none
def callO (e:Env) (d:Option Nat) (g s lo n T:Nat) (x:Xs) (r:List V) (K:Env→Option Out):Option Out:=
 match lo with
 | 0=>(match argCs e r with
  | some as=>Γ g none (.own (x.cut 0 n) :: as) fun p=>match p.2 with
   | none=>K (putO ((kill s e).set s .u) d (ofRes p.1))
   | some y=>(match x.splice 0 n y with
    | some z=>K (putO (e.set s (.box T z)) d (ofRes p.1))
    | none=>none)
  | none=>none)
 | _+1=>none
def callK (e:Env) (d:Option Nat) (g:Nat) (vs:List V) (K:Env→Option Out):Option Out:=
 match vs with
 | .via s 0 :: r=>(match e.getD s .u,argCs e r with
  | .box T x,some as=>Γ g (some (T,x)) as fun p=>match p.2 with
   | some y=>K (putO (e.set s (.box T y)) d (ofRes p.1))
   | none=>none
  | _,_=>none)
 | .ali s lo n :: r=>(match e.getD s .u with
  | .box T x=>callO Γ e d g s lo n T x r K
  | _=>callP Γ e d g vs K)
 | vs=>callP Γ e d g vs K
def appendK (e:Env) (d:Option Nat) (y:Xs) (K:Env→Option Out):V→Option Out
 | .all s=>match e.getD s .u with
  | .c (.own x)=>(match x.app y with
   | some z=>bif decide (z.len≤1099511627776) then K (putO ((kill s e).set s .u) d (.c (.own z))) else none
   | none=>none)
  | _=>none
 | .ali s lo n=>match e.getD s .u,lo with
  | .c (.own x),0=>(match (x.cut 0 n).app y with
   | some z=>bif decide (z.len≤1099511627776) then K (putO ((kill s e).set s .u) d (.c (.own z))) else none
   | none=>none)
  | _,_=>none
 | .c (.s .nils)=>bif decide (y.len≤1099511627776) then K (putO e d (.c (.own y))) else none
 | _=>none
def copyK (e:Env) (d:Option Nat) (y:Xs) (K:Env→Option Out) (s lo n:Nat):Option Out:=
 match e.getD s .u with
 | .c (.own x)=>(match x.splice lo (min y.len n) y with
  | some z=>K (putO (e.set s (.c (.own z))) d (.c (.s (.int .i64 (min y.len n:Nat)))))
  | none=>none)
 | .box T x=>(match x.splice lo (min y.len n) y with
  | some z=>K (putO (e.set s (.box T z)) d (.c (.s (.int .i64 (min y.len n:Nat)))))
  | none=>none)
 | _=>none
def sliceish (t:Nat):Bool:=match P.underlying t with | some (.slice _)=>true | some .string=>true | _=>false
def lenTy (t:Nat) (v:V):Bool:=match P.underlying t,v with
 | some .string,.c (.s (.str _))=>true
 | some (.slice _),.c (.s (.str _))=>false
 | some (.slice _),_=>true
 | _,_=>false
def lenK (e:Env) (v:V) (K:Nat→Option Out):Option Out:=
 match v with
 | .c (.s (.str l))=>K l.length
 | .c (.s .nils)=>K 0
 | .all s=>(match content e s with | some x=>K x.len | none=>none)
 | .ali _ _ n=>K n
 | _=>none
def opK (e:Env) (o:Oper) (K:Env→Option Out):Option Out:=
 match o.op with
 | .move x=>(match x with
  | .tmp t=>(match e.getD t .u,o.dst==some t with
   | .tup l,false=>(match l.all plainC with
    | true=>K (putO e o.dst (.tup l))
    | false=>K (putO (e.set t .u) o.dst (.tup l)))
   | _,_=>K (putO e o.dst (ev e x)))
  | _=>K (putO e o.dst (ev e x)))
 | .assign x=>(match o.dst with | some d=>asgK nn e d (ev e x) K | none=>none)
 | .pick c a b=>(match ev e c with
  | .c (.s (.bool t))=>bif t then K (putO e o.dst (ev e a)) else K (putO e o.dst (ev e b))
  | _=>none)
 | .binOp op t x y _=>(match ev e x,ev e y with
  | .c (.s (.bool a)),.c (.s (.bool b))=>(match op,P.underlying t with
   | .eql,some .bool=>K (putO e o.dst (.c (.s (.bool (a==b)))))
   | .neq,some .bool=>K (putO e o.dst (.c (.s (.bool (!(a==b))))))
   | _,_=>none)
  | .c (.s a),.c (.s b)=>bop op a b fun r=>K (putO e o.dst (.c (.s r)))
  | .c (.agg a),.c (.agg b)=>(match op,eqAgg P t a b with
   | .eql,some r=>K (putO e o.dst (.c (.s (.bool r))))
   | .neq,some r=>K (putO e o.dst (.c (.s (.bool !r))))
   | _,_=>none)
  | _,_=>none)
 | .unOp op _ x=>(match ev e x with
  | .c (.s a)=>(match uop op a with | some r=>K (putO e o.dst (.c (.s r))) | none=>none)
  | _=>none)
 | .convert s d x=>(match P.underlying s,P.underlying d,ev e x with
  | some _,some (.int k),.c (.s (.int _ n))=>K (putO e o.dst (.c (.s (.int k (k.wrap n)))))
  | some _,some .string,.c (.s (.int _ n))=>K (putO e o.dst (.c (.s (.str (Utf8.encode n).data.toList))))
  | some _,some .string,.c (.s (.str l))=>K (putO e o.dst (.c (.s (.str l))))
  | some _,some (.slice t),.c (.s (.str l))=>(match P.underlying t with
   | some (.int .u8)=>K (putO e o.dst (.c (.own (.ints .u8 (l.map fun c=>(c.toNat:Int))))))
   | _=>none)
  | some (.slice t),some .string,v=>(match P.underlying t,v with
   | some (.int .u8),.all s=>(match content e s with
    | some x=>(match bytesOf x with | some l=>K (putO e o.dst (.c (.s (.str l)))) | none=>none)
    | none=>none)
   | some (.int .u8),.ali s lo n=>(match contentB e s with
    | some x=>(match bytesOf (x.cut lo n) with | some l=>K (putO e o.dst (.c (.s (.str l)))) | none=>none)
    | none=>none)
   | some (.int .u8),.c (.s .nils)=>K (putO e o.dst (.c (.s (.str []))))
   | _,_=>none)
  | _,_,_=>none)
 | .index t x i=>(match P.underlying t,ev e x,ev e i with
  | some .string,.c (.s (.str l)),.c (.s (.int _ i))=>(at? l i).bind fun b=>K (putO e o.dst (.c (.s (.int .u8 b.toNat))))
  | some (.array n el),.c (.agg x),.c (.s (.int _ i))=>(match cell1 P el with
   | true=>bif decide (i<(n:Int)) then x.atK i fun s=>K (putO e o.dst (.c (.s s))) else none
   | false=>none)
  | _,_,_=>none)
 | .slice t x lo hi none=>(match optI e lo,optI e hi with
  | some lo,some hi=>(match P.underlying t,ev e x with
   | some .string,.c (.s (.str l))=>(cut l lo hi).bind fun r=>K (putO e o.dst (.c (.s (.str r))))
   | some (.slice el),.all s=>(match cell1 P el,content e s with
    | true,some x=>(cutN x.len lo hi).bind fun p=>K (putO e o.dst (.ali s (cut1 lo p) p.2))
    | _,_=>none)
   | some (.slice el),.ali s a n=>(match cell1 P el with
    | true=>(cutN n lo hi).bind fun p=>K (putO e o.dst (.ali s (a+cut1 lo p) p.2))
    | _=>none)
   | some (.slice el),.c (.s .nils)=>(match cell1 P el with
    | true=>(cutN 0 lo hi).bind fun _=>K (putO e o.dst (.c (.s .nils)))
    | _=>none)
   | some (.array n el),.via s off=>(match cell1 P el,e.getD s .u with
    | true,.box _ y=>bif decide (off+n≤y.len) then (cutN n lo hi).bind fun p=>K (putO e o.dst (.ali s (off+cut1 lo p) p.2)) else none
    | _,_=>none)
   | _,_=>none)
  | _,_=>none)
 | .field t x f=>(match ev e x,fieldOff P t f with
  | .c (.agg x),some (off,ft)=>(match partC P ft x off with | some c=>K (putO e o.dst (.c c)) | none=>none)
  | _,_=>none)
 | .build t parts=>(match P.underlying t,zeroXs P t with
  | some (.struct fs),some z=>(match fs.toList.mapM (fun f=>(P.info? f.type).map fun i=>(f.offset,i.size)) with
   | some places=>(match buildX e (fun i=>places[i]?) z parts.toList with
    | some x=>K (putO e o.dst (.c (.agg x)))
    | none=>none)
   | none=>none)
  | some (.array _ el),some z=>(match P.info? el with
   | some ie=>(match buildX e (fun i=>some (i * ie.size,ie.size)) z parts.toList with
    | some x=>K (putO e o.dst (.c (.agg x)))
    | none=>none)
   | none=>none)
  | _,_=>none)
 | .buildSlice t n parts=>(match elemZ P t,Nat.ble n 65536 with
  | some (_,z),true=>(match buildX e (fun i=>some (i,1)) (xsOf z n) parts.toList with
   | some x=>K (putO e o.dst (.c (.own x)))
   | none=>none)
  | _,_=>none)
 | .alloc t=>(match zeroXs P t with
  | some x=>K (putO e o.dst (.box t x))
  | none=>none)
 | .box t x=>(match ev e x with
  | .c (.agg x)=>(match x.toS.length==P.cellsOf t with | true=>K (putO e o.dst (.box t x)) | false=>none)
  | .c (.s s)=>(match P.cellsOf t with | 1=>K (putO e o.dst (.box t (.ss [s]))) | _=>none)
  | _=>none)
 | .load t a=>(match ev e a with
  | .via s off=>(match e.getD s .u,cell1 P t,isAggB P t with
   | .box _ x,true,_=>x.atN off fun s=>K (putO e o.dst (.c (.s s)))
   | .c (.own x),true,_=>x.atN off fun s=>K (putO e o.dst (.c (.s s)))
   | .c (.ro x),true,_=>x.atN off fun s=>K (putO e o.dst (.c (.s s)))
   | .box T x,false,some true=>(match T==t,off with
    | true,0=>K (putO e o.dst (.c (.agg x)))
    | _,_=>(match partC P t x off with | some c=>K (putO e o.dst (.c c)) | none=>none))
   | _,_,_=>none)
  | _=>none)
 | .store t a v=>(match o.dst,ev e a,ev e v with
  | none,.via s off,.c c=>(match e.getD s .u,c,cell1 P t with
   | .box T x,.s y,true=>(match x.set off y with
    | some z=>bif decide (off<x.len) then K (e.set s (.box T z)) else none
    | none=>none)
   | .c (.own x),.s y,true=>(match x.set off y with
    | some z=>bif decide (off<x.len) then K (e.set s (.c (.own z))) else none
    | none=>none)
   | .box T x,.agg y,false=>(match isAggB P t,y.toS.length==P.cellsOf t with
    | some true,true=>(match T==t,off with
     | true,0=>K (e.set s (.box T y))
     | _,_=>(match Nat.ble (off+y.toS.length) x.toS.length,x.lay off y.toS with
      | true,some z=>K (e.set s (.box T z))
      | _,_=>none))
    | _,_=>none)
   | _,_,_=>none)
  | _,_,_=>none)
 | .nilCheck x=>(match ev e x with
  | .via s off=>K (putO e o.dst (.via s off))
  | _=>none)
 | .fieldAddr t x f=>(match ev e x,fieldOff P t f with
  | .via s off,some (fo,_)=>K (putO e o.dst (.via s (off+fo)))
  | _,_=>none)
 | .indexAddr t x i=>(match P.underlying t,ev e x,ev e i with
  | some (.array n el),.via s off,.c (.s (.int _ i))=>(match cell1 P el with
   | true=>bif decide (0≤i)&&decide (i<(n:Int)) then K (putO e o.dst (.via s (off+i.toNat))) else none
   | false=>none)
  | some (.slice el),.all s,.c (.s (.int _ i))=>(match cell1 P el,content e s with
   | true,some x=>bif decide (0≤i)&&decide (i<(x.len:Int)) then K (putO e o.dst (.via s i.toNat)) else none
   | _,_=>none)
  | some (.slice el),.ali s lo n,.c (.s (.int _ i))=>(match cell1 P el with
   | true=>bif decide (0≤i)&&decide (i<(n:Int)) then K (putO e o.dst (.via s (lo+i.toNat))) else none
   | false=>none)
  | _,_,_=>none)
 | .range t x=>(match P.underlying t,ev e x with
  | some .string,.c (.s (.str l))=>K (putO e o.dst (.iter l 0))
  | _,_=>none)
 | .next x true=>(match ev e x with
  | .it s=>(match e.getD s .u with
   | .iter l pos=>bif decide (pos<l.length) then
     K (putO (e.set s (.iter l (pos+(Utf8.decode ⟨⟨l⟩⟩ pos).2))) o.dst (.tup [.s (.bool true),.s (.int .i64 pos),.s (.int .i32 (Utf8.decode ⟨⟨l⟩⟩ pos).1)]))
    else K (putO e o.dst (.tup [.s (.bool false)]))
   | _=>none)
  | _=>none)
 | .extract (.tmp t) i=>(match e.getD t .u with
  | .tup l=>(match l[i]?,o.dst==some t with
   | some (.own x),false=>K (putO (e.set t (.tup (l.set i .u))) o.dst (.c (.own x)))
   | some (.s x),_=>K (putO e o.dst (.c (.s x)))
   | some (.agg x),_=>K (putO e o.dst (.c (.agg x)))
   | _,_=>none)
  | _=>none)
 | .makeSlice t l c=>(match elemZ P t,ev e l,ev e c with
  | some (_,z),.c (.s (.int _ l)),.c (.s (.int _ c)) =>
   bif decide (0≤l)&&decide (l≤c)&&decide (c≤1099511627776) then K (putO e o.dst (.c (.own (xsOf z l.toNat)))) else none
  | _,_,_=>none)
 | .call c=>(match c.callee with
  | .value f=>(match ev e f with
   | .c (.s (.fn g))=>callK Γ e o.dst g (c.args.toList.map (ev e)) K
   | _=>none)
  | .builtin .len=>(match c.args.toList,c.argTypes.toList with
   | [x],[t]=>(match lenTy P t (ev e x) with
    | true=>lenK e (ev e x) fun n=>K (putO e o.dst (.c (.s (.int .i64 n))))
    | false=>none)
   | _,_=>none)
  | .builtin .append=>(match c.args.toList,c.argTypes.toList with
   | [x,y],[t,u]=>(match elemZ P t,sliceish P u,srcOf e (ev e y) with
    | some _,true,some y=>appendK e o.dst y K (ev e x)
    | _,_,_=>none)
   | _,_=>none)
  | .builtin .copy=>(match c.args.toList,c.argTypes.toList with
   | [x,y],[t,_]=>(match elemZ P t,srcOf e (ev e y),ev e x with
    | some _,some y,.all s=>(match content e s with | some x=>copyK e o.dst y K s 0 x.len | none=>none)
    | some _,some y,.ali s lo n=>copyK e o.dst y K s lo n
    | _,_,_=>none)
   | _,_=>none)
  | _=>none)
 | _=>none
def stepK (all:List Oper) (o:Oper) (e:Env) (K:Env→Option Out):Option Out:=
 match o.guard with
 | none=>opK P Γ nn e o K
 | some (j,want) =>
  match (all[j]?).bind (·.dst) with
  | none=>none
  | some d=>match e.getD d .u with
   | .c (.s (.bool t))=>bif t then
     (match want with
      | true=>opK P Γ nn (e.set d (.c (.s (.bool true)))) o K
      | false=>K (putO (e.set d (.c (.s (.bool true)))) o.dst (.tup [])))
    else
     (match want with
      | false=>opK P Γ nn (e.set d (.c (.s (.bool false)))) o K
      | true=>K (putO (e.set d (.c (.s (.bool false)))) o.dst (.tup [])))
   | .tup []=>K (putO e o.dst (.tup []))
   | _=>none
def forceV (v:V) (K:V→Option Out):Option Out:=match v with
 | .u=>K .u
 | .c c=>K (.c c)
 | .tup l=>K (.tup l)
 | .box T x=>K (.box T x)
 | .via s off=>K (.via s off)
 | .all s=>K (.all s)
 | .ali s lo n=>K (.ali s lo n)
 | .iter l pos=>K (.iter l pos)
 | .it s=>K (.it s)
def forceE:Env→(Env→Option Out)→Option Out
 | [],K=>K []
 | v :: e,K=>forceV v fun v=>forceE e fun e=>K (v :: e)
def opsK (all:List Oper):List Oper→Env→(Env→Option Out)→Option Out
 | [],e,K=>K e
 | o :: os,e,K=>stepK P Γ nn all o e fun e=>forceE e fun e=>opsK all os e K
def quietE (e:Env) (o:Oper):Bool:=match o.op with
 | .store _ _ _ | .next _ _=>false
 | .call c=>(match c.callee with
  | .value _=>(match c.args.toList.map (ev e) with
   | .via _ _ :: _=>false
   | .ali s _ _ :: _=>(match e.getD s .u with | .box _ _=>false | _=>true)
   | _=>true)
  | .builtin .len=>true
  | _=>false)
 | _=>true
def simpleE (e:Env) (o:Oper):Bool:=match o.op with
 | .move (.tmp t)=>(match e.getD t .u with | .tup l=>l.all plainC | _=>true)
 | .extract (.tmp t) i=>(match e.getD t .u with | .tup l=>(match l[i]? with | some (.own _)=>false | _=>true) | _=>true)
 | .move _ | .pick _ _ _ | .binOp _ _ _ _ _ | .unOp _ _ _ | .index _ _ _ | .slice _ _ _ _ _ | .field _ _ _ | .build _ _ | .load _ _ | .nilCheck _ | .fieldAddr _ _ _ | .indexAddr _ _ _=>true
 | .convert _ d _=>(match P.underlying d with | some (.slice _)=>false | _=>true)
 | .assign x=>(match ev e x with | .c _=>true | _=>false)
 | .call c=>(match c.callee with | .builtin .len=>true | _=>false)
 | _=>false
def memO (o:Oper):Bool:=match o.op with
 | .load _ _ | .convert _ _ _ | .next _ _=>true
 | _=>false
def simpleS (o:Oper):Bool:=match o.op with
 | .extract _ _=>true
 | .move _ | .pick _ _ _ | .binOp _ _ _ _ _ | .unOp _ _ _ | .index _ _ _ | .slice _ _ _ _ _ | .field _ _ _ | .build _ _ | .load _ _ | .nilCheck _ | .fieldAddr _ _ _ | .indexAddr _ _ _=>true
 | .convert _ d _=>(match P.underlying d with | some (.slice _)=>false | _=>true)
 | .call c=>(match c.callee with | .builtin .len=>true | _=>false)
 | _=>false
def onsOf (ops:List Oper) (j:Nat):List Nat:=match ops[j]? with
 | some o=>o.after.toList.filterMap fun e=>match Region.binds .any e with | true=>some e.on | false=>none
 | none=>[]
def ancL (ops:List Oper):Nat→List Nat→List Nat
 | 0,S=>S
 | f+1,S=>ancL ops f (S++((S.flatMap (onsOf ops)).eraseDups.filter fun i=>!S.contains i))
def calm (o:Oper):Bool:=match o.op with
 | .store _ _ _ | .next _ _=>false
 | .call c=>(match c.callee with | .builtin .len | .value _=>true | _=>false)
 | _=>true
def lates (ops:List Oper):List Nat:=ops.filterMap fun o=>match o.op with
 | .store _ (.tmp s) _=>(match ops.all fun p=>(match p.op with | .load _ _=>true | _=>!memO p)&&!(p.dst==some s) with | true=>some s | false=>none)
 | _=>none
def isLate (D:List Nat) (o:Oper):Bool:=match o.op with
 | .store _ (.tmp s) _=>D.contains s
 | _=>false
def planGo (D:List Nat) (ops:List Oper):Nat→Array Bool→List Nat→Option (List (Nat × Bool))
 | 0,listed,_=>match Region.ready .any ops.toArray listed with | []=>some [] | _=>none
 | f+1,listed,mem=>match Region.ready .any ops.toArray listed with
  | []=>some []
  | r :: rs=>match (r :: rs).find? fun i=>(match ops[i]? with | some o=>simpleS P o | none=>false)&&Region.free .any ops.toArray listed i with
   | some i=>(match ops[i]? with
    | some o=>(match planGo D ops f (listed.setIfInBounds i true) (match memO o with | true=>i :: mem | false=>mem) with
     | some l=>some ((i,true) :: l)
     | none=>none)
    | none=>none)
   | none=>(match rs,ops[r]? with
    | [],some o=>(match calm o || isLate D o || (mem.all fun i=>(ancL ops ops.length (onsOf ops r)).contains i) with
     | true=>(match planGo D ops f (listed.setIfInBounds r true) mem with
      | some l=>some ((r,calm o&&!(mem.all fun i=>(ancL ops ops.length (onsOf ops r)).contains i)) :: l)
      | none=>none)
     | false=>none)
    | _,_=>none)
def plan (ops:List Oper):Option (List Nat × List (Nat × Bool)):=match Region.noSelect ops.toArray with
 | true=>(match planGo P [] ops ops.length (Array.replicate ops.length false) [] with
  | some l=>some ([],l)
  | none=>(match planGo P (lates ops) ops ops.length (Array.replicate ops.length false) [] with
   | some l=>some (lates ops,l)
   | none=>none))
 | false=>none
def ldSlot (e:Env) (o:Oper):Option Nat:=match o.op with
 | .load _ x=>(match ev e x with | .via s _=>some s | _=>none)
 | _=>none
def isBox:V→Bool
 | .box _ _=>true
 | _=>false
def dOk (D:List Nat) (e:Env) (o:Oper):Bool:=match D,memO o with
 | [],_=>true
 | _,false=>true
 | _,true=>(match o.op with
  | .load _ x=>(match ev e x with
   | .via s _=>!D.contains s&&D.all fun d=>isBox (e.getD d .u)
   | .tup []=>true
   | _=>false)
  | _=>false)
def drawK (D:List Nat) (all:List Oper):List (Nat × Bool)→Env→(Env→Option Out)→Option Out
 | [],e,K=>K e
 | (i,q) :: l,e,K=>match all[i]? with
  | none=>none
  | some o=>match simpleS P o,simpleE P e o&&dOk D e o,q,quietE e o with
   | true,false,_,_=>none
   | _,_,true,false=>none
   | _,_,_,_=>stepK P Γ nn all o e fun e=>forceE e fun e=>drawK D all l e K
def dsts:Code→List Nat
 | .region _ ops _=>ops.toList.flatMap fun o=>o.dst.toList
 | .seq a b=>dsts a++dsts b
 | .cond _ a b=>dsts a++dsts b
 | .block _ a | .loop a | .scope a=>dsts a
 | _=>[]
inductive Co where
 | k | o (x:Xs) | a
def findCo:List (Nat × Co)→Nat→Option Co
 | [],_=>none
 | (j,c) :: l,i=>match Nat.beq j i with | true=>some c | false=>findCo l i
def keepOk (lv:List (Nat × Co)):V→Bool
 | .via s _ | .all s | .ali s _ _ | .it s=>(findCo lv s).isSome
 | _=>true
def coV (e:Env):Co→V→V
 | .o x,.c (.s .nils)=>(match x.len with | 0=>.c (.own x) | _+1=>.u)
 | .a,.all s=>(match content e s with | some x=>.ali s 0 x.len | none=>.u)
 | _,v=>v
def keepV (lv:List (Nat × Co)) (e:Env) (i:Nat) (v:V):V:=match findCo lv i,keepOk lv v with
 | some c,true=>coV e c v
 | _,_=>.u
def keepFrom (lv:List (Nat × Co)) (e0:Env):Nat→Env→Env
 | _,[]=>[]
 | i,v :: e=>keepV lv e0 i v :: keepFrom lv e0 (i+1) e
def trim (lv:Option (List (Nat × Co))) (e:Env):Env:=match lv with | some l=>keepFrom l e 0 e | none=>e
def up (m n:Nat):Nat:=match m with
 | 0=>(match n with | 0=>0 | _+1=>n+1)
 | _+1=>m+1
def hid:Code→Nat
 | .region id _ _=>64 * (id+1)
 | .seq a b=>up (hid a) (hid b)
 | .cond _ a b=>up (hid a) (hid b)
 | .block _ a=>up (hid a) 0
 | .loop a=>up (hid a) 0
 | .scope a=>up (hid a) 0
 | _=>0
def xid:Code→Nat
 | .exit id=>5000000+64 * (id+1)
 | .seq a b=>up (xid a) (xid b)
 | .cond _ a b=>up (xid a) (xid b)
 | .block _ a=>up (xid a) 0
 | _=>0
def hid2 (c:Code):Nat:=match hid c with | 0=>xid c | n+1=>n+1
def hasLabel (l:Nat):Code→Bool
 | .seq a b=>hasLabel l a || hasLabel l b
 | .label l'=>l'==l
 | _=>false
section
variable (Cut:Nat→Env→(Env→Option Out)→Option Out)
def atCut (lv:Option (List (Nat × Co))) (key:Nat) (e:Env) (t:Env→Option Out):Option Out:=match lv with
 | some l=>Cut key (keepFrom l e 0 e) t
 | none=>t e
def loopK (body:Env→(Exit→Env→Option Out)→Option Out) (lv:Option (List (Nat × Co))) (key:Nat):Nat→Env→(Exit→Env→Option Out)→Option Out
 | 0,_,_=>none
 | k+1,e,K=>body e fun x e'=>match x with
  | .normal=>atCut Cut lv key e' fun e=>loopK body lv key k e K
  | x=>K x e'
def againK (fromL:Nat→Env→(Exit→Env→Option Out)→Option Out) (has:Nat→Bool) (K:Exit→Env→Option Out):Nat→Nat→Env→Option Out
 | 0,_,_=>none
 | j+1,l,e=>fromL l e fun x e'=>match x with
  | .goto l'=>(match has l' with
   | true=>Cut (3000000+l') e' fun e=>againK fromL has K j l' e
   | false=>K (.goto l') e')
  | x=>K x e'
def handK (fromL:Nat→Env→(Exit→Env→Option Out)→Option Out) (has:Nat→Bool) (K:Exit→Env→Option Out) (j:Nat) (x:Exit) (e:Env):Option Out:=match x with
 | .goto l'=>(match has l' with
  | true=>Cut (3000000+l') e fun e=>againK Cut fromL has K j l' e
  | false=>K (.goto l') e)
 | x=>K x e
end
variable (Lv:Nat→Option (List (Nat × Co))) (Cut:Nat→Env→(Env→Option Out)→Option Out)
mutual
def execK (k:Nat):Code→Env→(Exit→Env→Option Out)→Option Out
 | .skip,e,K=>K .normal e
 | .label _,e,K=>K .normal e
 | .region _ ops false,e,K=>forceE e fun e=>opsK P Γ nn ops.toList ops.toList e (K .normal)
 | .region _ ops true,e,K=>match plan P ops.toList with
  | some (D,l)=>forceE e fun e=>drawK P Γ nn D ops.toList l e (K .normal)
  | none=>none
 | .seq a b,e,K=>execK k a e fun x e'=>match x with | .normal=>atCut Cut (Lv (hid2 b)) (hid2 b) e' fun e=>execK k b e K | x=>K x e'
 | .cond c a b,e,K=>match ev e c with
  | .c (.s (.bool t))=>bif t then execK k a e K else execK k b e K
  | _=>none
 | .block id a,e,K=>execK k a e fun x e'=>match x with
  | .exit id'=>(match id'==id with | true=>K .normal e' | false=>K (.exit id') e')
  | x=>K x e'
 | .exit id,e,K=>K (.exit id) e
 | .goto l,e,K=>K (.goto l) (trim (Lv (3000000+l)) e)
 | .ret,e,K=>K .ret e
 | .loop a,e,K=>atCut Cut (Lv (1000000+hid (.loop a))) (1000000+hid (.loop a)) e fun e=>loopK Cut (fun e K=>execK k a e K) (Lv (1000000+hid (.loop a))) (1000000+hid (.loop a)) k e K
 | .scope a,e,K=>execK k a e (handK Cut (fun l e K=>fromK k l a e K) (fun l=>hasLabel l a) K k)
 | _,_,_=>none
def fromK (k l:Nat):Code→Env→(Exit→Env→Option Out)→Option Out
 | .seq a b,e,K=>match hasLabel l a with
  | true=>fromK k l a e fun x e'=>match x with | .normal=>atCut Cut (Lv (hid2 b)) (hid2 b) e' fun e=>execK k b e K | x=>K x e'
  | false=>fromK k l b e K
 | .label _,e,K=>K .normal e
 | _,_,_=>none
end
def kontK (k:Nat):Code→List Nat→(Exit→Env→Option Out)→Exit→Env→Option Out
 | .seq a b,0 :: p,K=>kontK k a p fun x e'=>match x with | .normal=>atCut Cut (Lv (hid2 b)) (hid2 b) e' fun e=>execK P Γ nn Lv Cut k b e K | x=>K x e'
 | .seq _ b,_ :: p,K=>kontK k b p K
 | .cond _ a _,0 :: p,K=>kontK k a p K
 | .cond _ _ b,_ :: p,K=>kontK k b p K
 | .block id a,_ :: p,K=>kontK k a p fun x e'=>match x with
  | .exit id'=>(match id'==id with | true=>K .normal e' | false=>K (.exit id') e')
  | x=>K x e'
 | .loop a,j :: p,K=>kontK k a p fun x e'=>match x with
  | .normal=>atCut Cut (Lv (1000000+hid (.loop a))) (1000000+hid (.loop a)) e' fun e=>loopK Cut (fun e K=>execK P Γ nn Lv Cut k a e K) (Lv (1000000+hid (.loop a))) (1000000+hid (.loop a)) j e K
  | x=>K x e'
 | .scope a,j :: p,K=>kontK k a p (handK Cut (fun l e K=>fromK P Γ nn Lv Cut k l a e K) (fun l=>hasLabel l a) K j)
 | _,_,K=>K
def subAt:Code→List Nat→Code
 | .seq a _,0 :: p=>subAt a p
 | .seq _ b,_ :: p=>subAt b p
 | .cond _ a _,0 :: p=>subAt a p
 | .cond _ _ b,_ :: p=>subAt b p
 | .block _ a,_ :: p=>subAt a p
 | .loop a,_ :: p=>subAt a p
 | .scope a,_ :: p=>subAt a p
 | c,_=>c
def bodyOf:Code→Code
 | .loop a=>a
 | .scope a=>a
 | c=>c
def atK (k:Nat) (c:Code) (p:List Nat) (e:Env) (K:Exit→Env→Option Out):Option Out:=execK P Γ nn Lv Cut k (subAt c p) e (kontK P Γ nn Lv Cut k c p K)
def headK (k j:Nat) (c:Code) (p:List Nat) (e:Env) (K:Exit→Env→Option Out):Option Out:=
 loopK Cut (fun e K=>execK P Γ nn Lv Cut k (bodyOf (subAt c p)) e K) (Lv (1000000+hid (subAt c p))) (1000000+hid (subAt c p)) j e (kontK P Γ nn Lv Cut k c p K)
def jumpK (k j l:Nat) (c:Code) (p:List Nat) (e:Env) (K:Exit→Env→Option Out):Option Out:=
 againK Cut (fun l e K=>fromK P Γ nn Lv Cut k l (bodyOf (subAt c p)) e K) (fun l=>hasLabel l (bodyOf (subAt c p))) (kontK P Γ nn Lv Cut k c p K) j l e
def outC (e:Env) (rt:Nat):ResultVar→Option C
 | .tmp t=>match e.getD t .u with
  | .c (.s .nils)=>(match elemZ P rt with | some (_,z)=>some (.own (xsOf z 0)) | none=>none)
  | .c (.s x)=>some (.s x)
  | .c (.agg x)=>some (.agg x)
  | .c (.own x)=>some (.own x)
  | .all s=>(match e.getD s .u with | .c (.own x)=>some (.own x) | _=>none)
  | _=>none
 | .cell a t=>match rd e a with
  | .via s 0=>(match e.getD s .u,isAggB P t with | .box T x,some true=>(match T==t with | true=>some (.agg x) | false=>none) | _,_=>none)
  | _=>none
def outCs (e:Env):List Nat→List ResultVar→Option (List C)
 | t :: ts,r :: rs=>match outC P e t r,outCs e ts rs with
  | some c,some l=>some (c :: l)
  | _,_=>none
 | _,[]=>some []
 | _,_=>none
def outS (e:Env):ResultVar→List Nat
 | .tmp t=>match e.getD t .u with
  | .c (.own _)=>[t]
  | .all s=>[s]
  | _=>[]
 | .cell _ _=>[]
def apartB:List Nat→Bool
 | []=>true
 | x :: l=>!l.contains x&&apartB l
def fin (fn:Func) (recv:Option Nat) (K:Out→Option Out):Exit→Env→Option Out
 | .ret,e | .normal,e=>match apartB (fn.results.toList.flatMap (outS e)),outCs P e fn.resultTypes.toList fn.results.toList,recv,e.getD 0 .u with
  | true,some l,some T,.box T' x=>(match T==T' with | true=>K (l,some x) | false=>none)
  | true,some l,none,_=>K (l,none)
  | _,_,_,_=>none
 | _,_=>none
def argV:C→V
 | c=>.c c
def preV:Option (Nat × Xs)→List V
 | some (T,x)=>[.box T x]
 | none=>[]
def startE (fn:Func) (rc:Option (Nat × Xs)) (as:List C):Env:=preV rc++as.map argV++List.replicate (fn.ntmps - as.length - (preV rc).length) .u
def runK (k:Nat) (fn:Func) (rc:Option (Nat × Xs)) (as:List C) (K:Out→Option Out):Option Out:=
 match fn.body with
 | some c=>(match rc with
  | none=>execK P Γ nn Lv Cut k c (startE fn none as) (fin P fn none K)
  | some q=>(match (dsts c).contains 0 with
   | true=>none
   | false=>execK P Γ nn Lv Cut k c (startE fn (some q) as) (fin P fn (some q.1) K)))
 | none=>none
end
end Go.Proofs.YtffmgholjdfcnaaGreatDoor.AM
namespace Go.Proofs.YtffmgholjdfcnaaGreatDoor.AM
open Go
theorem Xs.len_toS (x:Xs):x.toS.length=x.len:=by cases x<;>simp [Xs.toS,Xs.len]
theorem Xs.len_enc (x:Xs):x.enc.length=x.len:=by simp [Xs.enc,Xs.len_toS]
structure Keep (base:Nat) (pb:Option Nat) (w w':World):Prop where
 os:w'.os=w.os
 tape:w'.tape=w.tape
 output:w'.output=w.output
 size:w.heap.size≤w'.heap.size
 old:∀ b,b<base→pb ≠ some b→w'.heap[b]?=w.heap[b]?
theorem Keep.refl (base:Nat) (pb:Option Nat) (w:World):Keep base pb w w:=⟨rfl,rfl,rfl,Nat.le_refl _,fun _ _ _=>rfl⟩
theorem Keep.trans {base:Nat} {pb:Option Nat} {a b c:World} (h:Keep base pb a b) (k:Keep base pb b c):Keep base pb a c:=
 ⟨k.os.trans h.os,k.tape.trans h.tape,k.output.trans h.output,Nat.le_trans h.size k.size,fun x hx hp=>(k.old x hx hp).trans (h.old x hx hp)⟩
def Ext (w w':World):Prop:=Keep w.heap.size none w w'
theorem Ext.refl (w:World):Ext w w:=Keep.refl _ _ _
theorem Ext.at {w w':World} (h:Ext w w') {b:Nat} (hb:b<w.heap.size):w'.heap[b]?=w.heap[b]?:=h.old b hb (by simp)
theorem Ext.trans {a b c:World} (h:Ext a b) (k:Ext b c):Ext a c:=
 ⟨k.os.trans h.os,k.tape.trans h.tape,k.output.trans h.output,Nat.le_trans h.size k.size,fun _ hx _=>(k.at (Nat.lt_of_lt_of_le hx h.size)).trans (h.at hx)⟩
theorem Ext.keep {w w':World} (h:Ext w w') {base:Nat} (hb:base≤w.heap.size) (pb:Option Nat):Keep base pb w w':=
 ⟨h.os,h.tape,h.output,h.size,fun _ hx _=>h.at (Nat.lt_of_lt_of_le hx hb)⟩
def baseOf:Value→Option Addr
 | .pointer a=>a
 | .slice a _ _=>a
 | _=>none
def blkOf (v:Value):List Nat:=match baseOf v with | some a=>[a.block] | none=>[]
def blksC:C→Value→List Nat
 | .own _,v=>blkOf v
 | _,_=>[]
def blksL:List C→List Value→List Nat
 | c :: l,v :: vs=>blksC c v++blksL l vs
 | _,_=>[]
def blks:V→Value→List Nat
 | .box _ _,v=>blkOf v
 | .iter _ _,v=>blkOf v
 | .c c,v=>blksC c v
 | .tup l,.tuple vs=>blksL l vs.toList
 | _,_=>[]
def OwnRel (w:World) (x:Xs) (v:Value):Prop:=
 (v=.slice none 0 0∧x.len=0)∨∃ b cap T Cs fr,v=.slice (some ⟨b,0,none⟩) x.len cap∧w.heap[b]?=some (.cells Cs T fr)∧x.len≤cap∧cap≤Cs.size ∧
  (∀ i,i<Cs.size→¬ (fr.1≤i∧i<fr.2))∧∀ i,i<x.len→Cs[i]?=x.enc[i]?
def RoRel (base:Nat) (pb:Option Nat) (w:World) (x:Xs) (v:Value):Prop:=
 ∃ a cap,v=.slice a x.len cap∧x.len≤cap∧∀ i,i<x.len→∃ b,a=some b∧b.block<base∧pb ≠ some b.block∧w.cell? (b.add i)=x.enc[i]?
def RelC (base:Nat) (pb:Option Nat) (w:World):C→Value→Prop
 | .u,_=>True
 | .s x,v=>v=x.enc
 | .agg x,v=>v=.agg x.enc.toArray
 | .own x,v=>OwnRel w x v
 | .ro x,v=>RoRel base pb w x v
inductive RelL (base:Nat) (pb:Option Nat) (w:World):List C→List Value→Prop
 | nil:RelL base pb w [] []
 | cons {c v l vs}:RelC base pb w c v→RelL base pb w l vs→RelL base pb w (c :: l) (v :: vs)
section
variable (P:Program)
def isSl:V→Bool
 | .c (.own _) | .c (.ro _)=>true
 | _=>false
def isIt:V→Bool
 | .iter _ _=>true
 | _=>false
def AliRel (o v:Value) (lo n:Nat):Prop:=
 ∃ a c,v=.slice a n c∧n≤c∧(0<n→∃ b,baseOf o=some b∧a=some (b.add lo))∧(lo=0→∀ A len cap,o=.slice A len cap→a=A∧c=cap)
def BoxAli (x:V) (o v:Value) (lo n:Nat):Prop:=∀ T y,x=.box T y→lo=0→∃ A c,o=.pointer (some A)∧v=.slice (some A) n c∧c≤y.len
def RelV (base:Nat) (pb:Option Nat) (w:World) (e:Env) (tm:Array Value):V→Value→Prop
 | .u,_=>True
 | .c c,v=>RelC base pb w c v
 | .tup l,v=>∃ vs:List Value,v=.tuple vs.toArray∧RelL base pb w l vs
 | .box T x,v=>∃ b,v=.pointer (some ⟨b,0,none⟩)∧w.heap[b]?=some (.cells x.enc.toArray T (0,0))∧P.cellsOf T=x.len
 | .via s off,v=>owner (e.getD s .u)=true∧∃ a,baseOf (tm.getD s undef)=some a∧v=.pointer (some (a.add off))
 | .all s,v=>isSl (e.getD s .u)=true∧v=tm.getD s undef
 | .ali s lo n,v=>owner (e.getD s .u)=true∧AliRel (tm.getD s undef) v lo n∧(∀ x,contentB e s=some x→lo+n≤x.len)∧BoxAli (e.getD s .u) (tm.getD s undef) v lo n
 | .iter l pos,v=>∃ b,v=.pointer (some ⟨b,0,none⟩)∧w.heap[b]?=some (.stringIter ⟨⟨l⟩⟩ pos)
 | .it s,v=>isIt (e.getD s .u)=true∧v=tm.getD s undef
structure Sim (base:Nat) (pb:Option Nat) (w0 w:World) (e:Env) (tm:Array Value):Prop where
 size:tm.size=e.length
 rel:∀ i,RelV P base pb w e tm (e.getD i .u) (tm.getD i undef)
 dist:∀ i j,i ≠ j→∀ b,b ∈ blks (e.getD i .u) (tm.getD i undef)→b ∉ blks (e.getD j .u) (tm.getD j undef)
 own:∀ i b,b ∈ blks (e.getD i .u) (tm.getD i undef)→b<w.heap.size∧(base≤b∨pb=some b)
 nd:∀ i,(blks (e.getD i .u) (tm.getD i undef)).Nodup
 keep:Keep base pb w0 w
 low:base≤w.heap.size
end
theorem isSl_owner {v:V} (h:isSl v=true):owner v=true:=by
 cases v with
 | c c=>cases c<;>simp_all [isSl,owner]
 | _=>simp_all [isSl]
theorem isIt_owner {v:V} (h:isIt v=true):owner v=true:=by cases v<;>simp_all [isIt,owner]
theorem OwnRel.mono {w w':World} {x:Xs} {v:Value} (h:OwnRel w x v) (hb:∀ b ∈ blkOf v,w'.heap[b]?=w.heap[b]?):OwnRel w' x v:=by
 rcases h with h | ⟨b,cap,T,Cs,fr,rfl,h2,h3⟩
 ·exact .inl h
 ·exact .inr ⟨b,cap,T,Cs,fr,rfl,(hb b (by simp [blkOf,baseOf])).trans h2,h3⟩
theorem cell?_of_heap {w w':World} {a:Addr} (h:w'.heap[a.block]?=w.heap[a.block]?):w'.cell? a=w.cell? a:=by simp [World.cell?,h]
theorem Addr.block_add (a:Addr) (n:Nat):(a.add n).block=a.block:=by unfold Addr.add;split<;>rfl
theorem Addr.add_add' (a:Addr) (n m:Nat):(a.add n).add m=a.add (n+m):=by
 unfold Addr.add
 by_cases h:n=0
 ·subst h;simp
 ·by_cases k:m=0
  ·subst k;simp
  ·rw [if_neg h,if_neg k,if_neg (by omega)];simp [Nat.add_assoc]
theorem RoRel.mono {base:Nat} {pb:Option Nat} {w w':World} {x:Xs} {v:Value} (h:RoRel base pb w x v) (hk:∀ b,b<base→pb ≠ some b→w'.heap[b]?=w.heap[b]?):RoRel base pb w' x v:=by
 obtain ⟨a,cap,h1,h2,h3⟩:=h
 refine ⟨a,cap,h1,h2,fun i hi=>?_⟩
 obtain ⟨b,hb1,hb2,hb3,hb4⟩:=h3 i hi
 exact ⟨b,hb1,hb2,hb3,(cell?_of_heap (by rw [Addr.block_add];exact hk _ hb2 hb3)).trans hb4⟩
theorem RelC.mono {base:Nat} {pb:Option Nat} {w w':World} {c:C} {v:Value} (h:RelC base pb w c v) (hb:∀ b ∈ blksC c v,w'.heap[b]?=w.heap[b]?)
  (hk:∀ b,b<base→pb ≠ some b→w'.heap[b]?=w.heap[b]?):RelC base pb w' c v:=by
 cases c with
 | u=>trivial
 | s x=>exact h
 | agg x=>exact h
 | own x=>exact OwnRel.mono h hb
 | ro x=>exact RoRel.mono h hk
theorem RelL.mono {base:Nat} {pb:Option Nat} {w w':World} {l:List C} {vs:List Value} (h:RelL base pb w l vs) (hk:∀ b,b<base→pb ≠ some b→w'.heap[b]?=w.heap[b]?) :
  (∀ b ∈ blksL l vs,w'.heap[b]?=w.heap[b]?)→RelL base pb w' l vs:=by
 induction h with
 | nil=>intro _;exact .nil
 | cons h1 _ ih=>intro hb;exact .cons (h1.mono (fun b hm=>hb b (by simp [blksL,hm])) hk) (ih fun b hm=>hb b (by simp [blksL,hm]))
theorem RelV.mono {P:Program} {base:Nat} {pb:Option Nat} {w w':World} {e:Env} {tm:Array Value} {x:V} {v:Value} (h:RelV P base pb w e tm x v) (hb:∀ b ∈ blks x v,w'.heap[b]?=w.heap[b]?)
  (hk:∀ b,b<base→pb ≠ some b→w'.heap[b]?=w.heap[b]?):RelV P base pb w' e tm x v:=by
 cases x with
 | u=>trivial
 | c c=>exact RelC.mono h hb hk
 | tup l=>obtain ⟨vs,rfl,h⟩:=h;exact ⟨vs,rfl,h.mono hk (by simpa [blks] using hb)⟩
 | box T x=>obtain ⟨b,rfl,h1,h2⟩:=h;exact ⟨b,rfl,(hb b (by simp [blks,blkOf,baseOf])).trans h1,h2⟩
 | via s off=>exact h
 | all s=>exact h
 | ali s lo n=>exact h
 | iter l pos=>obtain ⟨b,rfl,h1⟩:=h;exact ⟨b,rfl,(hb b (by simp [blks,blkOf,baseOf])).trans h1⟩
 | it s=>exact h
theorem RelV.env {P:Program} {base:Nat} {pb:Option Nat} {w:World} {e e':Env} {tm tm':Array Value} {x:V} {v:Value} (h:RelV P base pb w e tm x v)
  (hs:∀ s,aliasOf s x=true→owner (e.getD s .u)=true→(e'.getD s .u=e.getD s .u∧tm'.getD s undef=tm.getD s undef)):RelV P base pb w e' tm' x v:=by
 cases x with
 | u=>trivial
 | c c=>exact h
 | tup l=>exact h
 | box T x=>exact h
 | via s off =>
  obtain ⟨h1,a,h2,h3⟩:=h
  obtain ⟨k1,k2⟩:=hs s (by simp [aliasOf]) h1
  exact ⟨by rw [k1];exact h1,a,by rw [k2];exact h2,h3⟩
 | all s =>
  obtain ⟨h1,h2⟩:=h
  obtain ⟨k1,k2⟩:=hs s (by simp [aliasOf]) (isSl_owner h1)
  exact ⟨by rw [k1];exact h1,by rw [k2];exact h2⟩
 | ali s lo n =>
  obtain ⟨h1,h2,h3,h4⟩:=h
  obtain ⟨k1,k2⟩:=hs s (by simp [aliasOf]) h1
  exact ⟨by rw [k1];exact h1,by rw [k2];exact h2,by intro x hx;apply h3 x;unfold contentB at hx ⊢;rw [k1] at hx;exact hx,by rw [k1,k2];exact h4⟩
 | iter l pos=>exact h
 | it s =>
  obtain ⟨h1,h2⟩:=h
  obtain ⟨k1,k2⟩:=hs s (by simp [aliasOf]) (isIt_owner h1)
  exact ⟨by rw [k1];exact h1,by rw [k2];exact h2⟩
end Go.Proofs.YtffmgholjdfcnaaGreatDoor.AM
namespace Go.Proofs.YtffmgholjdfcnaaGreatDoor.AM
open Go
theorem getD_set (e:Env) (d i:Nat) (v:V):(e.set d v).getD i .u=if d=i then (if d<e.length then v else .u) else e.getD i .u:=by
 simp only [List.getD_eq_getElem?_getD,List.getElem?_set]
 by_cases h:d=i
 ·subst h;by_cases k:d<e.length<;>simp [k]
 ·simp [h]
theorem getD_setA (tm:Array Value) (d i:Nat) (v:Value):(tm.setIfInBounds d v).getD i undef=if d=i then (if d<tm.size then v else undef) else tm.getD i undef:=by
 simp only [Array.getD_eq_getD_getElem?,Array.getElem?_setIfInBounds]
 by_cases h:d=i
 ·subst h;by_cases k:d<tm.size<;>simp [k]
 ·simp [h]
theorem noSelf_no {d:Nat} {v:V} (h:aliasOf d v=false):noSelf d v=v:=by unfold noSelf;rw [h]
theorem noSelf_yes {d:Nat} {v:V} (h:aliasOf d v=true):noSelf d v=.u:=by unfold noSelf;rw [h]
theorem getD_kill (d:Nat) (e:Env) (i:Nat):(kill d e).getD i .u=noSelf d (e.getD i .u):=by
 simp only [kill,List.getD_eq_getElem?_getD,List.getElem?_map]
 cases h:e[i]? with
 | none=>simp [noSelf,aliasOf]
 | some v=>simp
theorem length_kill (d:Nat) (e:Env):(kill d e).length=e.length:=by simp [kill]
theorem owner_not_alias {v:V} {d:Nat} (h:owner v=true):aliasOf d v=false:=by
 cases v with
 | c c=>rfl
 | _=>simp_all [owner,aliasOf]
theorem kill_owner (d:Nat) (e:Env) (i:Nat) (h:owner (e.getD i .u)=true):(kill d e).getD i .u=e.getD i .u:=by
 rw [getD_kill,noSelf_no (owner_not_alias h)]
theorem noSelf_alias (d:Nat) (v:V):aliasOf d (noSelf d v)=false:=by
 unfold noSelf;split
 ·rfl
 ·assumption
theorem length_put (e:Env) (d:Nat) (v:V):(put e d v).length=e.length:=by unfold put;split<;>simp [length_kill]
variable {P:Program} {base:Nat} {pb:Option Nat} {w0 w w':World} {e:Env} {tm:Array Value}
theorem getD_put (e:Env) (d i:Nat) (v:V):(put e d v).getD i .u =
  if d=i then (if d<e.length then noSelf d v else .u) else (if owner (e.getD d .u)=true∧aliasOf d (e.getD i .u)=true then .u else e.getD i .u):=by
 unfold put
 split
 ·rename_i h
  rw [getD_set,length_kill,getD_kill,h]
  by_cases hd:d=i
  ·rw [if_pos hd,if_pos hd]
  ·rw [if_neg hd,if_neg hd]
   cases h2:aliasOf d (e.getD i .u)
   ·rw [noSelf_no h2,if_neg (by simp)]
   ·rw [noSelf_yes h2,if_pos ⟨rfl,rfl⟩]
 ·rename_i h
  rw [getD_set,h]
  by_cases hd:d=i
  ·rw [if_pos hd,if_pos hd]
  ·rw [if_neg hd,if_neg hd,if_neg (by simp)]
theorem Sim.no_alias (h : Sim P base pb w0 w e tm) {d i : Nat} (ho : owner (e.getD d .u) = false) : aliasOf d (e.getD i .u) = false := by
  have hr := h.rel i
  cases hv : e.getD i .u with
  | via s off => rw [hv] at hr; obtain ⟨h1, -⟩ := hr; simp only [aliasOf]; by_cases hs : s = d
                 · subst hs; rw [ho] at h1; cases h1
                 · simp [hs]
  | all s => rw [hv] at hr; obtain ⟨h1, -⟩ := hr; simp only [aliasOf]; by_cases hs : s = d
             · subst hs; rw [isSl_owner h1] at ho; cases ho
             · simp [hs]
  | ali s lo n => rw [hv] at hr; obtain ⟨h1, -⟩ := hr; simp only [aliasOf]; by_cases hs : s = d
                  · subst hs; rw [ho] at h1; cases h1
                  · simp [hs]
  | it s => rw [hv] at hr; obtain ⟨h1, -⟩ := hr; simp only [aliasOf]; by_cases hs : s = d
            · subst hs; rw [isIt_owner h1] at ho; cases ho
            · simp [hs]
  | _ => rfl
theorem Sim.put (h:Sim P base pb w0 w e tm) (d:Nat) (x:V) (v:Value) (hk:Keep base pb w w')
  (hb:∀ i,i ≠ d→∀ b,b ∈ blks (e.getD i .u) (tm.getD i undef)→w'.heap[b]?=w.heap[b]?)
  (hr:RelV P base pb w' e tm (noSelf d x) v)
  (ho:∀ b,b ∈ blks (noSelf d x) v→(b<w'.heap.size∧(base≤b∨pb=some b))∧∀ i,i ≠ d→b ∉ blks (e.getD i .u) (tm.getD i undef)) (hnd:(blks (noSelf d x) v).Nodup) :
  Sim P base pb w0 w' (AM.put e d x) (tm.setIfInBounds d v):=by
 have hgt:∀ i,(tm.setIfInBounds d v).getD i undef=if d=i then (if d<tm.size then v else undef) else tm.getD i undef:=fun i=>getD_setA tm d i v
 have hblk:∀ i,i ≠ d→∀ b,b ∈ blks ((AM.put e d x).getD i .u) ((tm.setIfInBounds d v).getD i undef)→b ∈ blks (e.getD i .u) (tm.getD i undef):=by
  intro i hi b hm
  rw [getD_put,hgt,if_neg (Ne.symm hi),if_neg (Ne.symm hi)] at hm
  split at hm
  ·simp [blks] at hm
  ·exact hm
 have hblkd:∀ b,b ∈ blks ((AM.put e d x).getD d .u) ((tm.setIfInBounds d v).getD d undef)→b ∈ blks (noSelf d x) v:=by
  intro b hm
  rw [getD_put,hgt,if_pos rfl,if_pos rfl] at hm
  by_cases hd:d<e.length
  ·rw [if_pos hd,if_pos (by rw [h.size];exact hd)] at hm;exact hm
  ·rw [if_neg hd] at hm;simp [blks] at hm
 have hndi:∀ i,(blks ((AM.put e d x).getD i .u) ((tm.setIfInBounds d v).getD i undef)).Nodup:=by
  intro i
  rw [getD_put,hgt]
  by_cases hd:d=i
  ·rw [if_pos hd,if_pos hd]
   by_cases hl:d<e.length
   ·rw [if_pos hl,if_pos (by rw [h.size];exact hl)];exact hnd
   ·rw [if_neg hl];simp [blks]
  ·rw [if_neg hd,if_neg hd]
   split
   ·simp [blks]
   ·exact h.nd i
 refine ⟨by rw [Array.size_setIfInBounds,length_put];exact h.size,fun i=>?_,fun i j hij b hi hj=>?_,fun i b hi=>?_,hndi,h.keep.trans hk,Nat.le_trans h.low hk.size⟩
 ·rw [getD_put,hgt]
  by_cases hd:d=i
  ·subst hd
   rw [if_pos rfl,if_pos rfl]
   by_cases hl:d<e.length
   ·rw [if_pos hl,if_pos (by rw [h.size];exact hl)]
    refine hr.env fun s hs hso=>?_
    have hsd:s ≠ d:=by
     rintro rfl
     rw [noSelf_alias] at hs;cases hs
    rw [getD_put,hgt,if_neg (Ne.symm hsd),if_neg (Ne.symm hsd)]
    rw [owner_not_alias hso]
    simp
   ·rw [if_neg hl];trivial
  ·rw [if_neg hd,if_neg hd]
   split
   ·trivial
   ·rename_i hna
    refine ((h.rel i).mono (fun b hm=>hb i (Ne.symm hd) b hm) hk.old).env fun s hs hso=>?_
    have hsd:s ≠ d:=by
     rintro rfl
     exact hna ⟨hso,hs⟩
    rw [getD_put,hgt,if_neg (Ne.symm hsd),if_neg (Ne.symm hsd),owner_not_alias hso]
    simp
 ·by_cases hd:i=d
  ·subst hd
   exact (ho b (hblkd b hi)).2 j (Ne.symm hij) (hblk j (Ne.symm hij) b hj)
  ·by_cases hd':j=d
   ·subst hd'
    exact (ho b (hblkd b hj)).2 i hd (hblk i hd b hi)
   ·exact h.dist i j hij b (hblk i hd b hi) (hblk j hd' b hj)
 ·by_cases hd:i=d
  ·subst hd;exact (ho b (hblkd b hi)).1
  ·obtain ⟨h1,h2⟩:=h.own i b (hblk i hd b hi)
   exact ⟨Nat.lt_of_lt_of_le h1 hk.size,h2⟩
theorem Sim.put0 (h:Sim P base pb w0 w e tm) (d:Nat) (x:V) (v:Value) (hr:RelV P base pb w e tm x v) (ho:blks x v=[]) :
  Sim P base pb w0 w (AM.put e d x) (tm.setIfInBounds d v):=by
 refine h.put d x v (Keep.refl _ _ _) (fun _ _ _ _=>rfl) ?_ ?_ ?_
 ·unfold noSelf;split
  ·trivial
  ·exact hr
 ·intro b hb
  unfold noSelf at hb
  split at hb
  ·simp [blks] at hb
  ·rw [ho] at hb;cases hb
 ·unfold noSelf;split
  ·simp [blks]
  ·rw [ho];simp
theorem Sim.putO0 (h:Sim P base pb w0 w e tm) (a:Act) (ha:a.tmps=tm) (d:Option Nat) (x:V) (v:Value) (hr:RelV P base pb w e tm x v) (ho:blks x v=[]) :
  Sim P base pb w0 w (AM.putO e d x) (a.put d v).tmps:=by
 subst ha
 cases d with
 | none=>exact h
 | some d=>exact h.put0 d x v hr ho
theorem Sim.grow (h:Sim P base pb w0 w e tm) (hk:Keep base pb w w') (hb:∀ i b,b ∈ blks (e.getD i .u) (tm.getD i undef)→w'.heap[b]?=w.heap[b]?):Sim P base pb w0 w' e tm:=
 ⟨h.size,fun i=>(h.rel i).mono (fun b hm=>hb i b hm) hk.old,h.dist,fun i b hi=>⟨Nat.lt_of_lt_of_le (h.own i b hi).1 hk.size,(h.own i b hi).2⟩,h.nd,h.keep.trans hk,Nat.le_trans h.low hk.size⟩
theorem Sim.ext (h:Sim P base pb w0 w e tm) (hk:Ext w w'):Sim P base pb w0 w' e tm:=h.grow (hk.keep h.low pb) fun i b hi=>hk.at (h.own i b hi).1
theorem Sim.putNew (h:Sim P base pb w0 w e tm) (a:Act) (ha:a.tmps=tm) (d:Option Nat) (x:V) (v:Value) (hk:Keep base pb w w')
  (hold:∀ b,b<w.heap.size→w'.heap[b]?=w.heap[b]?) (hx:∀ s,aliasOf s x=false) (hr:RelV P base pb w' e tm x v) (hn:∀ b,b ∈ blks x v→w.heap.size≤b∧b<w'.heap.size) (hnd:(blks x v).Nodup) :
  Sim P base pb w0 w' (AM.putO e d x) (a.put d v).tmps:=by
 subst ha
 cases d with
 | none=>exact h.grow hk fun i b hi=>hold b (h.own i b hi).1
 | some d =>
  have hns:noSelf d x=x:=by unfold noSelf;rw [hx d]
  refine h.put d x v hk (fun i _ b hi=>hold b (h.own i b hi).1) (by rw [hns];exact hr) ?_ (by rw [hns];exact hnd)
  rw [hns]
  intro b hb
  obtain ⟨h1,h2⟩:=hn b hb
  exact ⟨⟨h2,.inl (Nat.le_trans h.low h1)⟩,fun i _ hi=>by have:=(h.own i b hi).1;omega⟩
theorem Sim.turn (h:Sim P base pb w0 w e tm) (s:Nat) (y:V) (hk:Keep base pb w w')
  (hb:∀ b,b<w.heap.size→b ∉ blks (e.getD s .u) (tm.getD s undef)→w'.heap[b]?=w.heap[b]?)
  (hy:RelV P base pb w' e tm y (tm.getD s undef)) (hbl:blks y (tm.getD s undef)=blks (e.getD s .u) (tm.getD s undef))
  (hsl:isSl (e.getD s .u)=true→isSl y=true) (hit:isIt (e.getD s .u)=true→isIt y=true) (how:owner (e.getD s .u)=true) (hoy:owner y=true)
  (hlen:∀ x x',contentB e s=some x→contentB [y] 0=some x'→x'.len=x.len) (hcon:∀ x',contentB [y] 0=some x'→∃ x,contentB e s=some x) (hbx:∀ T' y',y=.box T' y'→∃ T x,e.getD s .u=.box T x∧x.len=y'.len) :
  Sim P base pb w0 w' (e.set s y) tm:=by
 have hl:s<e.length:=by
  by_cases hl:s<e.length
  ·exact hl
  ·rw [List.getD_eq_getElem?_getD,List.getElem?_eq_none (by omega)] at how;simp [owner] at how
 have hg:∀ i,(e.set s y).getD i .u=if s=i then y else e.getD i .u:=by intro i;rw [getD_set,if_pos hl]
 have hbe:∀ i,blks ((e.set s y).getD i .u) (tm.getD i undef)=blks (e.getD i .u) (tm.getD i undef):=by
  intro i;rw [hg];split
  ·rename_i hs;subst hs;exact hbl
  ·rfl
 have key:∀ x v,RelV P base pb w' e tm x v→RelV P base pb w' (e.set s y) tm x v:=by
  intro x v hx
  cases x with
  | via s' off =>
   obtain ⟨h1,h2⟩:=hx
   refine ⟨?_,h2⟩
   rw [hg];split
   ·exact hoy
   ·exact h1
  | all s' =>
   obtain ⟨h1,h2⟩:=hx
   refine ⟨?_,h2⟩
   rw [hg];split
   ·rename_i hs;subst hs;exact hsl h1
   ·exact h1
  | ali s' lo n =>
   obtain ⟨h1,h2,h3,h4⟩:=hx
   refine ⟨?_,h2,?_,?_⟩
   ·rw [hg];split
    ·exact hoy
    ·exact h1
   ·intro x' hx'
    unfold contentB at hx'
    rw [hg] at hx'
    by_cases hs:s=s'
    ·subst hs
     rw [if_pos rfl] at hx'
     obtain ⟨x0,hx0⟩:=hcon x' (by simpa [contentB] using hx')
     have:=h3 x0 hx0
     rw [hlen x0 x' hx0 (by simpa [contentB] using hx')];exact this
    ·rw [if_neg hs] at hx';exact h3 x' hx'
   ·intro T' y' hT' hlo
    rw [hg] at hT'
    by_cases hs:s=s'
    ·subst hs
     rw [if_pos rfl] at hT'
     obtain ⟨T,x,hx1,hx2⟩:=hbx T' y' hT'
     obtain ⟨A,c,q1,q2,q3⟩:=h4 T x hx1 hlo
     exact ⟨A,c,q1,q2,by omega⟩
    ·rw [if_neg hs] at hT';exact h4 T' y' hT' hlo
  | it s' =>
   obtain ⟨h1,h2⟩:=hx
   refine ⟨?_,h2⟩
   rw [hg];split
   ·rename_i hs;subst hs;exact hit h1
   ·exact h1
  | u=>trivial
  | c c=>exact hx
  | tup l=>exact hx
  | box T x=>exact hx
  | iter l pos=>exact hx
 refine ⟨by rw [List.length_set];exact h.size,fun i=>?_,fun i j hij b hi hj=>?_,fun i b hi=>?_,fun i=>by rw [hbe];exact h.nd i,h.keep.trans hk,Nat.le_trans h.low hk.size⟩
 ·rw [hg]
  split
  ·rename_i hs;subst hs;exact key _ _ hy
  ·rename_i hs
   refine key _ _ ((h.rel i).mono (fun b hm=>hb b (h.own i b hm).1 fun hm'=>h.dist i s (Ne.symm hs) b hm hm') hk.old)
 ·rw [hbe] at hi hj;exact h.dist i j hij b hi hj
 ·rw [hbe] at hi;exact ⟨Nat.lt_of_lt_of_le (h.own i b hi).1 hk.size,(h.own i b hi).2⟩
end Go.Proofs.YtffmgholjdfcnaaGreatDoor.AM
set_option linter.unusedSimpArgs false
namespace Go.Proofs.YtffmgholjdfcnaaGreatDoor.AM
open Go
theorem toList_mk (l:List UInt8):(⟨⟨l⟩⟩:ByteArray).toList=l:=by
 rw [ByteArray.toList_eq]
theorem size_mk (l:List UInt8):(⟨⟨l⟩⟩:ByteArray).size=l.length:=rfl
theorem append_mk (a b:List UInt8):(⟨⟨a⟩⟩:ByteArray)++⟨⟨b⟩⟩=⟨⟨a++b⟩⟩:=by
 apply ByteArray.ext
 simp [ByteArray.data_append]
theorem extract_mk (l:List UInt8) (i j:Nat):(⟨⟨l⟩⟩:ByteArray).extract i j=⟨⟨(l.take j).drop i⟩⟩:=by
 apply ByteArray.ext
 simp [ByteArray.data_extract,List.drop_take]
theorem max_i64:IntKind.i64.max=9223372036854775807:=by decide
theorem bopI_run {P:Program} {op:BinOp} {k:IntKind} {x y:Int} {K:S→Option Out} {r:Out} (h:bopI op k x y K=some r) :
  ∃ s:S,K s=some r∧∀ t w,(binOp op t (.int k x) (.int k y)).run P w=.ok s.enc w:=by
 cases op<;>simp only [bopI] at h<;>first | (cases h;done) | skip
 all_goals first
  | exact ⟨_,h,fun t w=>by simp [binOp,Op.intArith,Op.intBits,Op.intCmp,S.enc,Sem.run,pure]⟩
  | skip
 ·cases hy:y==0
  ·rw [hy] at h
   have:y ≠ 0:=by simpa using hy
   exact ⟨_,h,fun t w=>by simp [binOp,Op.intDiv,this,S.enc,Sem.run,pure]⟩
  ·rw [hy] at h;cases h
 ·cases hy:y==0
  ·rw [hy] at h
   have:y ≠ 0:=by simpa using hy
   exact ⟨_,h,fun t w=>by simp [binOp,Op.intDiv,this,S.enc,Sem.run,pure]⟩
  ·rw [hy] at h;cases h
theorem shift_run {P:Program} {op:BinOp} {k k':IntKind} {x y:Int} {K:S→Option Out} {r:Out} (h:shift op k x y K=some r) :
  ∃ s:S,K s=some r∧∀ w,(Op.shift op k x k' y).run P w=.ok s.enc w:=by
 unfold shift at h
 cases hy:decide (y<0)
 ·rw [hy] at h
  have hy':¬ y<0:=by simpa using hy
  cases op<;>simp only [cond_false] at h<;>first | (cases h;done) | exact ⟨_,h,fun w=>by simp [Op.shift,hy',S.enc,Sem.run,pure]⟩
 ·rw [hy] at h;cases h
theorem bop_run {P:Program} {op:BinOp} {a b:S} {K:S→Option Out} {r:Out} (h:bop op a b K=some r) :
  ∃ s:S,K s=some r∧(∀ t w,(binOp op t a.enc b.enc).run P w=.ok s.enc w)∧∀ t x y,eqGuard op t x y a.enc b.enc=pure ():=by
 cases a with
 | int k x =>
  cases b with
  | int k' y =>
   by_cases hs:op=.shl∨op=.shr
   ·rcases hs with rfl | rfl<;>simp only [bop] at h<;>obtain ⟨s,h1,h2⟩:=shift_run (P:=P) (k':=k') h<;>exact ⟨s,h1,fun t w=>by simpa [binOp,S.enc] using h2 w,fun t x y=>by simp [S.enc,go_sem]⟩
   ·have:bop op (.int k x) (.int k' y) K=if k=k' then bopI op k x y K else none:=by
     cases op<;>first | rfl | simp at hs
    rw [this] at h
    split at h
    ·rename_i hk;subst hk
     obtain ⟨s,h1,h2⟩:=bopI_run (P:=P) h
     exact ⟨s,h1,h2,fun t x y=>by simp [S.enc,go_sem]⟩
    ·cases h
  | _=>cases op<;>simp [bop] at h
 | str x =>
  cases b with
  | str y =>
   cases op<;>simp only [bop] at h<;>first | (cases h;done) | skip
   ·unfold cat at h
    split at h
    ·rename_i hl
     refine ⟨_,h,fun t w=>?_,fun t x y=>by simp [S.enc,go_sem]⟩
     simp only [S.enc,binOp,Op.stringOp,size_mk,append_mk,max_i64]
     rw [if_neg (by omega)];rfl
    ·cases h
   all_goals exact ⟨_,h,fun t w=>by simp [S.enc,binOp,Op.stringOp,toList_mk,Sem.run,pure],fun t x y=>by simp [S.enc,go_sem]⟩
  | _=>cases op<;>simp [bop] at h
 | bool x=>cases b<;>cases op<;>simp [bop] at h
 | fn x=>cases b<;>cases op<;>simp [bop] at h
 | nils=>cases b<;>cases op<;>simp [bop] at h
theorem uop_run {P:Program} {op:UnOp} {a s:S} (h:uop op a=some s) (w:World):(Op.unary op a.enc).run P w=.ok s.enc w:=by
 cases a<;>cases op<;>simp [uop] at h<;>subst h<;>simp [S.enc,Op.unary,Op.intArith,Sem.run,pure]
theorem eqT_run {P:Program} {a b:S} {t:TypeId} {r:Bool} (h:eqT (P.underlying t) a b=some r) (n:Nat) (w:World):(Op.equalIn (n+1) t a.enc b.enc).run P w=.ok r w:=by
 unfold eqT at h
 split at h<;>first | (cases h;done) | skip
 ·rename_i k x y hk hu
  split at h
  ·rename_i hkk;cases h;subst hkk
   exact run_equalIn_int w n t _ _ _ _ hu
  ·cases h
 ·rename_i hu;cases h
  exact run_equalIn_bool w n t _ _ hu
 ·rename_i x y hu;cases h
  have hq:=run_equalIn_string w n t (⟨⟨x⟩⟩:ByteArray) ⟨⟨y⟩⟩ hu
  rw [toList_mk,toList_mk] at hq
  exact hq
theorem eqT_plain {P:Program} {a b:S} {t:TypeId} {r:Bool} (h:eqT (P.underlying t) a b=some r) (w:World):(isAgg t).run P w=.ok false w:=by
 unfold eqT at h
 split at h<;>first | (cases h;done) | skip
 all_goals (rename_i hu;simp [isAgg,run_underlying hu])
theorem part_plain {P:Program} {t:TypeId} {cs:Array Value} {i:Nat} {v:Value} {w:World} (ha:(isAgg t).run P w=.ok false w) (hv:cs[i]?=some v):(part t cs i).run P w=.ok v w:=by
 simp [part,ha,hv]
theorem eqF_run {P:Program} (fs:List Field):∀ (pre x pre' y:List S) (r:Bool) (w:World),pre.length=pre'.length→eqF P fs pre.length x y=some r →
  (Op.eqFields 9999 ((pre++x).map S.enc).toArray ((pre'++y).map S.enc).toArray fs).run P w=.ok r w:=by
 induction fs with
 | nil =>
  intro pre x pre' y r w hl h
  cases x<;>cases y<;>simp [eqF] at h
  subst h
  simp [Op.eqFields]
 | cons f fs ih =>
  intro pre x pre' y r w hl h
  cases x with
  | nil=>simp [eqF] at h
  | cons a x =>
   cases y with
   | nil=>simp [eqF] at h
   | cons b y =>
    simp only [eqF] at h
    split at h
    ·rename_i p q h1 h2 h3
     cases h
     simp only [Bool.and_eq_true,beq_iff_eq,bne_iff_ne,ne_eq] at h1
     have hp:=eqT_plain h2 w
     have e1:(((pre++a :: x).map S.enc).toArray)[f.offset]?=some a.enc:=by rw [h1.1];simp
     have e2:(((pre'++b :: y).map S.enc).toArray)[f.offset]?=some b.enc:=by rw [h1.1,hl];simp
     have ih':=ih (pre++[a]) x (pre'++[b]) y q w (by simp [hl]) (by simpa using h3)
     simp only [Op.eqFields,ne_eq,h1.2,not_false_eq_true,if_true,Sem.run_bind,part_plain hp e1,part_plain hp e2,Result.andThen_ok,eqT_run h2]
     cases p
     ·simp
     ·simpa using ih'
    ·cases h
theorem underlying_fieldsOf {P:Program} {t:TypeId} {fs:Array Field} (h:P.underlying t=some (.struct fs)):P.fieldsOf t=fs:=by simp [Program.fieldsOf,h]
theorem eqAgg_run {P:Program} {t:TypeId} {x y:Xs} {r:Bool} (h:eqAgg P t x y=some r) (w:World) :
  (Op.equalIn 10000 t (.agg x.enc.toArray) (.agg y.enc.toArray)).run P w=.ok r w∧∀ op a b,(eqGuard op t a b (.agg x.enc.toArray) (.agg y.enc.toArray)).run P w=.ok () w:=by
 unfold eqAgg at h
 split at h
 ·rename_i fs h1 h2
  simp only [Bool.and_eq_true,Bool.not_eq_true'] at h2
  refine ⟨?_,fun op a b=>run_eqGuard_agg w op t a b _ _ h2.2⟩
  rw [run_equalIn_struct w 9999 t _ _ (by rw [underlying_fieldsOf h1];exact h1) h2.1,underlying_fieldsOf h1]
  simpa [Xs.enc] using eqF_run fs.toList [] x.toS [] y.toS r w rfl h
 ·cases h
end Go.Proofs.YtffmgholjdfcnaaGreatDoor.AM
set_option linter.unusedSimpArgs false
namespace Go.Proofs.YtffmgholjdfcnaaGreatDoor.AM
open Go
variable {P:Program} {base:Nat} {pb:Option Nat} {w0 w w':World} {e:Env} {a:Act}
theorem ofConst_rel (v:Value):RelV P base pb w e a.tmps (ofConst v) v∧blks (ofConst v) v=[]:=by
 unfold ofConst
 split
 ·exact ⟨rfl,rfl⟩
 ·exact ⟨rfl,rfl⟩
 ·exact ⟨rfl,rfl⟩
 ·exact ⟨rfl,rfl⟩
 ·exact ⟨trivial,rfl⟩
theorem blksL_plain {l:List C} (h:l.all plainC=true):∀ vs,blksL l vs=[]:=by
 induction l with
 | nil=>intro vs;rfl
 | cons c l ih =>
  intro vs
  simp only [List.all_cons,Bool.and_eq_true] at h
  cases vs with
  | nil=>rfl
  | cons v vs =>
   simp only [blksL,ih h.2 vs,List.append_nil]
   cases c<;>first | rfl | simp [plainC] at h
theorem rd_rel (h:Sim P base pb w0 w e a.tmps) (t:Nat):RelV P base pb w e a.tmps (rd e t) (a.tmps.getD t undef)∧blks (rd e t) (a.tmps.getD t undef)=[]:=by
 have hr:=h.rel t
 unfold rd
 cases hv:e.getD t .u with
 | box T x =>
  rw [hv] at hr;obtain ⟨b,h1,-⟩:=hr
  refine ⟨⟨by rw [hv];rfl,⟨b,0,none⟩,by rw [h1];rfl,by rw [h1];rfl⟩,rfl⟩
 | c c =>
  rw [hv] at hr
  cases c with
  | own x=>exact ⟨⟨by rw [hv];rfl,rfl⟩,rfl⟩
  | ro x=>exact ⟨⟨by rw [hv];rfl,rfl⟩,rfl⟩
  | u=>exact ⟨hr,rfl⟩
  | s x=>exact ⟨hr,rfl⟩
  | agg x=>exact ⟨hr,rfl⟩
 | iter l p=>exact ⟨⟨by rw [hv];rfl,rfl⟩,rfl⟩
 | tup l =>
  rw [hv] at hr
  dsimp only
  split
  ·rename_i hp
   obtain ⟨vs,h1,h2⟩:=hr
   exact ⟨⟨vs,h1,h2⟩,by rw [h1];exact blksL_plain hp _⟩
  ·exact ⟨trivial,rfl⟩
 | u=>exact ⟨trivial,rfl⟩
 | via s off=>rw [hv] at hr;exact ⟨hr,rfl⟩
 | all s=>rw [hv] at hr;exact ⟨hr,rfl⟩
 | ali s lo n=>rw [hv] at hr;exact ⟨hr,rfl⟩
 | it s=>rw [hv] at hr;exact ⟨hr,rfl⟩
theorem ev_rel (h:Sim P base pb w0 w e a.tmps) (x:Operand):RelV P base pb w e a.tmps (ev e x) (a.eval x)∧blks (ev e x) (a.eval x)=[]:=by
 cases x with
 | tmp t=>exact rd_rel h t
 | const v=>exact ofConst_rel v
 | global g=>exact ⟨trivial,rfl⟩
 | func f=>exact ⟨rfl,rfl⟩
theorem ev_s (h:Sim P base pb w0 w e a.tmps) {x:Operand} {s:S} (hx:ev e x=.c (.s s)):a.eval x=s.enc:=by
 have:=(ev_rel h x).1;rw [hx] at this;exact this
theorem ev_agg (h:Sim P base pb w0 w e a.tmps) {x:Operand} {y:Xs} (hx:ev e x=.c (.agg y)):a.eval x=.agg y.enc.toArray:=by
 have:=(ev_rel h x).1;rw [hx] at this;exact this
theorem wp_val {o:Oper} {next:Act→World→Prop} {Q:Exit→Act→World→Prop} {v:Value} (hrun:(execOp a.eval o).run P w=.ok (.value v) w') (hn:next (a.put o.dst v) w'):o.wp P a w next Q:=by
 unfold Oper.wp;rw [hrun];exact hn
theorem wp_skip' {o:Oper} {next:Act→World→Prop} {Q:Exit→Act→World→Prop} (hrun:(execOp a.eval o).run P w=.ok .skip w') (hn:next (a.put o.dst undef) w'):o.wp P a w next Q:=by
 unfold Oper.wp;rw [hrun];exact hn
theorem getD_setIf (tm:Array Value) (d i:Nat) (v:Value) (h:d ≠ i):(tm.setIfInBounds d v).getD i undef=tm.getD i undef:=by rw [getD_setA,if_neg h]
theorem put_keeps (a:Act) (d:Option Tmp) (v:Value):(a.put d v).defers=a.defers∧∀ i,d ≠ some i→(a.put d v).tmps.getD i undef=a.tmps.getD i undef:=by
 cases d with
 | none=>exact ⟨rfl,fun _ _=>rfl⟩
 | some d=>exact ⟨rfl,fun i hi=>getD_setIf _ _ _ _ (by rintro rfl;exact hi rfl)⟩
def Nx (P:Program) (base:Nat) (pb:Option Nat) (w0 w:World) (e:Env) (a:Act) (o:Oper) (K:Env→Option Out) (r:Out) (next:Act→World→Prop):Prop:=
 ∀ (e':Env) (a':Act) (w':World),K e'=some r→Sim P base pb w0 w' e' a'.tmps→(a'.defers=a.defers∧∀ i,o.dst ≠ some i→a'.tmps.getD i undef=a.tmps.getD i undef)→(quietE e o=true→Ext w w')→next a' w'
def LdOk (P:Program) (base:Nat) (pb:Option Nat) (e:Env) (a:Act) (o:Oper) (w':World):Prop:=∃ s,ldSlot e o=some s∧RelV P base pb w' e a.tmps (e.getD s .u) (a.tmps.getD s undef)
def Pure1 (P:Program) (base:Nat) (pb:Option Nat) (w:World) (e:Env) (a:Act) (K:Env→Option Out) (r:Out) (o:Oper):Prop:=
 ∃ x v,K (putO e o.dst x)=some r∧(∀ w',(memO o=true→Ext w w'∨LdOk P base pb e a o w')→(execOp a.eval o).run P w'=.ok (.value v) w')∧RelV P base pb w e a.tmps x v∧blks x v=[]
variable {K:Env→Option Out} {r:Out} {next:Act→World→Prop} {Q:Exit→Act→World→Prop} {o:Oper}
theorem pure1 {x:V} {v:Value} (hK:K (putO e o.dst x)=some r) (hm:memO o=true) (hl:ldSlot e o=none) (hrun:∀ w',Ext w w'→(execOp a.eval o).run P w'=.ok (.value v) w') (hr:RelV P base pb w e a.tmps x v) (hb:blks x v=[]) :
  Pure1 P base pb w e a K r o:=⟨x,v,hK,fun w' h=>hrun w' (by rcases h hm with h | ⟨s,h,-⟩;exact h;rw [hl] at h;cases h),hr,hb⟩
theorem pureL {x:V} {v:Value} {s:Nat} (hK:K (putO e o.dst x)=some r) (hm:memO o=true) (hl:ldSlot e o=some s) (hS:∀ w',Ext w w'→RelV P base pb w' e a.tmps (e.getD s .u) (a.tmps.getD s undef))
  (hrun:∀ w',RelV P base pb w' e a.tmps (e.getD s .u) (a.tmps.getD s undef)→(execOp a.eval o).run P w'=.ok (.value v) w') (hr:RelV P base pb w e a.tmps x v) (hb:blks x v=[]) :
  Pure1 P base pb w e a K r o:=⟨x,v,hK,fun w' h=>by
   rcases h hm with h | ⟨s',h,h'⟩
   ·exact hrun w' (hS w' h)
   ·rw [hl] at h;cases h;exact hrun w' h',hr,hb⟩
theorem pureA {x:V} {v:Value} (hK:K (putO e o.dst x)=some r) (hrun:∀ w',True→(execOp a.eval o).run P w'=.ok (.value v) w') (hr:RelV P base pb w e a.tmps x v) (hb:blks x v=[]) :
  Pure1 P base pb w e a K r o:=⟨x,v,hK,fun w' _=>hrun w' trivial,hr,hb⟩
theorem Pure1.wp (hp:Pure1 P base pb w e a K r o) (h:Sim P base pb w0 w e a.tmps) (hn:Nx P base pb w0 w e a o K r next):o.wp P a w next Q:=by
 obtain ⟨x,v,hK,hrun,hr,hb⟩:=hp
 exact wp_val (hrun w fun _=>.inl (Ext.refl w)) (hn _ _ _ hK (h.putO0 a rfl o.dst x v hr hb) (put_keeps _ _ _) fun _=>Ext.refl w)
theorem op_move (h:Sim P base pb w0 w e a.tmps) {x:Operand} (ho:o.op=.move x) (hK:K (putO e o.dst (ev e x))=some r):Pure1 P base pb w e a K r o:=
 pureA hK (fun w' hw=>by simp only [execOp,ho];rfl) (ev_rel h x).1 (ev_rel h x).2
theorem run_v {s:Sem Value} {v:Value} (h:s.run P w=.ok v w'):((do pure (.value (← s)):Sem Next)).run P w=.ok (.value v) w':=by simp [Sem.run_bind,h]
theorem op_pick (h:Sim P base pb w0 w e a.tmps) {c x y:Operand} (ho:o.op=.pick c x y) {t:Bool} (hc:ev e c=.c (.s (.bool t)))
  (hK:(bif t then K (putO e o.dst (ev e x)) else K (putO e o.dst (ev e y)))=some r):Pure1 P base pb w e a K r o:=by
 have hcv:=ev_s h hc
 cases t
 ·exact pureA hK (fun w' hw=>by simp only [execOp,ho,hcv,S.enc,asBool];rfl) (ev_rel h y).1 (ev_rel h y).2
 ·exact pureA hK (fun w' hw=>by simp only [execOp,ho,hcv,S.enc,asBool];rfl) (ev_rel h x).1 (ev_rel h x).2
theorem op_bin (h:Sim P base pb w0 w e a.tmps) {op:BinOp} {t t':TypeId} {x y:Operand} (ho:o.op=.binOp op t x y t') {p q:S} (hx:ev e x=.c (.s p)) (hy:ev e y=.c (.s q))
  (hK:bop op p q (fun r=>K (putO e o.dst (.c (.s r))))=some r):Pure1 P base pb w e a K r o:=by
 obtain ⟨s,h1,h2,h3⟩:=bop_run (P:=P) hK
 refine pureA h1 (v:=s.enc) (fun w' hw=>?_) rfl rfl
 simp only [execOp,ho]
 refine run_v ?_
 rw [ev_s h hx,ev_s h hy,h3]
 exact h2 t w'
theorem op_bool (h:Sim P base pb w0 w e a.tmps) {op:BinOp} {t t':TypeId} {x y:Operand} (ho:o.op=.binOp op t x y t') {p q:Bool} (hx:ev e x=.c (.s (.bool p))) (hy:ev e y=.c (.s (.bool q)))
  (ht:P.underlying t=some .bool) (hop:op=.eql∨op=.neq) (hK:K (putO e o.dst (.c (.s (.bool (if op=.eql then p==q else !(p==q))))))=some r):Pure1 P base pb w e a K r o:=by
 refine pureA hK (v:=.bool _) (fun w' hw=>?_) rfl rfl
 simp only [execOp,ho]
 refine run_v ?_
 rw [ev_s h hx,ev_s h hy]
 have he:=run_equalIn_bool w' 9999 t p q ht
 rcases hop with rfl | rfl<;>simp [S.enc,go_sem,binOp,Op.equal,Op.maxDepth,he]
theorem op_binAgg (h:Sim P base pb w0 w e a.tmps) {op:BinOp} {t t':TypeId} {x y:Operand} (ho:o.op=.binOp op t x y t') {p q:Xs} (hx:ev e x=.c (.agg p)) (hy:ev e y=.c (.agg q))
  {b:Bool} (hb:eqAgg P t p q=some b) (hop:op=.eql∨op=.neq) (hK:K (putO e o.dst (.c (.s (.bool (if op=.eql then b else !b)))))=some r):Pure1 P base pb w e a K r o:=by
 refine pureA hK (v:=.bool _) (fun w' hw=>?_) rfl rfl
 simp only [execOp,ho]
 refine run_v ?_
 obtain ⟨h1,h2⟩:=eqAgg_run hb w'
 rw [ev_agg h hx,ev_agg h hy,Sem.run_bind,h2,Result.andThen_ok]
 rcases hop with rfl | rfl
 ·rw [run_eql_struct,h1];simp
 ·rw [run_neq_struct,h1];simp
theorem op_un (h:Sim P base pb w0 w e a.tmps) {op:UnOp} {t:TypeId} {x:Operand} (ho:o.op=.unOp op t x) {p q:S} (hx:ev e x=.c (.s p)) (hq:uop op p=some q)
  (hK:K (putO e o.dst (.c (.s q)))=some r):Pure1 P base pb w e a K r o:=by
 refine pureA hK (v:=q.enc) (fun w' hw=>?_) rfl rfl
 simp only [execOp,ho]
 refine run_v ?_
 rw [ev_s h hx]
 exact uop_run hq w'
theorem at?_some {α:Type} {l:List α} {i:Int} {x:α} (h:at? l i=some x):0≤i∧l[i.toNat]?=some x:=by
 unfold at? at h;split at h
 ·exact ⟨‹_›,h⟩
 ·cases h
theorem bind_some {α β:Type} {x:Option α} {f:α→Option β} {y:β} (h:x.bind f=some y):∃ z,x=some z∧f z=some y:=by
 cases x with
 | none=>cases h
 | some z=>exact ⟨z,rfl,h⟩
theorem getElem?_mk (l:List UInt8) (n:Nat):(⟨⟨l⟩⟩:ByteArray)[n]?=l[n]?:=by
 by_cases h:n<l.length
 ·rw [ByteArray.getElem?_lt' _ _ h,List.getElem?_eq_getElem h];rfl
 ·rw [ByteArray.getElem?_ge' _ _ h,List.getElem?_eq_none (by omega)]
theorem op_indexS (h:Sim P base pb w0 w e a.tmps) {t:TypeId} {x i:Operand} (ho:o.op=.index t x i) (ht:P.underlying t=some .string) {l:List UInt8} {k:IntKind} {n:Int}
  (hx:ev e x=.c (.s (.str l))) (hi:ev e i=.c (.s (.int k n))) (hK:((at? l n).bind fun b=>K (putO e o.dst (.c (.s (.int .u8 b.toNat)))))=some r):Pure1 P base pb w e a K r o:=by
 obtain ⟨b,h1,h2⟩:=bind_some hK
 obtain ⟨h3,h4⟩:=at?_some h1
 refine pureA h2 (v:=.int .u8 b.toNat) (fun w' hw=>?_) rfl rfl
 simp only [execOp,ho]
 refine run_v ?_
 rw [ev_s h hx,ev_s h hi]
 simp [Instr.index,S.enc,asIntOf,run_underlying ht,h3,getElem?_mk,h4]
theorem Xs.toS_of_enc {x:Xs} {i:Nat} {s:S} (h:x.toS[i]?=some s):x.enc[i]?=some s.enc:=by simp [Xs.enc,h]
theorem atK_some {x:Xs} {i:Int} {K:S→Option Out} (h:x.atK i K=some r):∃ s,0≤i∧x.toS[i.toNat]?=some s∧K s=some r:=by
 cases x with
 | ints k l=>obtain ⟨n,h1,h2⟩:=bind_some h;obtain ⟨h3,h4⟩:=at?_some h1;exact ⟨_,h3,by simp [Xs.toS,h4],h2⟩
 | strs l=>obtain ⟨n,h1,h2⟩:=bind_some h;obtain ⟨h3,h4⟩:=at?_some h1;exact ⟨_,h3,by simp [Xs.toS,h4],h2⟩
 | ss l=>obtain ⟨n,h1,h2⟩:=bind_some h;obtain ⟨h3,h4⟩:=at?_some h1;exact ⟨_,h3,by simp [Xs.toS,h4],h2⟩
theorem atN_some {x:Xs} {i:Nat} {K:S→Option Out} (h:x.atN i K=some r):∃ s,x.toS[i]?=some s∧K s=some r:=by
 cases x with
 | ints k l=>obtain ⟨n,h1,h2⟩:=bind_some h;exact ⟨_,by simp [Xs.toS,h1],h2⟩
 | strs l=>obtain ⟨n,h1,h2⟩:=bind_some h;exact ⟨_,by simp [Xs.toS,h1],h2⟩
 | ss l=>obtain ⟨n,h1,h2⟩:=bind_some h;exact ⟨_,by simp [Xs.toS,h1],h2⟩
theorem cell1_info {t:TypeId} (h:cell1 P t=true):(∃ i,P.info? t=some i∧i.size=1)∧∀ w,(isAgg t).run P w=.ok false w:=by
 unfold cell1 at h
 split at h
 ·rename_i d i h1 h2
  simp only [Bool.and_eq_true,beq_iff_eq] at h
  refine ⟨⟨i,h2,h.2⟩,fun w=>?_⟩
  cases d<;>simp [plainDesc] at h<;>simp [isAgg,run_underlying h1]
 ·cases h
theorem run_sizeOf1 {t:TypeId} (h:cell1 P t=true) (w:World):(sizeOf t).run P w=.ok 1 w:=by
 obtain ⟨⟨i,h1,h2⟩,-⟩:=cell1_info h
 simp [sizeOf,typeInfo,h1,h2]
theorem op_indexA (h:Sim P base pb w0 w e a.tmps) {t el:TypeId} {m:Nat} {x i:Operand} (ho:o.op=.index t x i) (ht:P.underlying t=some (.array m el)) {l:Xs} {k:IntKind} {n:Int}
  (hx:ev e x=.c (.agg l)) (hi:ev e i=.c (.s (.int k n))) (hc:cell1 P el=true) (hK:(bif decide (n<(m:Int)) then l.atK n (fun s=>K (putO e o.dst (.c (.s s)))) else none)=some r):Pure1 P base pb w e a K r o:=by
 cases hd:decide (n<(m:Int))
 ·rw [hd] at hK;cases hK
 ·rw [hd] at hK
  obtain ⟨s,h1,h2,h3⟩:=atK_some hK
  have hd':n<(m:Int):=by simpa using hd
  refine pureA h3 (v:=s.enc) (fun w' hw=>?_) rfl rfl
  simp only [execOp,ho]
  refine run_v ?_
  rw [ev_agg h hx,ev_s h hi]
  have hv:l.enc.toArray[n.toNat]?=some s.enc:=by simpa using Xs.toS_of_enc h2
  have hp:=part_plain (w:=w') ((cell1_info hc).2 w') hv
  simp only [Instr.index,S.enc,asIntOf,Sem.run_bind,Sem.run_pure,Result.andThen_ok,run_underlying ht,Sem.run_ite,if_pos (And.intro h1 hd'),run_sizeOf1 hc,Nat.mul_one]
  exact hp
end Go.Proofs.YtffmgholjdfcnaaGreatDoor.AM
set_option linter.unusedSimpArgs false
namespace Go.Proofs.YtffmgholjdfcnaaGreatDoor.AM
open Go
variable {P:Program} {base:Nat} {pb:Option Nat} {w0 w w':World} {e:Env} {a:Act}
variable {K:Env→Option Out} {r:Out} {next:Act→World→Prop} {Q:Exit→Act→World→Prop} {o:Oper}
theorem optI_rel (h:Sim P base pb w0 w e a.tmps) {x:Option Operand} {i:Option Int} (hx:optI e x=some i) :
  (i=none∧x.map a.eval=none)∨∃ n k,i=some n∧x.map a.eval=some (.int k n):=by
 cases x with
 | none=>simp only [optI,Option.some.injEq] at hx;exact .inl ⟨hx.symm,rfl⟩
 | some y =>
  simp only [optI] at hx
  split at hx
  ·rename_i k n hy
   simp only [Option.some.injEq] at hx
   exact .inr ⟨n,k,hx.symm,by simp [ev_s h hy,S.enc]⟩
  ·cases hx
theorem run_sliceBounds (isS:Bool) {len cap:Nat} {lo hi:Option Int} {vl vh:Option Value} (hlc:len≤cap)
  (h1:(lo=none∧vl=none)∨∃ n k,lo=some n∧vl=some (.int k n)) (h2:(hi=none∧vh=none)∨∃ n k,hi=some n∧vh=some (.int k n))
  (h:0≤lo.getD 0∧lo.getD 0≤hi.getD len∧hi.getD len≤len) (w:World) :
  (Instr.sliceBounds isS len cap vl vh none).run P w=.ok ((lo.getD 0).toNat,(hi.getD len).toNat,cap) w:=by
 obtain ⟨h3,h4,h5⟩:=h
 rcases h1 with ⟨rfl,rfl⟩ | ⟨n,k,rfl,rfl⟩
 ·rcases h2 with ⟨rfl,rfl⟩ | ⟨m,k',rfl,rfl⟩
  ·simp [Instr.sliceBounds]
  ·simp only [Option.getD_some] at h3 h4 h5
   simp only [Instr.sliceBounds,Sem.run_bind,Sem.run_pure,Result.andThen_ok,Option.getD_none,Option.getD_some]
   have:=run_sliceBound (P:=P) (w:=w) k' m cap (if isS then .sliceAcap else .sliceAlen) (by simpa using h4) (by omega)
   rw [this];simp
 ·rcases h2 with ⟨rfl,rfl⟩ | ⟨m,k',rfl,rfl⟩
  ·simp only [Option.getD_some,Option.getD_none] at h3 h4 h5
   simp only [Instr.sliceBounds,Sem.run_bind,Sem.run_pure,Result.andThen_ok,Option.getD_none,Option.getD_some]
   have:=run_sliceBound (P:=P) (w:=w) k n len .sliceB h3 h4
   simp [this]
  ·simp only [Option.getD_some] at h3 h4 h5
   simp only [Instr.sliceBounds,Sem.run_bind,Sem.run_pure,Result.andThen_ok,Option.getD_some]
   rw [run_sliceBound (P:=P) (w:=w) k' m cap (if isS then .sliceAcap else .sliceAlen) (by omega) (by omega)]
   simp only [Result.andThen_ok]
   have:=run_sliceBound (P:=P) (w:=w) k n m.toNat .sliceB h3 (by omega)
   simp [this]
theorem op_sliceS (h:Sim P base pb w0 w e a.tmps) {t:TypeId} {x:Operand} {lo hi:Option Operand} (ho:o.op=.slice t x lo hi none) (ht:P.underlying t=some .string) {l:List UInt8}
  (hx:ev e x=.c (.s (.str l))) {i j:Option Int} (hi0:optI e lo=some i) (hj:optI e hi=some j) (hK:((cut l i j).bind fun z=>K (putO e o.dst (.c (.s (.str z)))))=some r):Pure1 P base pb w e a K r o:=by
 obtain ⟨z,h1,h2⟩:=bind_some hK
 unfold cut at h1
 split at h1
 ·rename_i hc
  simp only [Option.some.injEq] at h1
  refine pureA h2 (v:=.string ⟨⟨z⟩⟩) (fun w' hw=>?_) rfl rfl
  simp only [execOp,ho]
  refine run_v ?_
  rw [ev_s h hx]
  have hb:=run_sliceBounds (P:=P) false (Nat.le_refl l.length) (optI_rel h hi0) (optI_rel h hj) hc w'
  simp only [S.enc,Option.map_none,Instr.sliceAt,Instr.slice,Sem.run_bind,run_underlying ht,Result.andThen_ok,size_mk,hb,Option.isSome_none,Bool.false_eq_true,if_false,Sem.run_pure,extract_mk,← h1]
 ·cases h1
theorem cutN_some {n:Nat} {lo hi:Option Int} {p:Nat × Nat} (h:cutN n lo hi=some p) :
  (0≤lo.getD 0∧lo.getD 0≤hi.getD n∧hi.getD n≤n)∧p.1=(lo.getD 0).toNat∧p.2=(hi.getD n).toNat - (lo.getD 0).toNat∧p.1+p.2≤n∧(lo.getD 0).toNat+p.2=(hi.getD n).toNat:=by
 unfold cutN at h
 split at h
 ·rename_i hc
  simp only [Option.some.injEq] at h
  subst h
  refine ⟨hc,rfl,rfl,?_,?_⟩<;>simp<;>omega
 ·cases h
theorem run_sliceSl {t el:TypeId} (ht:P.underlying t=some (.slice el)) (hc:cell1 P el=true) {A:Option Addr} {len cap:Nat} (hlc:len≤cap) {lo hi:Option Int} {vl vh:Option Value}
  (h1:(lo=none∧vl=none)∨∃ n k,lo=some n∧vl=some (.int k n)) (h2:(hi=none∧vh=none)∨∃ n k,hi=some n∧vh=some (.int k n)) {p:Nat × Nat} (hp:cutN len lo hi=some p) (w:World) :
  (Instr.sliceAt t (.slice A len cap) vl vh none).run P w=.ok (.slice (if cap=p.1 then A else A.map (·.add p.1)) p.2 (cap - p.1)) w:=by
 obtain ⟨hb,hp1,hp2,-,-⟩:=cutN_some hp
 have hr:=run_sliceBounds (P:=P) true hlc h1 h2 hb w
 simp only [Instr.sliceAt,Instr.slice,Sem.run_bind,run_underlying ht,Result.andThen_ok,hr,run_sizeOf1 hc,Sem.run_pure,Nat.mul_one,hp1,hp2]
theorem contentB_of {s:Nat} {x:Xs} (h:content e s=some x):contentB e s=some x:=by
 unfold content at h;unfold contentB
 split at h<;>simp_all
theorem isSl_of {s:Nat} {x:Xs} (h:content e s=some x):isSl (e.getD s .u)=true:=by
 unfold content at h;split at h<;>simp_all [isSl]
theorem owner_slice (h:Sim P base pb w0 w e a.tmps) {s:Nat} {x:Xs} (hx:content e s=some x):∃ A cap,a.tmps.getD s undef=.slice A x.len cap∧x.len≤cap∧(0<x.len→∃ b,A=some b):=by
 have hr:=h.rel s
 unfold content at hx
 split at hx
 ·rename_i y hy
  simp only [Option.some.injEq] at hx;subst hx
  rw [hy] at hr
  rcases hr with ⟨h1,h2⟩ | ⟨b,cap,T,Cs,fr,h1,h2,h3,h4⟩
  ·exact ⟨none,0,by rw [h1,h2],by omega,fun hl=>by omega⟩
  ·exact ⟨_,cap,h1,h3,fun _=>⟨_,rfl⟩⟩
 ·rename_i y hy
  simp only [Option.some.injEq] at hx;subst hx
  rw [hy] at hr
  obtain ⟨A,cap,h1,h2,h3⟩:=hr
  exact ⟨A,cap,h1,h2,fun hl=>(h3 0 hl).imp fun b hb=>hb.1⟩
 ·cases hx
theorem cut1_eq {n:Nat} {lo hi:Option Int} {p:Nat × Nat} (h:cutN n lo hi=some p):cut1 lo p=p.1:=by
 cases lo with
 | none=>rw [(cutN_some h).2.1];rfl
 | some k=>rfl
theorem op_sliceAll (h:Sim P base pb w0 w e a.tmps) {t el:TypeId} {x:Operand} {lo hi:Option Operand} (ho:o.op=.slice t x lo hi none) (ht:P.underlying t=some (.slice el)) (hc:cell1 P el=true) {s:Nat} {y:Xs}
  (hx:ev e x=.all s) (hy:content e s=some y) {i j:Option Int} (hi0:optI e lo=some i) (hj:optI e hi=some j) (hK:((cutN y.len i j).bind fun p=>K (putO e o.dst (.ali s (cut1 i p) p.2)))=some r):Pure1 P base pb w e a K r o:=by
 obtain ⟨p,h1,h2⟩:=bind_some hK
 rw [cut1_eq h1] at h2
 obtain ⟨A,cap,h3,h4,h5⟩:=owner_slice h hy
 have hv:a.eval x=.slice A y.len cap:=by have:=(ev_rel h x).1;rw [hx] at this;exact this.2.trans h3
 have hr:=run_sliceSl (P:=P) ht hc (A:=A) h4 (optI_rel h hi0) (optI_rel h hj) h1
 obtain ⟨hb,hp1,hp2,hp3,hp4⟩:=cutN_some h1
 refine pureA h2 (v:=.slice (if cap=p.1 then A else A.map (·.add p.1)) p.2 (cap - p.1)) (fun w' hw=>?_) ⟨isSl_owner (isSl_of hy),⟨_,_,rfl,by omega,?_,?_⟩,?_,?_⟩ rfl
 ·simp only [execOp,ho]
  refine run_v ?_
  rw [hv];exact hr w'
 ·intro hl
  obtain ⟨b,rfl⟩:=h5 (by omega)
  refine ⟨b,by rw [h3];rfl,?_⟩
  rw [if_neg (by omega)];rfl
 ·intro hz A' len' cap' hA
  rw [h3] at hA
  cases hA
  rw [hz]
  refine ⟨?_,by omega⟩
  split
  ·rfl
  ·cases A<;>simp [Addr.add]
 ·intro x' hx'
  rw [contentB_of hy] at hx';cases hx';exact hp3
 ·intro T' y' hT';rw [content,hT'] at hy;cases hy
theorem op_sliceAli (h:Sim P base pb w0 w e a.tmps) {t el:TypeId} {x:Operand} {lo hi:Option Operand} (ho:o.op=.slice t x lo hi none) (ht:P.underlying t=some (.slice el)) (hc:cell1 P el=true) {s lo0 n:Nat}
  (hx:ev e x=.ali s lo0 n) {i j:Option Int} (hi0:optI e lo=some i) (hj:optI e hi=some j) (hK:((cutN n i j).bind fun p=>K (putO e o.dst (.ali s (lo0+cut1 i p) p.2)))=some r):Pure1 P base pb w e a K r o:=by
 obtain ⟨p,h1,h2⟩:=bind_some hK
 rw [cut1_eq h1] at h2
 have hv:=(ev_rel h x).1
 rw [hx] at hv
 obtain ⟨g1,⟨A,c,g2,g3,g4,g5⟩,g6,g7⟩:=hv
 have hr:=run_sliceSl (P:=P) ht hc (A:=A) g3 (optI_rel h hi0) (optI_rel h hj) h1
 obtain ⟨hb,hp1,hp2,hp3,hp4⟩:=cutN_some h1
 refine pureA h2 (v:=.slice (if c=p.1 then A else A.map (·.add p.1)) p.2 (c - p.1)) (fun w' hw=>?_) ⟨g1,⟨_,_,rfl,by omega,?_,?_⟩,?_,?_⟩ rfl
 ·simp only [execOp,ho]
  refine run_v ?_
  rw [g2];exact hr w'
 ·intro hl
  obtain ⟨b,k1,rfl⟩:=g4 (by omega)
  refine ⟨b,k1,?_⟩
  rw [if_neg (by omega)]
  simp [Addr.add_add']
 ·intro hz A' len' cap' hA
  obtain ⟨k1,k2⟩:=g5 (by omega) A' len' cap' hA
  have:p.1=0:=by omega
  rw [this]
  refine ⟨?_,by omega⟩
  subst k1
  split
  ·rfl
  ·cases A<;>simp [Addr.add]
 ·intro x' hx'
  have:=g6 x' hx'
  omega
 ·intro T' y' hT' hz
  obtain ⟨A',c',k1,k2,k3⟩:=g7 T' y' hT' (by omega)
  rw [g2] at k2
  cases k2
  have h0:p.1=0:=by omega
  refine ⟨A',c - p.1,k1,?_,by omega⟩
  rw [h0]
  split<;>simp [Addr.add]
theorem op_sliceNil (h:Sim P base pb w0 w e a.tmps) {t el:TypeId} {x:Operand} {lo hi:Option Operand} (ho:o.op=.slice t x lo hi none) (ht:P.underlying t=some (.slice el))
  (hs:∃ n,∀ w,(sizeOf el).run P w=.ok n w) (hx:ev e x=.c (.s .nils)) {i j:Option Int} (hi0:optI e lo=some i) (hj:optI e hi=some j) (hK:((cutN 0 i j).bind fun _=>K (putO e o.dst (.c (.s .nils))))=some r):Pure1 P base pb w e a K r o:=by
 obtain ⟨p,h1,h2⟩:=bind_some hK
 obtain ⟨hb,hp1,hp2,hp3,hp4⟩:=cutN_some h1
 obtain ⟨n,hs⟩:=hs
 refine pureA h2 (v:=.slice none 0 0) (fun w' hw=>?_) rfl rfl
 simp only [execOp,ho]
 refine run_v ?_
 have hr:=run_sliceBounds (P:=P) true (Nat.le_refl 0) (optI_rel h hi0) (optI_rel h hj) hb
 rw [ev_s h hx]
 simp only [S.enc,Instr.sliceAt,Instr.slice,Option.map_none,Sem.run_bind,run_underlying ht,Result.andThen_ok,hr,hs,Sem.run_pure]
 have e1:(i.getD 0).toNat=0:=by omega
 have e2:(j.getD ((0:Nat):Int)).toNat=0:=by omega
 simp only [Int.natCast_zero] at e2
 simp [e1,e2]
theorem op_sliceArr (h:Sim P base pb w0 w e a.tmps) {t el:TypeId} {m:Nat} {x:Operand} {lo hi:Option Operand} (ho:o.op=.slice t x lo hi none) (ht:P.underlying t=some (.array m el)) (hc:cell1 P el=true) {s off:Nat}
  (hx:ev e x=.via s off) {T:Nat} {y:Xs} (hy:e.getD s .u=.box T y) (hm:off+m≤y.len) {i j:Option Int} (hi0:optI e lo=some i) (hj:optI e hi=some j) (hK:((cutN m i j).bind fun p=>K (putO e o.dst (.ali s (off+cut1 i p) p.2)))=some r):Pure1 P base pb w e a K r o:=by
 obtain ⟨p,h1,h2⟩:=bind_some hK
 rw [cut1_eq h1] at h2
 have hv:=(ev_rel h x).1
 rw [hx] at hv
 obtain ⟨g1,A,g2,g3⟩:=hv
 obtain ⟨hb,hp1,hp2,hp3,hp4⟩:=cutN_some h1
 have hr:=run_sliceBounds (P:=P) false (Nat.le_refl m) (optI_rel h hi0) (optI_rel h hj) hb
 have hbox:=h.rel s
 rw [hy] at hbox
 obtain ⟨b,hb1,hb2,hb3⟩:=hbox
 refine pureA h2 (v:=.slice (some (if m=p.1 then A.add off else (A.add off).add p.1)) p.2 (m - p.1)) (fun w' hw=>?_) ⟨g1,⟨_,_,rfl,by omega,?_,?_⟩,?_,?_⟩ rfl
 ·simp only [execOp,ho]
  refine run_v ?_
  rw [g3]
  simp only [Instr.sliceAt,Option.map_none,Instr.sureAddr,Sem.run_bind,run_underlying ht,Sem.run_pure,Result.andThen_ok,hr,run_sizeOf1 hc,Nat.mul_one,hp1,hp2]
 ·intro hl
  refine ⟨A,g2,?_⟩
  rw [if_neg (by omega)]
  simp [Addr.add_add']
 ·intro _ A' len' cap' hA
  rw [hb1] at hA;cases hA
 ·intro x' hx'
  simp only [contentB,hy,Option.some.injEq] at hx'
  subst hx'
  omega
 ·intro T' y' hT' hz
  rw [hy] at hT'
  cases hT'
  rw [hb1] at g2 ⊢
  simp only [baseOf,Option.some.injEq] at g2
  subst g2
  have h0:p.1=0:=by omega
  have h00:off=0:=by omega
  refine ⟨_,m - p.1,rfl,?_,by omega⟩
  rw [h0,h00]
  simp [Addr.add]
end Go.Proofs.YtffmgholjdfcnaaGreatDoor.AM
set_option linter.unusedSimpArgs false
namespace Go.Proofs.YtffmgholjdfcnaaGreatDoor.AM
open Go
variable {P:Program} {base:Nat} {pb:Option Nat} {w0 w w':World} {e:Env} {a:Act}
variable {K:Env→Option Out} {r:Out} {next:Act→World→Prop} {Q:Exit→Act→World→Prop} {o:Oper}
theorem cut_toS (x:Xs) (lo n:Nat):(x.cut lo n).toS=(x.toS.drop lo).take n:=by cases x<;>simp [Xs.cut,Xs.toS,List.map_drop,List.map_take]
theorem cut_enc (x:Xs) (lo n:Nat):(x.cut lo n).enc=(x.enc.drop lo).take n:=by simp [Xs.enc,cut_toS,List.map_drop,List.map_take]
theorem cut_len (x:Xs) (lo n:Nat) (h:lo+n≤x.len):(x.cut lo n).len=n:=by rw [← Xs.len_toS,cut_toS];rw [← Xs.len_toS] at h;simp;omega
theorem Addr.zero_add (b n:Nat):(⟨b,0,none⟩:Addr).add n=⟨b,n,none⟩:=by unfold Addr.add;split<;>simp_all
theorem Xs.lt_of {x:Xs} {i:Nat} {s:S} (h:x.toS[i]?=some s):i<x.len:=by rw [← Xs.len_toS];exact (List.getElem?_eq_some_iff.1 h).1
theorem cell_atR {tm:Array Value} {s:Nat} (hr:RelV P base pb w e tm (e.getD s .u) (tm.getD s undef)) {x:Xs} (hx:contentB e s=some x) {i:Nat} {y:S} (hy:x.toS[i]?=some y) :
  ∃ A,baseOf (tm.getD s undef)=some A∧w.cell? (A.add i)=some y.enc:=by
 have hi:=Xs.lt_of hy
 have hye:=Xs.toS_of_enc hy
 unfold contentB at hx
 split at hx
 ·rename_i z hz
  cases hx
  rw [hz] at hr
  rcases hr with ⟨h1,h2⟩ | ⟨b,cap,T,Cs,fr,h1,h2,h3,h4,h5,h6⟩
  ·omega
  ·refine ⟨⟨b,0,none⟩,by rw [h1];rfl,?_⟩
   rw [Addr.zero_add]
   simp [World.cell?,h2,h6 i hi,hye]
 ·rename_i z hz
  cases hx
  rw [hz] at hr
  obtain ⟨A,cap,h1,h2,h3⟩:=hr
  obtain ⟨b,rfl,h4,h5,h6⟩:=h3 i hi
  exact ⟨b,by rw [h1];rfl,by rw [h6,hye]⟩
 ·rename_i T z hz
  cases hx
  rw [hz] at hr
  obtain ⟨b,h1,h2,h3⟩:=hr
  refine ⟨⟨b,0,none⟩,by rw [h1];rfl,?_⟩
  rw [Addr.zero_add]
  simp [World.cell?,h2,hye]
 ·cases hx
theorem cell_at (h:Sim P base pb w0 w e a.tmps) {s:Nat} {x:Xs} (hx:contentB e s=some x) {i:Nat} {y:S} (hy:x.toS[i]?=some y) :
  ∃ A,baseOf (a.tmps.getD s undef)=some A∧w.cell? (A.add i)=some y.enc:=cell_atR (h.rel s) hx hy
theorem cells_atR {tm:Array Value} {s:Nat} (h:RelV P base pb w e tm (e.getD s .u) (tm.getD s undef)) {x:Xs} (hx:contentB e s=some x) {lo n:Nat} (hl:lo+n≤x.len) {A:Addr} (hA:0<n→baseOf (tm.getD s undef)=some A) :
  (loadCells (A.add lo) n).run P w=.ok (x.cut lo n).enc.toArray w:=by
 have hlen:(x.cut lo n).enc.length=n:=by rw [Xs.len_enc,cut_len x lo n hl]
 have:=run_loadCells_list (P:=P) w (A.add lo) (x.cut lo n).enc (by
  intro j v hj
  have hjn:j<n:=by rw [← hlen];exact (List.getElem?_eq_some_iff.1 hj).1
  rw [cut_enc,List.getElem?_take_of_lt hjn,List.getElem?_drop,Xs.enc,List.getElem?_map] at hj
  cases hs:x.toS[lo+j]? with
  | none=>rw [hs] at hj;cases hj
  | some y =>
   rw [hs] at hj
   simp only [Option.map_some,Option.some.injEq] at hj
   obtain ⟨A',h1,h2⟩:=cell_atR h hx hs
   rw [hA (by omega)] at h1
   cases h1
   rw [Addr.add_add',h2,hj])
 rw [hlen] at this
 exact this
theorem cells_at (h:Sim P base pb w0 w e a.tmps) {s:Nat} {x:Xs} (hx:contentB e s=some x) {lo n:Nat} (hl:lo+n≤x.len) {A:Addr} (hA:0<n→baseOf (a.tmps.getD s undef)=some A) :
  (loadCells (A.add lo) n).run P w=.ok (x.cut lo n).enc.toArray w:=cells_atR (h.rel s) hx hl hA
theorem bytes_fold (ns:List Int):∀ s:List UInt8,ns.foldl (fun (r:ByteArray) n=>r.push (UInt8.ofNat n.toNat)) ⟨⟨s⟩⟩=⟨⟨s++ns.map fun n=>UInt8.ofNat n.toNat⟩⟩:=by
 induction ns with
 | nil=>intro s;simp
 | cons n ns ih =>
  intro s
  rw [List.foldl_cons]
  have:(⟨⟨s⟩⟩:ByteArray).push (UInt8.ofNat n.toNat)=⟨⟨s++[UInt8.ofNat n.toNat]⟩⟩:=by apply ByteArray.ext;simp [ByteArray.data_push]
  rw [this,ih]
  simp
theorem bytesOf_some {x:Xs} {l:List UInt8} (h:bytesOf x=some l):∃ ns:List Int,x.enc=ns.map (Value.int .u8)∧l=ns.map fun n=>UInt8.ofNat n.toNat:=by
 unfold bytesOf at h
 split at h
 ·rename_i ns;cases h;exact ⟨ns,by simp [Xs.enc,Xs.toS,S.enc],rfl⟩
 ·cases h;exact ⟨[],rfl,rfl⟩
 ·cases h
theorem run_bytes {x:Xs} {l:List UInt8} (h:bytesOf x=some l) {A:Addr} {n c:Nat} (hl:(loadCells A n).run P w=.ok x.enc.toArray w) :
  (Conv.bytesToString (.slice (some A) n c)).run P w=.ok (.string ⟨⟨l⟩⟩) w:=by
 obtain ⟨ns,h1,h2⟩:=bytesOf_some h
 rw [run_bytesToString w A n c ns (by rw [hl,h1]),h2]
 have:=bytes_fold ns []
 simp only [List.nil_append] at this
 rw [← this];rfl
theorem run_bytes0 {x:Xs} {l:List UInt8} (h:bytesOf x=some l) (hx:x.len=0) {A:Option Addr} {c:Nat} :
  (Conv.bytesToString (.slice A 0 c)).run P w=.ok (.string ⟨⟨l⟩⟩) w:=by
 obtain ⟨ns,h1,h2⟩:=bytesOf_some h
 have hns:ns=[]:=by
  have:=congrArg List.length h1
  rw [Xs.len_enc,hx] at this
  simpa using this.symm
 subst hns
 subst h2
 cases A with
 | none=>simp [Conv.bytesToString];rfl
 | some A =>
  exact run_bytesToString (P:=P) w A 0 c [] (by rw [loadCells,loadCellsFrom];simp)
theorem op_convI (h:Sim P base pb w0 w e a.tmps) {s d:TypeId} {x:Operand} (ho:o.op=.convert s d x) {ds:TypeDesc} {k k':IntKind} {n:Int} (hs:P.underlying s=some ds) (hd:P.underlying d=some (.int k))
  (hx:ev e x=.c (.s (.int k' n))) (hK:K (putO e o.dst (.c (.s (.int k (k.wrap n)))))=some r):Pure1 P base pb w e a K r o:=by
 refine pure1 hK (hm:=by simp only [memO,ho]) (hl:=by simp only [ldSlot,ho]) (v:=.int k (k.wrap n)) (fun w' hw=>?_) rfl rfl
 simp only [execOp,ho]
 refine run_v ?_
 rw [ev_s h hx]
 simp [convert,S.enc,run_underlying hs,run_underlying hd,Conv.intToInt]
theorem op_convR (h:Sim P base pb w0 w e a.tmps) {s d:TypeId} {x:Operand} (ho:o.op=.convert s d x) {ds:TypeDesc} {k':IntKind} {n:Int} (hs:P.underlying s=some ds) (hd:P.underlying d=some .string)
  (hx:ev e x=.c (.s (.int k' n))) (hK:K (putO e o.dst (.c (.s (.str (Utf8.encode n).data.toList))))=some r):Pure1 P base pb w e a K r o:=by
 refine pure1 hK (hm:=by simp only [memO,ho]) (hl:=by simp only [ldSlot,ho]) (v:=.string (Utf8.encode n)) (fun w' hw=>?_) rfl rfl
 simp only [execOp,ho]
 refine run_v ?_
 rw [ev_s h hx]
 simp [convert,S.enc,run_underlying hs,run_underlying hd,Conv.intToString]
theorem op_convS (h:Sim P base pb w0 w e a.tmps) {s d:TypeId} {x:Operand} (ho:o.op=.convert s d x) {ds:TypeDesc} {l:List UInt8} (hs:P.underlying s=some ds) (hd:P.underlying d=some .string)
  (hx:ev e x=.c (.s (.str l))) (hK:K (putO e o.dst (.c (.s (.str l))))=some r):Pure1 P base pb w e a K r o:=by
 refine pure1 hK (hm:=by simp only [memO,ho]) (hl:=by simp only [ldSlot,ho]) (v:=.string ⟨⟨l⟩⟩) (fun w' hw=>?_) rfl rfl
 simp only [execOp,ho]
 refine run_v ?_
 rw [ev_s h hx]
 simp [convert,S.enc,run_underlying hs,run_underlying hd]
theorem op_convB (h:Sim P base pb w0 w e a.tmps) {s d t:TypeId} {x:Operand} (ho:o.op=.convert s d x) (hs:P.underlying s=some (.slice t)) (hd:P.underlying d=some .string) (ht:P.underlying t=some (.int .u8))
  {sl lo n:Nat} {y:Xs} {l:List UInt8} (hx:(ev e x=.all sl∧content e sl=some y∧lo=0∧n=y.len)∨(ev e x=.ali sl lo n)) (hy:contentB e sl=some y) (hl:bytesOf (y.cut lo n)=some l) (hK:K (putO e o.dst (.c (.s (.str l))))=some r):Pure1 P base pb w e a K r o:=by
 refine pure1 hK (hm:=by simp only [memO,ho]) (hl:=by simp only [ldSlot,ho]) (v:=.string ⟨⟨l⟩⟩) (fun w' hw=>?_) rfl rfl
 simp only [execOp,ho]
 refine run_v ?_
 have hv:=(ev_rel h x).1
 have key:∃ A c,a.eval x=.slice A n c∧(0<n→∃ b,baseOf (a.tmps.getD sl undef)=some b∧A=some (b.add lo))∧lo+n≤y.len:=by
  rcases hx with ⟨h1,h2,rfl,rfl⟩ | h1
  ·rw [h1] at hv
   obtain ⟨A,cap,h3,h4,h5⟩:=owner_slice h h2
   refine ⟨A,cap,hv.2.trans h3,fun hl=>?_,by omega⟩
   obtain ⟨b,rfl⟩:=h5 hl
   exact ⟨b,by rw [h3];rfl,by simp [Addr.add]⟩
  ·rw [h1] at hv
   obtain ⟨g1,⟨A,c,g2,g3,g4,g5⟩,g6⟩:=hv
   exact ⟨A,c,g2,g4,g6.1 y hy⟩
 obtain ⟨A,c,hev,hA,hlen⟩:=key
 rw [hev,run_convert_bytes_string w' s d t A n c hs ht hd]
 by_cases hz:n=0
 ·subst hz
  exact run_bytes0 hl (cut_len y lo 0 (by omega))
 ·obtain ⟨b,h1,rfl⟩:=hA (by omega)
  exact run_bytes hl (cells_at (h.ext hw) hy hlen fun _=>h1)
theorem op_convN (h:Sim P base pb w0 w e a.tmps) {s d t:TypeId} {x:Operand} (ho:o.op=.convert s d x) (hs:P.underlying s=some (.slice t)) (hd:P.underlying d=some .string) (ht:P.underlying t=some (.int .u8))
  (hx:ev e x=.c (.s .nils)) (hK:K (putO e o.dst (.c (.s (.str []))))=some r):Pure1 P base pb w e a K r o:=by
 refine pure1 hK (hm:=by simp only [memO,ho]) (hl:=by simp only [ldSlot,ho]) (v:=.string ⟨⟨[]⟩⟩) (fun w' hw=>?_) rfl rfl
 simp only [execOp,ho]
 refine run_v ?_
 rw [ev_s h hx]
 simp only [S.enc]
 rw [run_convert_bytes_string w' s d t none 0 0 hs ht hd]
 simp [Conv.bytesToString];rfl
theorem run_part {t:TypeId} {x:Xs} {off:Nat} {c:C} (h:partC P t x off=some c) (w:World):∃ v,(∀ w,(part t x.enc.toArray off).run P w=.ok v w)∧RelC base pb w c v∧blksC c v=[]∧resOk c=true:=by
 unfold partC at h
 split at h
 ·rename_i b h1
  split at h
  ·rename_i s hs
   cases h
   exact ⟨s.enc,fun w=>part_plain ((cell1_info h1).2 w) (by simpa using Xs.toS_of_enc hs),rfl,rfl,rfl⟩
  ·cases h
 ·rename_i h1 h2
  split at h
  ·rename_i hb
   cases h
   refine ⟨.agg (Xs.ss ((x.toS.drop off).take (P.cellsOf t))).enc.toArray,fun w=>?_,rfl,rfl,rfl⟩
   have hag:(isAgg t).run P w=.ok true w:=by
    unfold isAggB at h2
    split at h2<;>first | (cases h2;done) | skip
    all_goals (rename_i hu;first | simp [isAgg,run_underlying hu] | (cases h2;done))
   have hsz:(sizeOf t).run P w=.ok (P.cellsOf t) w:=by
    unfold isAggB at h2
    unfold Program.underlying at h2
    cases hi:P.info? t with
    | none=>rw [hi] at h2;simp at h2
    | some i=>simp [sizeOf,typeInfo,hi,Program.cellsOf]
   simp [part,hag,hsz,Xs.enc,Xs.toS,List.map_drop,List.map_take]
  ·cases h
 ·cases h
theorem fieldOff_some {t f off ft:Nat} (h:fieldOff P t f=some (off,ft)):∃ fs fd,P.underlying t=some (.struct fs)∧fs[f]?=some fd∧fd.offset=off∧fd.type=ft∧P.cellsOf ft ≠ 0:=by
 unfold fieldOff at h
 split at h
 ·rename_i fs hu
  split at h
  ·rename_i fd hf
   split at h
   ·cases h
   ·rename_i n hn
    cases h
    exact ⟨fs,fd,hu,hf,rfl,rfl,by rw [hn];omega⟩
  ·cases h
 ·cases h
theorem op_field (h:Sim P base pb w0 w e a.tmps) {t:TypeId} {x:Operand} {f off ft:Nat} (ho:o.op=.field t x f) {y:Xs} (hx:ev e x=.c (.agg y)) (hf:fieldOff P t f=some (off,ft)) {c:C} (hc:partC P ft y off=some c)
  (hK:K (putO e o.dst (.c c))=some r):Pure1 P base pb w e a K r o:=by
 obtain ⟨v,h1,h2,h3,-⟩:=run_part (base:=base) (pb:=pb) hc w
 obtain ⟨fs,fd,g1,g2,g3,g4,-⟩:=fieldOff_some hf
 refine pureA hK (v:=v) (fun w' hw=>?_) h2 h3
 simp only [execOp,ho]
 refine run_v ?_
 rw [ev_agg h hx]
 subst g3;subst g4
 simp only [Instr.field,Sem.run_bind,run_underlying g1,Result.andThen_ok,g2,asAgg,Sem.run_pure]
 exact h1 w'
theorem op_nilCheck (h:Sim P base pb w0 w e a.tmps) {x:Operand} (ho:o.op=.nilCheck x) {s off:Nat} (hx:ev e x=.via s off) (hK:K (putO e o.dst (.via s off))=some r):Pure1 P base pb w e a K r o:=by
 have hv:=(ev_rel h x).1
 rw [hx] at hv
 have hv':=hv
 obtain ⟨h1,A,h2,h3⟩:=hv
 exact pureA hK (v:=a.eval x) (fun w' hw=>by simp only [execOp,ho,h3];rfl) hv' (by rw [h3];rfl)
theorem op_fieldAddr (h:Sim P base pb w0 w e a.tmps) {t:TypeId} {x:Operand} {f off fo ft:Nat} (ho:o.op=.fieldAddr t x f) {s:Nat} (hx:ev e x=.via s off) (hf:fieldOff P t f=some (fo,ft))
  (hK:K (putO e o.dst (.via s (off+fo)))=some r):Pure1 P base pb w e a K r o:=by
 have hv:=(ev_rel h x).1
 rw [hx] at hv
 obtain ⟨h1,A,h2,h3⟩:=hv
 obtain ⟨fs,fd,g1,g2,g3,g4,g5⟩:=fieldOff_some hf
 refine pureA hK (v:=.pointer (some (A.add (off+fo)))) (fun w' hw=>?_) ⟨h1,A,h2,rfl⟩ rfl
 simp only [execOp,ho]
 refine run_v ?_
 have hsz:∃ n,n ≠ 0∧(sizeOf fd.type).run P w'=.ok n w':=by
  subst g4
  unfold Program.cellsOf at g5
  cases hi:P.info? fd.type with
  | none=>rw [hi] at g5;exact absurd rfl g5
  | some i=>exact ⟨i.size,by rw [hi] at g5;exact g5,by simp [sizeOf,typeInfo,hi]⟩
 obtain ⟨n,hn0,hn1⟩:=hsz
 rw [h3]
 subst g3
 simp only [Instr.fieldAt,Sem.run_bind,run_underlying g1,Result.andThen_ok,g2,Instr.sureAddr,Sem.run_pure,fieldPlace,hn1,Sem.run_ite,if_neg hn0,Addr.add_add']
theorem op_indexAddrA (h:Sim P base pb w0 w e a.tmps) {t el:TypeId} {m:Nat} {x i:Operand} (ho:o.op=.indexAddr t x i) (ht:P.underlying t=some (.array m el)) (hc:cell1 P el=true) {s off:Nat} (hx:ev e x=.via s off) {k:IntKind} {n:Int}
  (hi:ev e i=.c (.s (.int k n))) (hK:(bif decide (0≤n)&&decide (n<(m:Int)) then K (putO e o.dst (.via s (off+n.toNat))) else none)=some r):Pure1 P base pb w e a K r o:=by
 cases hd:(decide (0≤n)&&decide (n<(m:Int)))
 ·rw [hd] at hK;cases hK
 ·rw [hd] at hK
  simp only [Bool.and_eq_true,decide_eq_true_eq] at hd
  have hv:=(ev_rel h x).1
  rw [hx] at hv
  obtain ⟨h1,A,h2,h3⟩:=hv
  refine pureA hK (v:=.pointer (some (A.add (off+n.toNat)))) (fun w' hw=>?_) ⟨h1,A,h2,rfl⟩ rfl
  simp only [execOp,ho]
  refine run_v ?_
  rw [h3,ev_s h hi]
  simp only [Instr.indexAt,S.enc,asIntOf,Sem.run_bind,Sem.run_pure,Result.andThen_ok,run_underlying ht,Instr.sureAddr,Sem.run_ite,if_pos hd,run_sizeOf1 hc,Nat.mul_one,Addr.add_add']
theorem op_indexAddrS (h:Sim P base pb w0 w e a.tmps) {t el:TypeId} {x i:Operand} (ho:o.op=.indexAddr t x i) (ht:P.underlying t=some (.slice el)) (hc:cell1 P el=true) {s lo m:Nat} {k:IntKind} {n:Int}
  (hx:(ev e x=.all s∧lo=0∧∃ y,content e s=some y∧m=y.len)∨ev e x=.ali s lo m) (hi:ev e i=.c (.s (.int k n))) (hK:(bif decide (0≤n)&&decide (n<(m:Int)) then K (putO e o.dst (.via s (lo+n.toNat))) else none)=some r):Pure1 P base pb w e a K r o:=by
 cases hd:(decide (0≤n)&&decide (n<(m:Int)))
 ·rw [hd] at hK;cases hK
 ·rw [hd] at hK
  simp only [Bool.and_eq_true,decide_eq_true_eq] at hd
  have hv:=(ev_rel h x).1
  have key:owner (e.getD s .u)=true∧∃ A c b,a.eval x=.slice (some A) m c∧baseOf (a.tmps.getD s undef)=some b∧A=b.add lo:=by
   rcases hx with ⟨g1,rfl,y,g2,rfl⟩ | g1
   ·rw [g1] at hv
    obtain ⟨A,cap,h3,h4,h5⟩:=owner_slice h g2
    obtain ⟨b,rfl⟩:=h5 (by omega)
    exact ⟨isSl_owner (isSl_of g2),b,cap,b,hv.2.trans h3,by rw [h3];rfl,by simp [Addr.add]⟩
   ·rw [g1] at hv
    obtain ⟨k1,⟨A,c,k2,k3,k4,k5⟩,k6⟩:=hv
    obtain ⟨b,k7,rfl⟩:=k4 (by omega)
    exact ⟨k1,_,c,b,k2,k7,rfl⟩
  obtain ⟨h1,A,c,b,h2,h3,rfl⟩:=key
  refine pureA hK (v:=.pointer (some (b.add (lo+n.toNat)))) (fun w' hw=>?_) ⟨h1,b,h3,rfl⟩ rfl
  simp only [execOp,ho]
  refine run_v ?_
  rw [h2,ev_s h hi]
  simp only [Instr.indexAt,S.enc,asIntOf,Sem.run_bind,Sem.run_pure,Result.andThen_ok,run_underlying ht,Sem.run_ite,if_pos hd,run_sizeOf1 hc,Nat.mul_one,Addr.add_add']
theorem op_load1 (h:Sim P base pb w0 w e a.tmps) {t:TypeId} {x:Operand} (ho:o.op=.load t x) {s off:Nat} (hx:ev e x=.via s off) {y:Xs} (hy:contentB e s=some y) (hc:cell1 P t=true)
  (hK:y.atN off (fun s=>K (putO e o.dst (.c (.s s))))=some r):Pure1 P base pb w e a K r o:=by
 obtain ⟨z,h1,h2⟩:=atN_some hK
 obtain ⟨A,h3,h4⟩:=cell_at h hy h1
 have hv:=(ev_rel h x).1
 rw [hx] at hv
 obtain ⟨g1,A',g2,g3⟩:=hv
 rw [h3] at g2;cases g2
 refine pureL h2 (hm:=by simp only [memO,ho]) (hl:=by simp only [ldSlot,ho,hx]) (v:=z.enc) (fun w' hw=>(h.ext hw).rel s) (fun w' hw=>?_) rfl rfl
 simp only [execOp,ho]
 refine run_v ?_
 rw [g3]
 obtain ⟨A2,q3,q4⟩:=cell_atR hw hy h1
 rw [h3] at q3;cases q3
 simp [Instr.loadAt,Instr.sureAddr,loadVar,(cell1_info hc).2 w',q4]
theorem isAggB_run {t:TypeId} (h:isAggB P t=some true) (w:World):(isAgg t).run P w=.ok true w∧(sizeOf t).run P w=.ok (P.cellsOf t) w:=by
 refine ⟨?_,?_⟩
 ·unfold isAggB at h
  split at h<;>first | (cases h;done) | skip
  all_goals (rename_i hu;first | simp [isAgg,run_underlying hu] | (cases h;done))
 ·unfold isAggB Program.underlying at h
  cases hi:P.info? t with
  | none=>rw [hi] at h;simp at h
  | some i=>simp [sizeOf,typeInfo,hi,Program.cellsOf]
theorem op_loadA (h:Sim P base pb w0 w e a.tmps) {t:TypeId} {x:Operand} (ho:o.op=.load t x) {s off T:Nat} (hx:ev e x=.via s off) {y:Xs} (hy:e.getD s .u=.box T y) (hc:isAggB P t=some true) {c:Xs} (hl:off+P.cellsOf t≤y.len)
  (hce:c.enc=(y.enc.drop off).take (P.cellsOf t)) (hK:K (putO e o.dst (.c (.agg c)))=some r):Pure1 P base pb w e a K r o:=by
 have hyB:contentB e s=some y:=by unfold contentB;rw [hy]
 have hv:=(ev_rel h x).1
 rw [hx] at hv
 obtain ⟨g1,A,g2,g3⟩:=hv
 refine pureL hK (hm:=by simp only [memO,ho]) (hl:=by simp only [ldSlot,ho,hx]) (v:=.agg c.enc.toArray) (fun w' hw=>(h.ext hw).rel s) (fun w' hw=>?_) rfl rfl
 obtain ⟨h1,h2⟩:=isAggB_run hc w'
 have h3:=cells_atR hw hyB hl (A:=A) (fun _=>g2)
 simp only [execOp,ho]
 refine run_v ?_
 rw [g3]
 simp only [Instr.loadAt,Instr.sureAddr,loadVar,Sem.run_bind,Sem.run_pure,Result.andThen_ok,h1,Sem.run_ite,if_true,h2,h3]
 rw [hce,cut_enc]
end Go.Proofs.YtffmgholjdfcnaaGreatDoor.AM
set_option linter.unusedSimpArgs false
namespace Go.Proofs.YtffmgholjdfcnaaGreatDoor.AM
open Go
variable {P:Program} {base:Nat} {pb:Option Nat} {w0 w w':World} {e:Env} {a:Act}
variable {K:Env→Option Out} {r:Out} {next:Act→World→Prop} {Q:Exit→Act→World→Prop} {o:Oper}
theorem eqV_eq {v:Value} {s:S} (h:eqV v s=true):v=s.enc:=by
 unfold eqV at h
 split at h
 ·simp only [Bool.and_eq_true,beq_iff_eq] at h;rw [h.1,h.2];rfl
 ·simp only [beq_iff_eq] at h;rw [h];rfl
 ·rename_i b l
  simp only [beq_iff_eq] at h;subst h;rfl
 ·rfl
 ·cases h
theorem eqVs_eq:∀ {l:List Value} {q:List S},eqVs l q=true→l=q.map S.enc
 | [],[],_=>rfl
 | v :: l,s :: q,h=>by
  simp only [eqVs,Bool.and_eq_true] at h
  rw [eqV_eq h.1,eqVs_eq h.2];rfl
 | [],_ :: _,h=>by simp [eqVs] at h
 | _ :: _,[],h=>by simp [eqVs] at h
theorem zeroXs_some {t:Nat} {x:Xs} (h:zeroXs P t=some x):∃ i z,P.info? t=some i∧i.zero=some z∧z.cells.toList=x.enc∧P.cellsOf t=x.len:=by
 unfold zeroXs at h
 split at h
 ·rename_i i hi
  split at h
  ·rename_i z hz
   dsimp only at h
   split at h
   ·rename_i hc
    simp only [Option.some.injEq] at h
    simp only [Bool.and_eq_true,beq_iff_eq] at hc
    rw [h] at hc
    refine ⟨i,z,hi,hz,eqVs_eq hc.1.1,?_⟩
    simp [Program.cellsOf,hi,hc.1.2]
   ·cases h
  ·cases h
 ·cases h
theorem heap_alloc_new (w:World) (ob:Obj):(w.alloc ob).heap[w.heap.size]?=some ob:=by
 show (w.heap.push ob)[w.heap.size]?=some ob
 simp
theorem heap_alloc_old (w:World) (ob:Obj) (b:Nat) (h:b<w.heap.size):(w.alloc ob).heap[b]?=w.heap[b]?:=by
 show (w.heap.push ob)[b]?=w.heap[b]?
 rw [Array.getElem?_push,if_neg (by omega)]
theorem keep_alloc (w:World) (ob:Obj) (hb:base≤w.heap.size):Keep base pb w (w.alloc ob):=
 ⟨rfl,rfl,rfl,by simp,fun b h _=>heap_alloc_old w ob b (by omega)⟩
theorem ext_alloc (w:World) (ob:Obj):Ext w (w.alloc ob):=keep_alloc w ob (Nat.le_refl _)
theorem finNew (h:Sim P base pb w0 w e a.tmps) (hn:Nx P base pb w0 w e a o K r next) {ob:Obj} {x:V} {v:Value} (hK:K (putO e o.dst x)=some r)
  (hrun:(execOp a.eval o).run P w=.ok (.value v) (w.alloc ob)) (hx:∀ s,aliasOf s x=false) (hr:RelV P base pb (w.alloc ob) e a.tmps x v) (hb:blks x v=[w.heap.size]∨blks x v=[]):o.wp P a w next Q:=by
 refine wp_val hrun (hn _ _ _ hK (h.putNew a rfl o.dst x v (keep_alloc w ob h.low) (fun b hb=>heap_alloc_old w ob b hb) hx hr ?_ ?_) (put_keeps _ _ _) fun _=>ext_alloc w ob)
 ·intro b hm
  rcases hb with hb | hb<;>rw [hb] at hm
  ·simp only [List.mem_singleton] at hm;subst hm;simp
  ·cases hm
 ·rcases hb with hb | hb<;>rw [hb]<;>simp
theorem run_newRow (t:TypeId) (cs:Array Value):(newRow t cs).run P w=.ok ⟨w.heap.size,0,none⟩ (w.alloc (.cells cs t)):=by
 simp [newRow,newObj,Sem.run]
theorem run_zero {t:Nat} {i:TypeInfo} {z:Value} (h1:P.info? t=some i) (h2:i.zero=some z):(zeroValue t).run P w=.ok z w:=by simp [zeroValue,typeInfo,h1,h2]
theorem op_alloc (h:Sim P base pb w0 w e a.tmps) (hn:Nx P base pb w0 w e a o K r next) {t:Nat} (ho:o.op=.alloc t) {x:Xs} (hx:zeroXs P t=some x) (hK:K (putO e o.dst (.box t x))=some r):o.wp P a w next Q:=by
 obtain ⟨i,z,h1,h2,h3,h4⟩:=zeroXs_some hx
 refine finNew h hn (ob:=.cells z.cells t) hK (v:=.pointer (some ⟨w.heap.size,0,none⟩)) ?_ (fun _=>rfl) ⟨_,rfl,?_,h4⟩ (.inl rfl)
 ·simp only [execOp,ho]
  refine run_v ?_
  simp only [Instr.alloc,Sem.run_bind,run_zero h1 h2,Result.andThen_ok,newVar,run_newRow,Sem.run_pure]
 ·rw [heap_alloc_new,← h3]
theorem op_box (h:Sim P base pb w0 w e a.tmps) (hn:Nx P base pb w0 w e a o K r next) {t:Nat} {x:Operand} (ho:o.op=.box t x) {y:Xs} (hx:ev e x=.c (.agg y)∨∃ s,y=.ss [s]∧ev e x=.c (.s s)) (hl:P.cellsOf t=y.len) (hK:K (putO e o.dst (.box t y))=some r):o.wp P a w next Q:=by
 have hv:(a.eval x).cells=y.enc.toArray:=by
  rcases hx with hx | ⟨s,rfl,hx⟩
  ·rw [ev_agg h hx];rfl
  ·rw [ev_s h hx];cases s<;>rfl
 refine finNew h hn (ob:=.cells y.enc.toArray t) hK (v:=.pointer (some ⟨w.heap.size,0,none⟩)) ?_ (fun _=>rfl) ⟨_,rfl,heap_alloc_new _ _,hl⟩ (.inl rfl)
 simp only [execOp,ho]
 refine run_v ?_
 simp only [Instr.box,newVar,Sem.run_bind,run_newRow,Result.andThen_ok,Sem.run_pure,hv]
def layA (cs:Array Value) (k:Nat):List Value→Array Value
 | []=>cs
 | v :: vs=>layA (cs.setIfInBounds k v) (k+1) vs
theorem layA_size (vs:List Value):∀ cs k,(layA cs k vs).size=cs.size:=by
 induction vs with
 | nil=>intro cs k;rfl
 | cons v vs ih=>intro cs k;rw [layA,ih];simp
theorem Xs.set_some {x y:Xs} {i:Nat} {s:S} (h:x.set i s=some y):y.toS=x.toS.set i s∧y.len=x.len:=by
 unfold Xs.set at h
 split at h
 ·split at h
  ·rename_i hk;subst hk;cases h;simp [Xs.toS,Xs.len,List.map_set]
  ·cases h
 ·cases h;simp [Xs.toS,Xs.len,List.map_set]
 ·cases h;simp [Xs.toS,Xs.len]
 ·cases h
theorem Xs.lay_some:∀ {l:List S} {x y:Xs} {i:Nat},x.lay i l=some y→y.enc.toArray=layA x.enc.toArray i (l.map S.enc)∧y.len=x.len
 | [],x,y,i,h=>by simp only [Xs.lay,Option.some.injEq] at h;subst h;exact ⟨rfl,rfl⟩
 | s :: l,x,y,i,h=>by
  simp only [Xs.lay] at h
  obtain ⟨z,h1,h2⟩:=bind_some h
  obtain ⟨g1,g2⟩:=Xs.set_some h1
  obtain ⟨k1,k2⟩:=Xs.lay_some h2
  refine ⟨?_,k2.trans g2⟩
  rw [k1,List.map_cons,layA]
  congr 1
  simp [Xs.enc,g1,List.map_set]
theorem fill_step (cs:Array Value) (off:Nat):∀ (vs:List Value) (j:Nat),((vs.zipIdx j).foldl (fun cs (c,j)=>cs.setIfInBounds (off+j) c) cs)=layA cs (off+j) vs:=by
 intro vs
 induction vs generalizing cs with
 | nil=>intro j;rfl
 | cons v vs ih=>intro j;rw [List.zipIdx_cons,List.foldl_cons,ih,layA];rfl
theorem cellsOf_val (h:Sim P base pb w0 w e a.tmps) {x:Operand} {c:C} {l:List S} (hx:ev e x=.c c) (hl:cellsOf c=some l):(a.eval x).cells=(l.map S.enc).toArray:=by
 cases c with
 | s s=>cases hl;rw [ev_s h hx];cases s<;>rfl
 | agg y=>cases hl;rw [ev_agg h hx];rfl
 | u=>cases hl
 | own y=>cases hl
 | ro y=>cases hl
theorem buildX_fill (h:Sim P base pb w0 w e a.tmps) {place place':Nat→Option (Nat × Nat)} (hp:∀ i q,place i=some q→place' i=some q):∀ {l:List (Nat × Operand)} {x y:Xs},buildX e place x l=some y →
  Instr.fill place' x.enc.toArray (l.map fun (i,o)=>(i,a.eval o))=some y.enc.toArray∧y.len=x.len
 | [],x,y,hb=>by simp only [buildX,Option.some.injEq] at hb;subst hb;exact ⟨rfl,rfl⟩
 | (i,op) :: l,x,y,hb=>by
  simp only [buildX] at hb
  split at hb
  ·rename_i off n c h1 h2
   split at hb
   ·rename_i cs hc
    split at hb
    ·rename_i hsz
     split at hb
     ·rename_i z hz
      simp only [Bool.and_eq_true,beq_iff_eq,Nat.ble_eq] at hsz
      obtain ⟨k1,k2⟩:=Xs.lay_some hz
      obtain ⟨g1,g2⟩:=buildX_fill h hp hb
      refine ⟨?_,g2.trans k2⟩
      have hcv:=cellsOf_val h h2 hc
      simp only [List.map_cons,Instr.fill,hp i _ h1,hcv]
      rw [if_neg (by simp [hsz.1,Xs.len_toS,Xs.enc] at hsz ⊢;omega)]
      have hf:=fill_step x.enc.toArray off (cs.map S.enc) 0
      rw [Nat.add_zero] at hf
      rw [← Array.foldl_toList]
      simp only [Array.toList_zipIdx,List.toList_toArray]
      rw [hf,← k1]
      exact g1
     ·cases hb
    ·cases hb
   ·cases hb
  ·cases hb
end Go.Proofs.YtffmgholjdfcnaaGreatDoor.AM
set_option linter.unusedSimpArgs false
namespace Go.Proofs.YtffmgholjdfcnaaGreatDoor.AM
open Go
variable {P:Program} {base:Nat} {pb:Option Nat} {w0 w w':World} {e:Env} {a:Act}
variable {K:Env→Option Out} {r:Out} {next:Act→World→Prop} {Q:Exit→Act→World→Prop} {o:Oper}
theorem fin_build {t:Nat} {parts:Array (Nat × Operand)} (ho:o.op=.build t parts) {x:Xs} (hb:P.built t (parts.toList.map fun (i,o)=>(i,a.eval o))=some x.enc.toArray)
  (hK:K (putO e o.dst (.c (.agg x)))=some r):Pure1 P base pb w e a K r o:=by
 refine pureA hK (v:=.agg x.enc.toArray) (fun w' hw=>?_) rfl rfl
 simp only [execOp,ho]
 refine run_v ?_
 exact run_build w' t _ _ (by simpa using hb)
theorem op_buildS (h:Sim P base pb w0 w e a.tmps) {t:Nat} {parts:Array (Nat × Operand)} (ho:o.op=.build t parts) {fs:Array Field} (ht:P.underlying t=some (.struct fs)) {z x:Xs} (hz:zeroXs P t=some z)
  {places:List (Nat × Nat)} (hp:fs.toList.mapM (fun f=>(P.info? f.type).map fun i=>(f.offset,i.size))=some places) (hx:buildX e (fun i=>places[i]?) z parts.toList=some x) (hK:K (putO e o.dst (.c (.agg x)))=some r):Pure1 P base pb w e a K r o:=by
 obtain ⟨i,zv,h1,h2,h3,-⟩:=zeroXs_some hz
 have hf:=(buildX_fill h (place':=fun i=>places[i]?) (fun _ _ q=>q) hx).1
 refine fin_build ho ?_ hK
 have hz':zv.cells=z.enc.toArray:=by rw [← h3]
 unfold Program.built
 simp only [h1,ht,h2,hp,hz',List.getElem?_toArray]
 exact hf
theorem op_buildA (h:Sim P base pb w0 w e a.tmps) {t:Nat} {parts:Array (Nat × Operand)} (ho:o.op=.build t parts) {m el:Nat} (ht:P.underlying t=some (.array m el)) {z x:Xs} (hz:zeroXs P t=some z)
  {ie:TypeInfo} (hp:P.info? el=some ie) (hx:buildX e (fun i=>some (i * ie.size,ie.size)) z parts.toList=some x) (hK:K (putO e o.dst (.c (.agg x)))=some r):Pure1 P base pb w e a K r o:=by
 obtain ⟨i,zv,h1,h2,h3,-⟩:=zeroXs_some hz
 have hf:=(buildX_fill h (place':=fun i=>some (i * ie.size,ie.size)) (fun _ _ q=>q) hx).1
 refine fin_build ho ?_ hK
 have hz':zv.cells=z.enc.toArray:=by rw [← h3]
 unfold Program.built
 simp only [h1,ht,h2,hp,hz']
 exact hf
theorem elemZ_some {t el:Nat} {z:S} (h:elemZ P t=some (el,z)):P.underlying t=some (.slice el)∧cell1 P el=true∧∃ i,P.info? el=some i∧i.size=1∧i.bytes≤16∧i.zero=some z.enc∧z.enc.cells=#[z.enc]:=by
 unfold elemZ at h
 split at h
 ·rename_i el' hu
  split at h
  ·rename_i k i hk hi
   split at h
   ·rename_i hs
    split at h
    ·rename_i k' hz
     split at h
     ·rename_i hkk;subst hkk
      cases h
      exact ⟨hu,by simp [cell1,hk,hi,plainDesc,hs.1],i,hi,hs.1,hs.2,hz,rfl⟩
     ·cases h
    ·cases h
   ·cases h
  ·rename_i i hk hi
   split at h
   ·rename_i hs
    split at h
    ·rename_i hz
     cases h
     exact ⟨hu,by simp [cell1,hk,hi,plainDesc,hs.1],i,hi,hs.1,hs.2,hz,rfl⟩
    ·cases h
   ·cases h
  ·cases h
 ·cases h
theorem xsOf_enc (z:S) (n:Nat):(xsOf z n).enc=List.replicate n z.enc:=by cases z<;>simp [xsOf,Xs.enc,Xs.toS]
theorem xsOf_len (z:S) (n:Nat):(xsOf z n).len=n:=by cases z<;>simp [xsOf,Xs.len]
theorem own_new {w:World} {x:Xs} {t:Nat}:OwnRel (w.alloc (.cells x.enc.toArray t)) x (.slice (some ⟨w.heap.size,0,none⟩) x.len x.len):=
 .inr ⟨_,_,t,_,(0,0),rfl,heap_alloc_new _ _,Nat.le_refl _,by simp [Xs.len_enc],by intro i _;simp,by intro i _;simp⟩
theorem map_range0 (f:Nat→Value):(Array.range 0).map f=#[]:=by apply Array.ext<;>simp
theorem range_const (n:Nat) (zs:Array Value) (z:Value) (hz:zs=#[z]):((Array.range n).map (zs[· % zs.size]!))=(List.replicate n z).toArray:=by
 subst hz
 apply Array.ext
 ·simp
 ·intro i h1 h2
  simp [Nat.mod_one]
theorem op_buildSlice (h:Sim P base pb w0 w e a.tmps) (hn:Nx P base pb w0 w e a o K r next) {t n:Nat} {parts:Array (Nat × Operand)} (ho:o.op=.buildSlice t n parts) {el:Nat} {z:S} (hz:elemZ P t=some (el,z)) (hnn:n≤65536) {x:Xs}
  (hx:buildX e (fun i=>some (i,1)) (xsOf z n) parts.toList=some x) (hK:K (putO e o.dst (.c (.own x)))=some r):o.wp P a w next Q:=by
 obtain ⟨h1,h2,i,h3,h4,h5,h6,h7⟩:=elemZ_some hz
 obtain ⟨g1,g2⟩:=buildX_fill h (place':=fun i=>some (i * 1,1)) (fun i q hq=>by simpa using hq) hx
 rw [xsOf_len] at g2
 rw [xsOf_enc] at g1
 refine finNew h hn (ob:=.cells x.enc.toArray el) hK (v:=.slice (some ⟨w.heap.size,0,none⟩) n n) ?_ (fun _=>rfl) ?_ (.inl rfl)
 ·simp only [execOp,ho]
  refine run_v ?_
  have hsz:=run_sizeOf1 h2 w
  simp only [Instr.buildSlice,Sem.run_bind,run_underlying h1,Result.andThen_ok,hsz,Nat.mul_one,Sem.run_ite]
  rw [if_neg (by omega)]
  simp only [Sem.run_pure,Result.andThen_ok]
  by_cases hn0:n=0
  ·subst hn0
   rw [if_pos rfl]
   simp only [Result.andThen_ok,map_range0,Array.toList_map]
   have g1':Instr.fill (fun i=>some (i * 1,1)) #[] (parts.toList.map fun x=>(x.1,a.eval x.2))=some x.enc.toArray:=g1
   simp only [Nat.mul_one] at g1'
   rw [g1']
   simp only [Sem.run_bind,run_newRow,Result.andThen_ok,Sem.run_pure]
  ·rw [if_neg hn0]
   simp only [Sem.run_bind,run_zero h3 h6,Result.andThen_ok,Sem.run_pure]
   rw [range_const n z.enc.cells z.enc h7]
   simp only [Array.toList_map,Nat.mul_one] at g1 ⊢
   rw [g1]
   simp only [Sem.run_bind,run_newRow,Result.andThen_ok,Sem.run_pure]
 ·show OwnRel _ _ _
  have:=own_new (w:=w) (x:=x) (t:=el)
  rw [g2] at this
  exact this
theorem askRoom_run {n:Nat} (h:n≤roomBytes):(askRoom n).run P w=.ok () w:=by unfold askRoom;rw [if_neg (by omega)];rfl
theorem op_makeSlice (h:Sim P base pb w0 w e a.tmps) (hn:Nx P base pb w0 w e a o K r next) {t:Nat} {l c:Operand} (ho:o.op=.makeSlice t l c) {el:Nat} {z:S} (hz:elemZ P t=some (el,z)) {k k':IntKind} {n m:Int} (hl:ev e l=.c (.s (.int k n))) (hc:ev e c=.c (.s (.int k' m)))
  (hK:(bif decide (0≤n)&&decide (n≤m)&&decide (m≤1099511627776) then K (putO e o.dst (.c (.own (xsOf z n.toNat)))) else none)=some r):o.wp P a w next Q:=by
 cases hd:(decide (0≤n)&&decide (n≤m)&&decide (m≤1099511627776))
 ·rw [hd] at hK;cases hK
 ·rw [hd] at hK
  simp only [Bool.and_eq_true,decide_eq_true_eq] at hd
  obtain ⟨⟨hd1,hd2⟩,hd3⟩:=hd
  obtain ⟨h1,h2,i,h3,h4,h5,h6,h7⟩:=elemZ_some hz
  have wn:IntKind.i64.wrap n=n:=by simp [IntKind.wrap,IntKind.bits,IntKind.signed];omega
  have wm:IntKind.i64.wrap m=m:=by simp [IntKind.wrap,IntKind.bits,IntKind.signed];omega
  have hby:(i.bytes:Int) * m≤16 * 1099511627776:=Int.mul_le_mul (by omega) hd3 (by omega) (by omega)
  have hbn:m.toNat * i.bytes≤roomBytes:=by
   have:m.toNat * i.bytes≤1099511627776 * 16:=Nat.mul_le_mul (by omega) h5
   unfold roomBytes;omega
  refine finNew h hn (ob:=.cells (List.replicate m.toNat z.enc).toArray el) hK (v:=.slice (some ⟨w.heap.size,0,none⟩) n.toNat m.toNat) ?_ (fun _=>rfl) ?_ (.inl rfl)
  ·simp only [execOp,ho]
   refine run_v ?_
   rw [ev_s h hl,ev_s h hc]
   show (Instr.makeSlice t (.int k n) (.int k' m)).run P w=_
   simp only [Instr.makeSlice,Sem.run_bind,run_underlying h1,Result.andThen_ok,asInt,asIntOf,Sem.run_pure,typeInfo,run_program,h3,wn,wm,Sem.run_ite]
   have ht:(decide (m<0) || decide ((i.bytes:Int) * m > 2 ^ 48))=false:=by simp;omega
   rw [ht]
   have ht2:(false || decide (n<0) || decide (n > m))=false:=by simp;omega
   rw [ht2]
   simp only [Bool.false_eq_true,if_false,Sem.run_pure,Result.andThen_ok,askRoom_run hbn,run_sizeOf1 h2,Nat.mul_one]
   by_cases hm0:m.toNat=0
   ·rw [if_pos hm0]
    simp only [Sem.run_pure,Result.andThen_ok,hm0,run_newRow,Sem.run_bind,List.replicate_zero,map_range0]
   ·rw [if_neg hm0]
    simp only [Sem.run_bind,run_zero h3 h6,Result.andThen_ok,Sem.run_pure,range_const m.toNat z.enc.cells z.enc h7,run_newRow]
  ·refine .inr ⟨_,m.toNat,el,_,(0,0),?_,heap_alloc_new _ _,?_,?_,?_,?_⟩
   ·rw [xsOf_len]
   ·rw [xsOf_len];omega
   ·simp
   ·intro i _;simp
   ·intro j hj
    rw [xsOf_len] at hj
    rw [xsOf_enc]
    rw [List.getElem?_toArray,List.getElem?_replicate,List.getElem?_replicate,if_pos (by omega),if_pos hj]
end Go.Proofs.YtffmgholjdfcnaaGreatDoor.AM
set_option linter.unusedSimpArgs false
namespace Go.Proofs.YtffmgholjdfcnaaGreatDoor.AM
open Go
variable {P:Program} {base:Nat} {pb:Option Nat} {w0 w w':World} {e:Env} {a:Act}
variable {K:Env→Option Out} {r:Out} {next:Act→World→Prop} {Q:Exit→Act→World→Prop} {o:Oper}
theorem run_storeCells_fr (P:Program) (g o:Nat) (t:TypeId) (fr:Nat × Nat):∀ (vs:List Value) (i:Nat) (cur:Array Value) (w:World),w.heap[g]?=some (.cells cur t fr)→o+i+vs.length≤cur.size →
  (∀ j,j<cur.size→¬ (fr.1≤j∧j<fr.2))→(∀ v ∈ vs,v.oneCell'=true) →
  (storeCells ⟨g,o,none⟩ vs i).run P w=.ok () (w.setRow g (cur.toList.take (o+i)++vs++cur.toList.drop (o+i+vs.length)).toArray)
 | [],i,cur,w,hg,_,_,_=>by
  simp only [storeCells,List.append_nil,List.length_nil,Nat.add_zero,List.take_append_drop,Array.toArray_toList]
  rw [setRow_self w g cur t fr hg]
  rfl
 | v :: rest,i,cur,w,hg,hl,hfr,h1=>by
  have hi:o+i<cur.size:=by simp at hl;omega
  have hadd:(⟨g,o,none⟩:Addr).add i=⟨g,o+i,none⟩:=by unfold Addr.add;split<;>simp_all
  have hcell:w.cell? ⟨g,o+i,none⟩=some cur[o+i]:=by simp [World.cell?,hg,hi,hfr _ hi]
  have hfro:w.frozen? ⟨g,o+i,none⟩=false:=by simp [World.frozen?,hg];have:=hfr _ hi;omega
  have hst:(store ((⟨g,o,none⟩:Addr).add i) v).run P w=.ok () (w.setRow g (cur.setIfInBounds (o+i) v)):=by
   rw [hadd,run_store P w _ v _ (h1 v (by simp)),hcell]
   simp [hfro,setCell_eq_setRow w g (o+i) cur t fr v hg]
  have ih:=run_storeCells_fr P g o t fr rest (i+1) (cur.setIfInBounds (o+i) v) (w.setRow g (cur.setIfInBounds (o+i) v)) (setRow_heap w g cur _ t _ hg) (by simp at hl ⊢;omega) (by simpa using hfr) (fun x hx=>h1 x (by simp [hx]))
  simp only [storeCells,Sem.run_bind,hst,Result.andThen_ok,ih,setRow_setRow]
  congr 3
  have e:=list_seg_step cur.toList (o+i) v rest (by simp at hl ⊢;omega)
  simpa [Array.toList_setIfInBounds,Nat.add_assoc] using e
theorem S.one (s:S):s.enc.oneCell'=true:=by cases s<;>rfl
theorem enc_one (x:Xs):∀ v ∈ x.enc,v.oneCell'=true:=by
 intro v hv;simp only [Xs.enc,List.mem_map] at hv;obtain ⟨s,-,rfl⟩:=hv;exact s.one
theorem setRow_keep {g:Nat} (h:base≤g∨pb=some g) (cs:Array Value):Keep base pb w (w.setRow g cs):=
 ⟨rfl,rfl,rfl,by simp [World.setRow],fun b hb hp=>setRow_other w g b cs (by rintro rfl;rcases h with h | h;omega;exact hp h)⟩
theorem Sim.setBox (h:Sim P base pb w0 w e a.tmps) {s T:Nat} {x:Xs} (hs:e.getD s .u=.box T x):∃ b,a.tmps.getD s undef=.pointer (some ⟨b,0,none⟩)∧w.heap[b]?=some (.cells x.enc.toArray T (0,0)) ∧
  ∀ y:Xs,y.len=x.len→Sim P base pb w0 (w.setRow b y.enc.toArray) (e.set s (.box T y)) a.tmps:=by
 have hr:=h.rel s
 rw [hs] at hr
 obtain ⟨b,h1,h2,h3⟩:=hr
 have hbl:blks (e.getD s .u) (a.tmps.getD s undef)=[b]:=by rw [hs,h1];rfl
 refine ⟨b,h1,h2,fun y hy=>?_⟩
 refine h.turn s (.box T y) (setRow_keep (h.own s b (by rw [hbl];simp)).2 _) (fun k _ hk=>setRow_other w b k _ (by rintro rfl;exact hk (by rw [hbl];simp))) ⟨b,h1,setRow_heap w b _ _ _ _ h2,by rw [hy];exact h3⟩ (by rw [hbl,h1];rfl) ?_ ?_ (by rw [hs];rfl) rfl ?_ ?_ ?_
 ·rw [hs];intro h;cases h
 ·rw [hs];intro h;cases h
 ·intro x0 x' hx hx'
  unfold contentB at hx;rw [hs] at hx;cases hx
  simp only [contentB,List.getD_cons_zero,Option.some.injEq] at hx'
  rw [← hx'];exact hy
 ·intro x' _;exact ⟨x,by unfold contentB;rw [hs]⟩
 ·intro T' y' h';cases h';exact ⟨T,x,hs,by rw [hy]⟩
theorem Sim.setOwn (h:Sim P base pb w0 w e a.tmps) {s:Nat} {x:Xs} (hs:e.getD s .u=.c (.own x)) {b cap T:Nat} {Cs:Array Value} {fr:Nat × Nat}
  (h1:a.tmps.getD s undef=.slice (some ⟨b,0,none⟩) x.len cap) (h2:w.heap[b]?=some (.cells Cs T fr)) (h3:x.len≤cap) (h4:cap≤Cs.size) (h5:∀ i,i<Cs.size→¬ (fr.1≤i∧i<fr.2))
  {y:Xs} (hy:y.len=x.len) {Cs':Array Value} (hsz:Cs'.size=Cs.size) (hc:∀ i,i<x.len→Cs'[i]?=y.enc[i]?):Sim P base pb w0 (w.setRow b Cs') (e.set s (.c (.own y))) a.tmps:=by
 have hbl:blks (e.getD s .u) (a.tmps.getD s undef)=[b]:=by rw [hs,h1];rfl
 refine h.turn s (.c (.own y)) (setRow_keep (h.own s b (by rw [hbl];simp)).2 _) (fun k _ hk=>setRow_other w b k _ (by rintro rfl;exact hk (by rw [hbl];simp))) ?_ (by rw [hbl,h1];rfl) ?_ ?_ (by rw [hs];rfl) rfl ?_ ?_ ?_
 ·exact .inr ⟨b,cap,T,Cs',fr,by rw [h1,hy],setRow_heap w b _ _ _ _ h2,by rw [hy];exact h3,by rw [hsz];exact h4,by rw [hsz];exact h5,by rw [hy];exact hc⟩
 ·intro _;rfl
 ·rw [hs];intro h;cases h
 ·intro x0 x' hx hx'
  unfold contentB at hx;rw [hs] at hx;cases hx
  simp only [contentB,List.getD_cons_zero,Option.some.injEq] at hx'
  rw [← hx'];exact hy
 ·intro x' _;exact ⟨x,by unfold contentB;rw [hs]⟩
 ·intro T' y' h';cases h'
theorem Xs.set_enc {x z:Xs} {i:Nat} {s:S} (h:x.set i s=some z):z.enc=x.enc.set i s.enc∧z.len=x.len:=by
 obtain ⟨h1,h2⟩:=Xs.set_some h
 exact ⟨by rw [Xs.enc,h1,List.map_set,Xs.enc],h2⟩
theorem set_seg (l:List Value) (i:Nat) (v:Value) (h:i<l.length):l.take i++[v]++l.drop (i+1)=l.set i v:=by
 rw [List.set_eq_take_append_cons_drop];simp [h]
theorem run_storeVar1 {t:TypeId} (hc:cell1 P t=true) {b off:Nat} {cur:Array Value} {T:Nat} {fr:Nat × Nat} (hg:w.heap[b]?=some (.cells cur T fr)) (hl:off<cur.size) (hfr:∀ j,j<cur.size→¬ (fr.1≤j∧j<fr.2)) (y:S) :
  (Instr.storeAt t (.pointer (some ⟨b,off,none⟩)) y.enc).run P w=.ok () (w.setRow b (cur.toList.set off y.enc).toArray):=by
 have hst:=run_storeCells_fr P b off T fr [y.enc] 0 cur w hg (by simp;omega) hfr (by simp [S.one])
 have hcs:y.enc.cells=#[y.enc]:=by cases y<;>rfl
 rw [Nat.add_zero,List.length_singleton,set_seg _ _ _ (by simpa using hl)] at hst
 simp only [Instr.storeAt,Instr.sureAddr,storeVar,Sem.run_bind,Sem.run_pure,Result.andThen_ok,run_sizeOf1 hc,hcs,Sem.run_ite]
 rw [if_neg (by simp)]
 simpa using hst
theorem via_at (h:Sim P base pb w0 w e a.tmps) {x:Operand} {s off:Nat} (hx:ev e x=.via s off) {b:Nat} (hb:baseOf (a.tmps.getD s undef)=some ⟨b,0,none⟩):a.eval x=.pointer (some ⟨b,off,none⟩):=by
 have hv:=(ev_rel h x).1
 rw [hx] at hv
 obtain ⟨h1,A,h2,h3⟩:=hv
 rw [hb] at h2;cases h2
 rw [h3,Addr.zero_add]
def NxS (P:Program) (base:Nat) (pb:Option Nat) (w0 w:World) (a:Act) (o:Oper) (K:Env→Option Out) (r:Out) (next:Act→World→Prop) (x:Operand):Prop:=
 ∀ (e':Env) (a':Act) (b off:Nat) (row:Array Value),a.eval x=.pointer (some ⟨b,off,none⟩)→K e'=some r→Sim P base pb w0 (w.setRow b row) e' a'.tmps→(a'.defers=a.defers∧∀ i,o.dst ≠ some i→a'.tmps.getD i undef=a.tmps.getD i undef)→next a' (w.setRow b row)
theorem wp_st {t:TypeId} {x v:Operand} (hn:NxS P base pb w0 w a o K r next x) (ho:o.op=.store t x v) (hd:o.dst=none) {e':Env} {b off:Nat} {row:Array Value} (hx:a.eval x=.pointer (some ⟨b,off,none⟩)) (hrun:(Instr.storeAt t (a.eval x) (a.eval v)).run P w=.ok () (w.setRow b row)) (hs:Sim P base pb w0 (w.setRow b row) e' a.tmps) (hK:K e'=some r):o.wp P a w next Q:=by
 refine wp_skip' (w':=w.setRow b row) ?_ (hn e' _ b off row hx hK ?_ (put_keeps _ _ _))
 ·simp only [execOp,ho,Sem.run_bind,hrun,Result.andThen_ok];rfl
 ·rw [hd];exact hs
theorem op_storeB (h:Sim P base pb w0 w e a.tmps) {t:TypeId} {x v:Operand} (hn:NxS P base pb w0 w a o K r next x) (ho:o.op=.store t x v) (hd:o.dst=none) {s off T:Nat} (hx:ev e x=.via s off) {y z:Xs} (hs:e.getD s .u=.box T y) {c:S} (hv:ev e v=.c (.s c)) (hc:cell1 P t=true)
  (hz:y.set off c=some z) (hl:off<y.len) (hK:K (e.set s (.box T z))=some r):o.wp P a w next Q:=by
 obtain ⟨b,h1,h2,h3⟩:=h.setBox hs
 obtain ⟨g1,g2⟩:=Xs.set_enc hz
 refine wp_st hn ho hd (via_at h hx (by rw [h1];rfl)) ?_ (h3 z g2) hK
 rw [via_at h hx (by rw [h1];rfl),ev_s h hv,run_storeVar1 hc h2 (by simp [Xs.len_enc];exact hl) (by simp),g1]
theorem op_storeO (h:Sim P base pb w0 w e a.tmps) {t:TypeId} {x v:Operand} (hn:NxS P base pb w0 w a o K r next x) (ho:o.op=.store t x v) (hd:o.dst=none) {s off:Nat} (hx:ev e x=.via s off) {y z:Xs} (hs:e.getD s .u=.c (.own y)) {c:S} (hv:ev e v=.c (.s c)) (hc:cell1 P t=true)
  (hz:y.set off c=some z) (hl:off<y.len) (hK:K (e.set s (.c (.own z)))=some r):o.wp P a w next Q:=by
 have hr:=h.rel s
 rw [hs] at hr
 obtain ⟨g1,g2⟩:=Xs.set_enc hz
 rcases hr with ⟨h1,h2⟩ | ⟨b,cap,T,Cs,fr,h1,h2,h3,h4,h5,h6⟩
 ·omega
 ·have hoff:off<Cs.size:=by omega
  refine wp_st hn ho hd (via_at h hx (by rw [h1];rfl)) ?_ (h.setOwn hs h1 h2 h3 h4 h5 (y:=z) g2 (Cs':=(Cs.toList.set off c.enc).toArray) (by simp) ?_) hK
  ·rw [via_at h hx (by rw [h1];rfl),ev_s h hv,run_storeVar1 hc h2 hoff h5]
  ·intro i hi
   have:=h6 i hi
   rw [List.getElem?_toArray,g1,List.getElem?_set,List.getElem?_set]
   by_cases hio:off=i
   ·subst hio
    simp [hoff,Xs.len_enc,hl]
   ·rw [if_neg hio,if_neg hio]
    simpa using this
theorem lay_seg (cs:Array Value) (vs:List Value):∀ (k:Nat),k+vs.length≤cs.size→layA cs k vs=(cs.toList.take k++vs++cs.toList.drop (k+vs.length)).toArray:=by
 induction vs generalizing cs with
 | nil=>intro k _;simp [layA]
 | cons v vs ih =>
  intro k hk
  rw [layA,ih _ _ (by simp at hk ⊢;omega)]
  congr 1
  have e:=list_seg_step cs.toList k v vs (by simp at hk ⊢;omega)
  simpa [Array.toList_setIfInBounds,Nat.add_assoc] using e
theorem op_storeA (h:Sim P base pb w0 w e a.tmps) {t:TypeId} {x v:Operand} (hn:NxS P base pb w0 w a o K r next x) (ho:o.op=.store t x v) (hd:o.dst=none) {s off T:Nat} (hx:ev e x=.via s off) {y z c:Xs} (hs:e.getD s .u=.box T y) (hv:ev e v=.c (.agg c)) (hc:isAggB P t=some true)
  (hcl:c.len=P.cellsOf t) (hl:off+c.len≤y.len) (hz:z.enc.toArray=layA y.enc.toArray off c.enc) (hK:K (e.set s (.box T z))=some r):o.wp P a w next Q:=by
 obtain ⟨b,h1,h2,h3⟩:=h.setBox hs
 have hzl:z.len=y.len:=by rw [← Xs.len_enc,← Xs.len_enc y,← List.size_toArray,hz,layA_size,List.size_toArray]
 refine wp_st hn ho hd (via_at h hx (by rw [h1];rfl)) ?_ (h3 z hzl) hK
 have hst:=run_storeCells_fr P b off T (0,0) c.enc 0 y.enc.toArray w h2 (by simp [Xs.len_enc];exact hl) (by simp) (enc_one c)
 rw [via_at h hx (by rw [h1];rfl),ev_agg h hv]
 have hsz:c.enc.toArray.size=P.cellsOf t:=by simp [Xs.len_enc,hcl]
 simp only [Instr.storeAt,Instr.sureAddr,storeVar,Sem.run_bind,Sem.run_pure,Result.andThen_ok,(isAggB_run hc w).2,Value.cells,hsz,ne_eq,not_true_eq_false,if_false]
 rw [hz,lay_seg _ _ _ (by simp [Xs.len_enc];exact hl)]
 simpa using hst
end Go.Proofs.YtffmgholjdfcnaaGreatDoor.AM
set_option linter.unusedSimpArgs false
namespace Go.Proofs.YtffmgholjdfcnaaGreatDoor.AM
open Go
variable {P:Program} {base:Nat} {pb:Option Nat} {w0 w w':World} {e:Env} {a:Act}
variable {K:Env→Option Out} {r:Out} {next:Act→World→Prop} {Q:Exit→Act→World→Prop} {o:Oper}
theorem op_convO (h:Sim P base pb w0 w e a.tmps) (hn:Nx P base pb w0 w e a o K r next) {s d t:TypeId} {x:Operand} (ho:o.op=.convert s d x) {ds:TypeDesc} (hs:P.underlying s=some ds) (hd:P.underlying d=some (.slice t)) (ht:P.underlying t=some (.int .u8)) {l:List UInt8}
  (hx:ev e x=.c (.s (.str l))) (hK:K (putO e o.dst (.c (.own (.ints .u8 (l.map fun c=>(c.toNat:Int))))))=some r):o.wp P a w next Q:=by
 have hrun:=Lib.run_convert_string_bytes (P:=P) w s d t ⟨⟨l⟩⟩ hs hd ht
 have hsz:=Lib.bytesWorld_size w t ⟨⟨l⟩⟩
 have hx':∀ q,aliasOf q (.c (.own (.ints .u8 (l.map fun c=>(c.toNat:Int)))))=false:=fun _=>rfl
 refine wp_val (v:=.slice (some ⟨w.heap.size,0,none⟩) l.length (grownCap w l.length 0 t)) ?_ (hn _ _ _ hK (h.putNew a rfl o.dst _ _ (w':=Lib.bytesWorld w t ⟨⟨l⟩⟩) ⟨rfl,rfl,rfl,by omega,fun b hb _=>Lib.bytesWorld_at_old w t _ b (by have:=h.low;omega)⟩ (fun b hb=>Lib.bytesWorld_at_old w t _ b hb) hx' ?_ ?_ ?_) (put_keeps _ _ _) fun _=>⟨rfl,rfl,rfl,by omega,fun b hb _=>Lib.bytesWorld_at_old w t _ b hb⟩)
 ·simp only [execOp,ho]
  refine run_v ?_
  rw [ev_s h hx]
  exact hrun
 ·refine .inr ⟨w.heap.size,grownCap w l.length 0 t,t,_,_,?_,Lib.bytesWorld_at_new w t _,?_,?_,?_,?_⟩
  ·simp [Xs.len]
  ·simp only [Xs.len,List.length_map];exact grownCap_ge w l.length 0 t
  ·simp [Lib.bytesCells,size_mk];omega
  ·intro i hi;simp only;omega
  ·intro i hi
   simp only [Xs.len,List.length_map] at hi
   simp [Lib.bytesCells,Xs.enc,Xs.toS,S.enc,Array.getElem?_append,hi]
 ·intro b hb
  simp only [blks,blksC,blkOf,baseOf,List.mem_singleton] at hb
  subst hb;rw [hsz];exact ⟨Nat.le_refl _,Nat.lt_succ_self _⟩
 ·simp [blks,blksC,blkOf,baseOf]
theorem op_range (h:Sim P base pb w0 w e a.tmps) (hn:Nx P base pb w0 w e a o K r next) {t:TypeId} {x:Operand} (ho:o.op=.range t x) (ht:P.underlying t=some .string) {l:List UInt8} (hx:ev e x=.c (.s (.str l))) (hK:K (putO e o.dst (.iter l 0))=some r):o.wp P a w next Q:=by
 refine finNew h hn (ob:=.stringIter ⟨⟨l⟩⟩ 0) hK (v:=.pointer (some ⟨w.heap.size,0,none⟩)) ?_ (fun _=>rfl) ⟨_,rfl,heap_alloc_new _ _⟩ (.inl rfl)
 simp only [execOp,ho]
 refine run_v ?_
 rw [ev_s h hx]
 exact run_range_string w t _ ht
theorem it_of (h:Sim P base pb w0 w e a.tmps) {x:Operand} {s:Nat} (hx:ev e x=.it s) {l:List UInt8} {pos:Nat} (hs:e.getD s .u=.iter l pos):∃ b,a.tmps.getD s undef=.pointer (some ⟨b,0,none⟩)∧a.eval x=.pointer (some ⟨b,0,none⟩)∧w.heap[b]?=some (.stringIter ⟨⟨l⟩⟩ pos):=by
 have hv:=(ev_rel h x).1
 rw [hx] at hv
 have hr:=h.rel s
 rw [hs] at hr
 obtain ⟨b,h1,h2⟩:=hr
 exact ⟨b,h1,hv.2.trans h1,h2⟩
theorem op_nextEnd (h:Sim P base pb w0 w e a.tmps) {t:TypeId} {x:Operand} (ho:o.op=.next x true∧o.type=t) {s:Nat} (hx:ev e x=.it s) {l:List UInt8} {pos:Nat} (hs:e.getD s .u=.iter l pos) (hp:¬ pos<l.length)
  (hK:K (putO e o.dst (.tup [.s (.bool false)]))=some r):Pure1 P base pb w e a K r o:=by
 obtain ⟨b,h1,h2,h3⟩:=it_of h hx hs
 refine pure1 hK (hm:=by simp only [memO,ho.1]) (hl:=by simp only [ldSlot,ho.1]) (v:=.tuple #[.bool false]) (fun w' hw=>?_) ⟨[.bool false],rfl,.cons rfl .nil⟩ rfl
 simp only [execOp,ho]
 refine run_v ?_
 rw [h2]
 obtain ⟨b',k1,-,k3⟩:=it_of (h.ext hw) hx hs
 rw [h1] at k1;cases k1
 simp [Instr.next,getObj,Sem.run,k3,size_mk,hp]
theorem op_nextMore (h:Sim P base pb w0 w e a.tmps) (hn:Nx P base pb w0 w e a o K r next) {t:TypeId} {x:Operand} (ho:o.op=.next x true∧o.type=t) {s:Nat} (hx:ev e x=.it s) {l:List UInt8} {pos:Nat} (hs:e.getD s .u=.iter l pos) (hp:pos<l.length)
  (hK:K (putO (e.set s (.iter l (pos+(Utf8.decode ⟨⟨l⟩⟩ pos).2))) o.dst (.tup [.s (.bool true),.s (.int .i64 pos),.s (.int .i32 (Utf8.decode ⟨⟨l⟩⟩ pos).1)]))=some r):o.wp P a w next Q:=by
 obtain ⟨b,h1,h2,h3⟩:=it_of h hx hs
 have hlt:b<w.heap.size:=by
  rcases Nat.lt_or_ge b w.heap.size with h' | h'
  ·exact h'
  ·rw [Array.getElem?_eq_none h'] at h3;cases h3
 have hbl:blks (e.getD s .u) (a.tmps.getD s undef)=[b]:=by rw [hs,h1];rfl
 have hnew:∀ ob,({ w with heap:=w.heap.setIfInBounds b ob }:World).heap[b]?=some ob:=by intro ob;simp [hlt]
 have hold:∀ ob k,k ≠ b→({ w with heap:=w.heap.setIfInBounds b ob }:World).heap[k]?=w.heap[k]?:=by
  intro ob k hk;simp only [Array.getElem?_setIfInBounds];rw [if_neg (Ne.symm hk)]
 have hs2:Sim P base pb w0 { w with heap:=w.heap.setIfInBounds b (.stringIter ⟨⟨l⟩⟩ (pos+(Utf8.decode ⟨⟨l⟩⟩ pos).2)) } (e.set s (.iter l (pos+(Utf8.decode ⟨⟨l⟩⟩ pos).2))) a.tmps:=by
  refine h.turn s (.iter l _) ⟨rfl,rfl,rfl,by simp,fun k hk hkp=>hold _ k ?_⟩ (fun k _ hk=>hold _ k ?_) ⟨b,h1,hnew _⟩ (by rw [hbl,h1];rfl) ?_ (fun _=>rfl) (by rw [hs];rfl) rfl ?_ ?_ (by intro T2 y2 h2;cases h2)
  ·rintro rfl
   rcases (h.own s k (by rw [hbl];simp)).2 with h' | h'
   ·omega
   ·exact hkp h'
  ·rintro rfl;exact hk (by rw [hbl];simp)
  ·rw [hs];intro h';cases h'
  ·intro x0 x' hx0;unfold contentB at hx0;rw [hs] at hx0;cases hx0
  ·intro x' hx0;simp [contentB] at hx0
 refine wp_val (v:=.tuple #[.bool true,.int .i64 pos,.int .i32 (Utf8.decode ⟨⟨l⟩⟩ pos).1]) ?_ (hn _ _ _ hK (hs2.putO0 a rfl o.dst _ _ ⟨[.bool true,.int .i64 pos,.int .i32 (Utf8.decode ⟨⟨l⟩⟩ pos).1],rfl,.cons rfl (.cons rfl (.cons rfl .nil))⟩ rfl) (put_keeps _ _ _) fun hq=>by simp [quietE,ho.1] at hq)
 simp only [execOp,ho]
 refine run_v ?_
 rw [h2]
 simp only [Instr.next,getObj,setObj,Sem.run_bind,Sem.run,h3,Result.andThen_ok,size_mk,hp,if_true]
 rfl
theorem Sim.weak (h:Sim P base pb w0 w e a.tmps) (t:Nat) (y:V) (hr:RelV P base pb w e a.tmps y (a.tmps.getD t undef)) (hal:∀ i,aliasOf t (e.getD i .u)=false) (hay:aliasOf t y=false)
  (hsub:∀ b,b ∈ blks y (a.tmps.getD t undef)→b ∈ blks (e.getD t .u) (a.tmps.getD t undef)) (hnd:(blks y (a.tmps.getD t undef)).Nodup):Sim P base pb w0 w (e.set t y) a.tmps:=by
 have hg:∀ i,(e.set t y).getD i .u=if t=i then (if t<e.length then y else .u) else e.getD i .u:=fun i=>getD_set e t i y
 have hb:∀ i b,b ∈ blks ((e.set t y).getD i .u) (a.tmps.getD i undef)→b ∈ blks (e.getD i .u) (a.tmps.getD i undef):=by
  intro i b hm
  rw [hg] at hm
  split at hm
  ·rename_i ht;subst ht
   split at hm
   ·exact hsub b hm
   ·simp [blks] at hm
  ·exact hm
 have key:∀ x v,aliasOf t x=false→RelV P base pb w e a.tmps x v→RelV P base pb w (e.set t y) a.tmps x v:=by
  intro x v hx hv
  refine hv.env fun s hs hso=>⟨?_,rfl⟩
  rw [hg,if_neg (by rintro rfl;rw [hx] at hs;cases hs)]
 refine ⟨by rw [List.length_set];exact h.size,fun i=>?_,fun i j hij b hi hj=>h.dist i j hij b (hb i b hi) (hb j b hj),fun i b hi=>h.own i b (hb i b hi),fun i=>?_,h.keep,h.low⟩
 ·rw [hg]
  split
  ·rename_i ht;subst ht
   split
   ·exact key _ _ hay hr
   ·trivial
  ·exact key _ _ (hal i) (h.rel i)
 ·rw [hg]
  split
  ·rename_i ht;subst ht
   split
   ·exact hnd
   ·simp [blks]
  ·exact h.nd i
theorem Sim.noneOf (h:Sim P base pb w0 w e a.tmps) {t:Nat} (ho:owner (e.getD t .u)=false):∀ i,aliasOf t (e.getD i .u)=false:=fun _=>h.no_alias ho
theorem RelL.get {w:World} {l:List C} {vs:List Value} (h:RelL base pb w l vs):∀ {i:Nat} {c:C},l[i]?=some c→∃ v,vs[i]?=some v∧RelC base pb w c v:=by
 induction h with
 | nil=>intro i c hc;simp at hc
 | cons h1 _ ih =>
  intro i c hc
  cases i with
  | zero=>simp at hc;subst hc;exact ⟨_,rfl,h1⟩
  | succ i=>simp at hc;obtain ⟨v,hv⟩:=ih hc;exact ⟨v,by simpa using hv⟩
theorem RelL.drop1 {w:World} {l:List C} {vs:List Value} (h:RelL base pb w l vs):∀ i,RelL base pb w (l.set i .u) vs:=by
 induction h with
 | nil=>intro i;exact .nil
 | cons h1 h2 ih =>
  intro i
  cases i with
  | zero=>exact .cons trivial h2
  | succ i=>exact .cons h1 (ih i)
theorem blksL_set (l:List C):∀ (vs:List Value) (i:Nat) b,b ∈ blksL (l.set i .u) vs→b ∈ blksL l vs:=by
 induction l with
 | nil=>intro vs i b hb;simpa using hb
 | cons c l ih =>
  intro vs i b hb
  cases vs with
  | nil=>cases i<;>simp [blksL] at hb
  | cons v vs =>
   cases i with
   | zero=>simp only [List.set_cons_zero,blksL,blksC,List.nil_append] at hb ⊢;simp [hb]
   | succ i =>
    simp only [List.set_cons_succ,blksL,List.mem_append] at hb ⊢
    exact hb.imp id (ih vs i b)
theorem blksL_setnd (l:List C):∀ (vs:List Value) (i:Nat),(blksL l vs).Nodup→(blksL (l.set i .u) vs).Nodup:=by
 induction l with
 | nil=>intro vs i hb;simpa using hb
 | cons c l ih =>
  intro vs i hb
  cases vs with
  | nil=>cases i<;>simp [blksL]
  | cons v vs =>
   simp only [blksL] at hb
   cases i with
   | zero=>simp only [List.set_cons_zero,blksL,blksC,List.nil_append];exact (List.nodup_append.1 hb).2.1
   | succ i =>
    simp only [List.set_cons_succ,blksL]
    refine List.nodup_append.2 ⟨(List.nodup_append.1 hb).1,ih vs i (List.nodup_append.1 hb).2.1,fun x hx y hy=>?_⟩
    exact (List.nodup_append.1 hb).2.2 x hx y (blksL_set l vs i y hy)
theorem blksL_get (l:List C):∀ (vs:List Value) (i:Nat) {c:C} {v:Value},l[i]?=some c→vs[i]?=some v→(blksL l vs).Nodup→(∀ b,b ∈ blksC c v→b ∈ blksL l vs∧b ∉ blksL (l.set i .u) vs):=by
 induction l with
 | nil=>intro vs i c v hc;simp at hc
 | cons c' l ih =>
  intro vs i c v hc hv hnd b hb
  cases vs with
  | nil=>simp at hv
  | cons v' vs =>
   simp only [blksL] at hnd
   cases i with
   | zero =>
    simp at hc hv;subst hc;subst hv
    refine ⟨by simp [blksL,hb],fun hm=>?_⟩
    simp only [List.set_cons_zero,blksL,blksC,List.nil_append] at hm
    exact (List.nodup_append.1 hnd).2.2 b hb b hm rfl
   | succ i =>
    simp at hc hv
    obtain ⟨h1,h2⟩:=ih vs i hc hv (List.nodup_append.1 hnd).2.1 b hb
    refine ⟨by simp [blksL,h1],fun hm=>?_⟩
    simp only [List.set_cons_succ,blksL,List.mem_append] at hm
    rcases hm with hm | hm
    ·exact (List.nodup_append.1 hnd).2.2 b hm b h1 rfl
    ·exact h2 hm
theorem noSelf_c (d:Nat) (c:C):noSelf d (.c c)=.c c:=rfl
theorem noSelf_tup (d:Nat) (l:List C):noSelf d (.tup l)=.tup l:=rfl
theorem execOp_extract {t i:Nat} (ho:o.op=.extract (.tmp t) i) {vs:List Value} {v:Value} (hv:a.tmps.getD t undef=.tuple vs.toArray) (hi:vs[i]?=some v):(execOp a.eval o).run P w=.ok (.value v) w:=by
 have he:a.eval (.tmp t)=.tuple vs.toArray:=hv
 simp only [execOp,ho,he]
 refine run_v ?_
 simp [Instr.extract,hi]
theorem op_extract0 (h:Sim P base pb w0 w e a.tmps) {t i:Nat} (ho:o.op=.extract (.tmp t) i) {l:List C} (ht:e.getD t .u=.tup l) {c:C} (hc:l[i]?=some c) (hp:plainC c=true) (hK:K (putO e o.dst (.c c))=some r):Pure1 P base pb w e a K r o:=by
 have hr:=h.rel t
 rw [ht] at hr
 obtain ⟨vs,h1,h2⟩:=hr
 obtain ⟨v,h3,h4⟩:=h2.get hc
 refine pureA hK (v:=v) (fun _ _=>execOp_extract ho h1 h3) h4 ?_
 cases c<;>first | rfl | cases hp
theorem op_extractO (h:Sim P base pb w0 w e a.tmps) (hn:Nx P base pb w0 w e a o K r next) {t i:Nat} (ho:o.op=.extract (.tmp t) i) {l:List C} (ht:e.getD t .u=.tup l) {x:Xs} (hc:l[i]?=some (.own x)) (hdt:o.dst ≠ some t) (hK:K (putO (e.set t (.tup (l.set i .u))) o.dst (.c (.own x)))=some r):o.wp P a w next Q:=by
 have hr:=h.rel t
 rw [ht] at hr
 obtain ⟨vs,h1,h2⟩:=hr
 obtain ⟨v,h3,h4⟩:=h2.get hc
 have hbt:blks (e.getD t .u) (a.tmps.getD t undef)=blksL l vs:=by rw [ht,h1];simp [blks]
 have hbt':blks (.tup (l.set i .u)) (a.tmps.getD t undef)=blksL (l.set i .u) vs:=by rw [h1];simp [blks]
 have hnd:(blksL l vs).Nodup:=by have:=h.nd t;rwa [hbt] at this
 have hw:=h.weak t (.tup (l.set i .u)) ⟨vs,h1,h2.drop1 i⟩ (h.noneOf (by rw [ht];rfl)) rfl (by rw [hbt,hbt'];exact blksL_set l vs i) (by rw [hbt'];exact blksL_setnd l vs i hnd)
 refine wp_val (v:=v) (execOp_extract ho h1 h3) (hn _ _ _ hK ?_ (put_keeps _ _ _) fun _=>Ext.refl w)
 have hlt:t<e.length:=by
  rcases Nat.lt_or_ge t e.length with h' | h'
  ·exact h'
  ·rw [List.getD_eq_getElem?_getD,List.getElem?_eq_none h'] at ht;cases ht
 cases hd:o.dst with
 | none=>exact hw
 | some d =>
  have hdt':d ≠ t:=by rintro rfl;exact hdt hd
  refine hw.put d (.c (.own x)) v (Keep.refl _ _ _) (fun _ _ _ _=>rfl) (by rw [noSelf_c];exact h4) ?_ ?_
  ·rw [noSelf_c]
   intro b hb
   obtain ⟨k1,k2⟩:=blksL_get l vs i hc h3 hnd b hb
   refine ⟨h.own t b (by rw [hbt];exact k1),fun j hj hm=>?_⟩
   rw [getD_set] at hm
   by_cases htj:t=j
   ·subst htj
    rw [if_pos rfl,if_pos hlt,hbt'] at hm
    exact k2 hm
   ·rw [if_neg htj] at hm
    exact h.dist t j htj b (by rw [hbt];exact k1) hm
  ·rw [noSelf_c]
   show (blkOf v).Nodup
   unfold blkOf;split<;>simp
theorem op_moveT (h:Sim P base pb w0 w e a.tmps) (hn:Nx P base pb w0 w e a o K r next) {t:Nat} (ho:o.op=.move (.tmp t)) {l:List C} (ht:e.getD t .u=.tup l) (hdt:o.dst ≠ some t) (hK:K (putO (e.set t .u) o.dst (.tup l))=some r):o.wp P a w next Q:=by
 have hr:=h.rel t
 have hw:=h.weak t .u trivial (h.noneOf (by rw [ht];rfl)) rfl (by simp [blks]) (by simp [blks])
 refine wp_val (v:=a.tmps.getD t undef) (by simp only [execOp,ho];rfl) (hn _ _ _ hK ?_ (put_keeps _ _ _) fun _=>Ext.refl w)
 cases hd:o.dst with
 | none=>exact hw
 | some d =>
  have hdt':d ≠ t:=by rintro rfl;exact hdt hd
  rw [ht] at hr
  refine hw.put d (.tup l) _ (Keep.refl _ _ _) (fun _ _ _ _=>rfl) (by rw [noSelf_tup];exact hr) ?_ ?_
  ·rw [noSelf_tup]
   intro b hb
   have hb':b ∈ blks (e.getD t .u) (a.tmps.getD t undef):=by rw [ht];exact hb
   refine ⟨h.own t b hb',fun j hj hm=>?_⟩
   rw [getD_set] at hm
   by_cases htj:t=j
   ·subst htj;rw [if_pos rfl] at hm;split at hm<;>simp [blks] at hm
   ·rw [if_neg htj] at hm;exact h.dist t j htj b hb' hm
  ·rw [noSelf_tup]
   have:=h.nd t;rw [ht] at this;exact this
theorem op_moveT0 (h:Sim P base pb w0 w e a.tmps) {t:Nat} (ho:o.op=.move (.tmp t)) {l:List C} (ht:e.getD t .u=.tup l) (hl:l.all plainC=true) (hK:K (putO e o.dst (.tup l))=some r):Pure1 P base pb w e a K r o:=by
 refine op_move h ho ?_
 have:ev e (.tmp t)=.tup l:=by
  show rd e t=_
  unfold rd;rw [ht];dsimp only;rw [hl]
 rw [this];exact hK
end Go.Proofs.YtffmgholjdfcnaaGreatDoor.AM
set_option linter.unusedSimpArgs false
namespace Go.Proofs.YtffmgholjdfcnaaGreatDoor.AM
open Go
variable {P:Program} {base:Nat} {pb:Option Nat} {w0 w w':World} {e:Env} {a:Act}
variable {K:Env→Option Out} {r:Out} {next:Act→World→Prop} {Q:Exit→Act→World→Prop} {o:Oper}
theorem toList2 {α:Type} {x:Array α} {p q:α} (h:x.toList=[p,q]):x=#[p,q]:=by apply Array.ext';simpa using h
theorem toList1 {α:Type} {x:Array α} {p:α} (h:x.toList=[p]):x=#[p]:=by apply Array.ext';simpa using h
theorem sliceish_some {t:Nat} (h:sliceish P t=true):(∃ el,P.underlying t=some (.slice el))∨P.underlying t=some .string:=by
 unfold sliceish at h;split at h
 ·exact .inl ⟨_,‹_›⟩
 ·exact .inr ‹_›
 ·cases h
theorem op_len (h:Sim P base pb w0 w e a.tmps) {c:Call} (ho:o.op=.call c) (hc:c.callee=.builtin .len) {x:Operand} {t:Nat} (hx:c.args.toList=[x]) (ht:c.argTypes.toList=[t])
  (hK:lenK e (ev e x) (fun n=>K (putO e o.dst (.c (.s (.int .i64 n)))))=some r) (hty:∀ l,ev e x=.c (.s (.str l))→P.underlying t=some .string) (hty':(∀ l,ev e x ≠ .c (.s (.str l)))→∃ el,P.underlying t=some (.slice el)):Pure1 P base pb w e a K r o:=by
 obtain ⟨callee,args,argTypes⟩:=c
 simp only at hc hx ht
 subst hc
 rw [toList1 hx,toList1 ht] at ho
 unfold lenK at hK
 have key:∃ n:Nat,K (putO e o.dst (.c (.s (.int .i64 n))))=some r∧∀ w,(Builtin.len_ #[t] o.type #[a.eval x]).run P w=.ok (.int .i64 n) w:=by
  split at hK
  ·rename_i l hl
   refine ⟨_,hK,fun w=>?_⟩
   rw [ev_s h hl]
   simp [Builtin.len_,run_underlying (hty l hl),S.enc,goInt,size_mk]
  ·rename_i hl
   obtain ⟨el,hu⟩:=hty' (by intro l;rw [hl];simp)
   refine ⟨_,hK,fun w=>?_⟩
   rw [ev_s h hl]
   simp [Builtin.len_,run_underlying hu,S.enc,goInt]
  ·rename_i s hl
   obtain ⟨el,hu⟩:=hty' (by intro l;rw [hl];simp)
   split at hK
   ·rename_i y hy
    refine ⟨_,hK,fun w=>?_⟩
    obtain ⟨A,cap,h3,h4,h5⟩:=owner_slice h hy
    have hv:=(ev_rel h x).1
    rw [hl] at hv
    rw [hv.2,h3]
    simp [Builtin.len_,run_underlying hu,goInt]
   ·cases hK
  ·rename_i s lo n hl
   obtain ⟨el,hu⟩:=hty' (by intro l;rw [hl];simp)
   refine ⟨_,hK,fun w=>?_⟩
   have hv:=(ev_rel h x).1
   rw [hl] at hv
   obtain ⟨g1,⟨A,c,g2,-⟩,-⟩:=hv
   rw [g2]
   simp [Builtin.len_,run_underlying hu,goInt]
  ·cases hK
 obtain ⟨n,h1,h2⟩:=key
 refine pureA h1 (v:=.int .i64 n) (fun w' hw=>?_) rfl rfl
 simp only [execOp,ho,resolve,invoke,builtin,Sem.run_bind,Sem.run_pure,Result.andThen_ok,List.map_toArray,List.map_cons,List.map_nil,h2]
theorem src_run (h:Sim P base pb w0 w e a.tmps) {x:Operand} {y:Xs} (hy:srcOf e (ev e x)=some y):(Builtin.lenOf (a.eval x)).run P w=.ok y.len w∧∀ n,n≤y.len→(Builtin.firstCells 1 n (a.eval x)).run P w=.ok (y.enc.take n).toArray w:=by
 have hv:=(ev_rel h x).1
 unfold srcOf at hy
 split at hy
 ·rename_i s hx
  rw [hx] at hv
  obtain ⟨A,cap,h3,h4,h5⟩:=owner_slice h hy
  have hval:a.eval x=.slice A y.len cap:=hv.2.trans h3
  rw [hval]
  refine ⟨rfl,fun n hl=>?_⟩
  cases A with
  | none =>
   have:n=0:=by
    rcases Nat.eq_zero_or_pos n with h' | h'
    ·exact h'
    ·obtain ⟨b,hb⟩:=h5 (by omega);cases hb
   subst this;simp [Builtin.firstCells]
  | some A =>
   have hc:=cells_at h (contentB_of hy) (lo:=0) (n:=n) (by omega) (A:=A) (fun _=>by rw [h3];rfl)
   rw [cut_enc,List.drop_zero] at hc
   simpa [Builtin.firstCells,Addr.add] using hc
 ·rename_i s lo n0 hx
  rw [hx] at hv
  obtain ⟨g1,⟨A,c,g2,g3,g4,g5⟩,g6⟩:=hv
  split at hy
  ·rename_i z hz
   cases hy
   have hlz:=g6.1 z hz
   rw [g2,cut_len z lo n0 hlz]
   refine ⟨rfl,fun n hl=>?_⟩
   by_cases hn0:n=0
   ·subst hn0
    cases A<;>simp [Builtin.firstCells,loadCells,loadCellsFrom]
   ·obtain ⟨b,k1,rfl⟩:=g4 (by omega)
    have hc:=cells_at h hz (lo:=lo) (n:=n) (by omega) (A:=b) (fun _=>k1)
    rw [cut_enc] at hc
    rw [cut_enc,List.take_take,Nat.min_eq_left hl]
    simpa [Builtin.firstCells] using hc
  ·cases hy
 ·rename_i hx
  cases hy
  rw [ev_s h hx]
  refine ⟨rfl,fun n _=>by simp [S.enc,Builtin.firstCells,Xs.enc,Xs.toS]⟩
 ·rename_i l hx
  cases hy
  rw [ev_s h hx]
  refine ⟨by simp [S.enc,Builtin.lenOf,size_mk,Xs.len],fun n hl=>?_⟩
  simp only [Xs.len,List.length_map] at hl
  simp only [S.enc,Builtin.firstCells,Sem.run_pure,extract_mk]
  congr 1
  apply Array.ext'
  simp [Xs.enc,Xs.toS,List.map_take]
  rfl
 ·cases hy
theorem Xs.app_some {x y z:Xs} (h:x.app y=some z):z.enc=x.enc++y.enc∧z.len=x.len+y.len:=by
 unfold Xs.app at h
 split at h
 ·split at h
  ·rename_i hk;subst hk;cases h;simp [Xs.enc,Xs.toS,Xs.len]
  ·cases h
 ·cases h;simp [Xs.enc,Xs.toS,Xs.len]
 ·cases h;simp [Xs.enc,Xs.toS,Xs.len]
 ·cases h;simp [Xs.enc,Xs.toS,Xs.len]
 ·cases h;simp [Xs.enc,Xs.toS,Xs.len]
 ·cases h
theorem run_app_room {t u ty el:Nat} {i:TypeInfo} (ht:P.underlying t=some (.slice el)) (hu:sliceish P u=true) (hi:P.info? el=some i) (hs:i.size=1) {b sLen sCap n T:Nat} {x:Value} {cur:Array Value} {fr:Nat × Nat} {news:List Value}
  (hg:w.heap[b]?=some (.cells cur T fr)) (hfr:∀ j,j<cur.size→¬ (fr.1≤j∧j<fr.2)) (hx:(Builtin.lenOf x).run P w=.ok n w) (hf:(Builtin.firstCells 1 n x).run P w=.ok news.toArray w) (hnl:news.length=n) (h1:∀ v ∈ news,v.oneCell'=true)
  (hroom:sLen+n≤sCap) (hfit:sLen+n≤cur.size) :
  (Builtin.append_ #[t,u] ty #[.slice (some ⟨b,0,none⟩) sLen sCap,x]).run P w=.ok (.slice (some ⟨b,0,none⟩) (sLen+n) sCap) (w.setRow b (cur.toList.take sLen++news++cur.toList.drop (sLen+n)).toArray):=by
 have hst:=run_storeCells_fr P b sLen T fr news 0 cur w hg (by omega) hfr h1
 rw [Nat.add_zero,hnl] at hst
 rcases sliceish_some hu with ⟨el',hd⟩ | hd
 ·simp [Builtin.append_,run_underlying ht,run_underlying hd,sizeOf,typeInfo,hi,hs,hx,hf,hroom,Addr.zero_add]
  rw [hst];simp
 ·simp [Builtin.append_,run_underlying ht,run_underlying hd,sizeOf,typeInfo,hi,hs,hx,hf,hroom,Addr.zero_add]
  rw [hst];simp
theorem run_app_nil {t u ty el:Nat} {i:TypeInfo} (ht:P.underlying t=some (.slice el)) (hu:sliceish P u=true) (hi:P.info? el=some i) (hs:i.size=1) {x:Value} (hx:(Builtin.lenOf x).run P w=.ok 0 w) (hf:(Builtin.firstCells 1 0 x).run P w=.ok #[] w) :
  (Builtin.append_ #[t,u] ty #[.slice none 0 0,x]).run P w=.ok (.slice none 0 0) w:=by
 rcases sliceish_some hu with ⟨el',hd⟩ | hd<;>simp [Builtin.append_,run_underlying ht,run_underlying hd,sizeOf,typeInfo,hi,hs,hx,hf]
theorem run_app_grow {t u ty el:Nat} {i:TypeInfo} {z:Value} (ht:P.underlying t=some (.slice el)) (hu:sliceish P u=true) (hi:P.info? el=some i) (hs:i.size=1) (hby:i.bytes≤16) (hz0:i.zero=some z) {A:Option Addr} {sLen sCap n:Nat} {x:Value} {olds news:List Value}
  (hx:(Builtin.lenOf x).run P w=.ok n w) (hf:(Builtin.firstCells 1 n x).run P w.drew=.ok news.toArray w.drew) (ho:(Builtin.firstCells 1 sLen (.slice A sLen sCap)).run P w.drew=.ok olds.toArray w.drew)
  (hroom:sCap<sLen+n) (hsm:sLen+n≤1099511627776) :
  (Builtin.append_ #[t,u] ty #[.slice A sLen sCap,x]).run P w=.ok (.slice (some ⟨w.heap.size,0,none⟩) (sLen+n) (grownCap w (sLen+n) sCap el))
   (w.drew.alloc (.cells (olds.toArray++news.toArray++Builtin.zeroCells z.cells (grownCap w (sLen+n) sCap el - (sLen+n))) el)):=by
 have hn:¬ (sLen+n≤sCap):=by omega
 have h63:¬ (9223372036854775807<((sLen:Int)+(n:Int))):=by omega
 have hfit:Builtin.nextslicecap (sLen+n) sCap * i.bytes≤281474976710656:=by
  refine growslice_fits hroom ?_
  have:(sLen+n) * i.bytes≤1099511627776 * 16:=Nat.mul_le_mul hsm hby
  omega
 have h48:¬ (281474976710656<Builtin.nextslicecap (sLen+n) sCap * i.bytes):=by omega
 have hassoc:∀ z:Array Value,olds.toArray++(news.toArray++z)=(olds++news).toArray++z:=by intro z;apply Array.ext';simp
 rcases sliceish_some hu with ⟨el',hd⟩ | hd<;>simp [Builtin.append_,run_underlying ht,run_underlying hd,sizeOf,typeInfo,zeroValue,hi,hs,hz0,hx,hn,h63,h48,Question.forced,hf,ho,newRow,grownCap]<;>rw [hassoc]
theorem Sim.putOwn (h:Sim P base pb w0 w e a.tmps) {d:Option Nat} {x:Xs} {v:Value} (hr:OwnRel w x v) (hb:∀ b,b ∈ blkOf v→(b<w.heap.size∧(base≤b∨pb=some b))∧∀ i,b ∉ blks (e.getD i .u) (a.tmps.getD i undef)) :
  Sim P base pb w0 w (AM.putO e d (.c (.own x))) (a.put d v).tmps:=by
 cases d with
 | none=>exact h
 | some d =>
  refine h.put d _ v (Keep.refl _ _ _) (fun _ _ _ _=>rfl) hr (fun b hm=>⟨(hb b hm).1,fun i _=>(hb b hm).2 i⟩) ?_
  show (blkOf v).Nodup
  unfold blkOf;split<;>simp
theorem op_appendG (h:Sim P base pb w0 w e a.tmps) (hn:Nx P base pb w0 w e a o K r next) {e2:Env} (h2:Sim P base pb w0 w e2 a.tmps) {c:Call} (ho:o.op=.call c) (hc:c.callee=.builtin .append) {x y:Operand} {t u:Nat} (hxy:c.args.toList=[x,y]) (ht:c.argTypes.toList=[t,u])
  {el:Nat} {zz:S} (hz:elemZ P t=some (el,zz)) (hu:sliceish P u=true) {x0 y0 z:Xs} (hown:OwnRel w x0 (a.eval x)) (hblk:∀ b,b ∈ blkOf (a.eval x)→(b<w.heap.size∧(base≤b∨pb=some b))∧∀ i,b ∉ blks (e2.getD i .u) (a.tmps.getD i undef))
  (hsrc:srcOf e (ev e y)=some y0) (happ:x0.app y0=some z) (hlen:z.len≤1099511627776) (hK:K (putO e2 o.dst (.c (.own z)))=some r):o.wp P a w next Q:=by
 obtain ⟨callee,args,argTypes⟩:=c
 simp only at hc hxy ht
 subst hc
 rw [toList2 hxy,toList2 ht] at ho
 obtain ⟨g1,g2,i,g3,g4,g5,g6,g7⟩:=elemZ_some hz
 obtain ⟨k1,k2⟩:=src_run h hsrc
 obtain ⟨z1,z2⟩:=Xs.app_some happ
 have hyl:y0.enc.length=y0.len:=Xs.len_enc y0
 have hxl:x0.enc.length=x0.len:=Xs.len_enc x0
 have hy1:=k2 y0.len (Nat.le_refl _)
 rw [List.take_of_length_le (by omega)] at hy1
 have hsd:Sim P base pb w0 w.drew e a.tmps:=h.grow ⟨rfl,rfl,rfl,Nat.le_refl _,fun _ _ _=>rfl⟩ fun _ _ _=>rfl
 have hy2:=(src_run hsd hsrc).2 y0.len (Nat.le_refl _)
 rw [List.take_of_length_le (by omega)] at hy2
 have fin:∀ v w',(Builtin.append_ #[t,u] o.type #[a.eval x,a.eval y]).run P w=.ok v w'→Keep base pb w w'→(∀ i b,b ∈ blks (e2.getD i .u) (a.tmps.getD i undef)→w'.heap[b]?=w.heap[b]?)→OwnRel w' z v →
   (∀ b,b ∈ blkOf v→(b<w'.heap.size∧(base≤b∨pb=some b))∧∀ i,b ∉ blks (e2.getD i .u) (a.tmps.getD i undef))→o.wp P a w next Q:=by
  intro v w' hrun hk hb hr hbv
  refine wp_val (v:=v) (w':=w') ?_ (hn _ _ _ hK ((h2.grow hk hb).putOwn hr hbv) (put_keeps _ _ _) fun hq=>by simp [quietE,ho] at hq)
  simp only [execOp,ho,resolve,invoke,builtin,Sem.run_bind,Sem.run_pure,Result.andThen_ok,List.map_toArray,List.map_cons,List.map_nil,hrun]
 have grow:∀ A cap,a.eval x=.slice A x0.len cap→cap<x0.len+y0.len→(Builtin.firstCells 1 x0.len (.slice A x0.len cap)).run P w.drew=.ok x0.enc.toArray w.drew→o.wp P a w next Q:=by
  intro A cap hA hroom hold
  have hrun:=run_app_grow (P:=P) (ty:=o.type) g1 hu g3 g4 g5 g6 k1 hy2 hold hroom (by omega)
  refine fin _ (w.drew.alloc (.cells (x0.enc.toArray++y0.enc.toArray++Builtin.zeroCells zz.enc.cells (grownCap w (x0.len+y0.len) cap el - (x0.len+y0.len))) el)) (by rw [hA];exact hrun) ⟨rfl,rfl,rfl,by simp,fun b hb _=>?_⟩ (fun i b hm=>?_) ?_ ?_
  ·exact heap_alloc_old w.drew _ b (by have:=h.low;show b<w.heap.size;omega)
  ·exact heap_alloc_old w.drew _ b (h2.own i b hm).1
  ·refine .inr ⟨w.heap.size,grownCap w (x0.len+y0.len) cap el,el,_,(0,0),by rw [z2],heap_alloc_new w.drew _,by rw [z2];exact grownCap_ge _ _ _ _,?_,by intro j _;simp,?_⟩
   ·have:=grownCap_ge w (x0.len+y0.len) cap el
    simp only [Array.size_append,List.size_toArray,hxl,hyl,Builtin.zeroCells,g7,Array.size_map,Array.size_range]
    simp;omega
   ·intro j hj
    rw [z1,Array.getElem?_append,if_pos (by simp [hxl,hyl];omega)]
    simp
  ·intro b hb
   simp only [blkOf,baseOf,List.mem_singleton] at hb
   subst hb
   refine ⟨⟨by simp,.inl h.low⟩,fun i hm=>?_⟩
   have:=(h2.own i _ hm).1;omega
 rcases hown with ⟨hv,hl0⟩ | ⟨b,cap,T,Cs,fr,hv,p2,p3,p4,p5,p6⟩
 ·by_cases hy0:y0.len=0
  ·have hrun:=run_app_nil (P:=P) (ty:=o.type) g1 hu g3 g4 (by rw [hy0] at k1;exact k1) (by rw [hy0] at hy1;rw [hy1];rw [List.eq_nil_of_length_eq_zero (by omega:y0.enc.length=0)])
   refine fin (.slice none 0 0) w (by rw [hv];exact hrun) (Keep.refl _ _ _) (fun _ _ _=>rfl) (.inl ⟨rfl,by omega⟩) ?_
   intro b hb;simp [blkOf,baseOf] at hb
  ·refine grow none 0 (by rw [hv,hl0]) (by omega) ?_
   have:x0.enc=[]:=List.eq_nil_of_length_eq_zero (by omega)
   rw [this];simp [Builtin.firstCells]
 ·by_cases hroom:x0.len+y0.len≤cap
  ·have hrun:=run_app_room (P:=P) (ty:=o.type) g1 hu g3 g4 p2 p5 k1 hy1 hyl (enc_one y0) hroom (by omega)
   have hbx:b ∈ blkOf (a.eval x):=by rw [hv];simp [blkOf,baseOf]
   obtain ⟨q1,q2⟩:=hblk b hbx
   refine fin _ _ (by rw [hv];exact hrun) (setRow_keep q1.2 _) (fun i k hk=>setRow_other w b k _ (by rintro rfl;exact q2 i hk)) ?_ ?_
   ·refine .inr ⟨b,cap,T,_,fr,by rw [z2],setRow_heap w b _ _ _ _ p2,by omega,?_,?_,?_⟩
    ·simp [hyl];omega
    ·have:((Cs.toList.take x0.len++y0.enc++Cs.toList.drop (x0.len+y0.len)).toArray).size=Cs.size:=by simp [hyl];omega
     rw [this];exact p5
    ·intro j hj
     have hxt:Cs.toList.take x0.len=x0.enc:=by
      apply List.ext_getElem?
      intro k
      rw [List.getElem?_take]
      split
      ·rename_i hk;rw [Array.getElem?_toList];exact p6 k hk
      ·rename_i hk;rw [List.getElem?_eq_none (by omega)]
     rw [z1,List.getElem?_toArray,hxt,List.getElem?_append,if_pos (by simp [hxl,hyl];omega)]
   ·intro b' hb'
    simp only [blkOf,baseOf,List.mem_singleton] at hb'
    subst hb'
    refine ⟨⟨by simpa [World.setRow] using q1.1,q1.2⟩,q2⟩
  ·refine grow _ _ hv (by omega) ?_
   have hcells:∀ j v,x0.enc[j]?=some v→w.drew.cell? ((⟨b,0,none⟩:Addr).add j)=some v:=by
    intro j v hj
    have hjl:j<x0.len:=by rw [← hxl];exact (List.getElem?_eq_some_iff.1 hj).1
    rw [Addr.zero_add]
    show w.cell? _=_
    simp [World.cell?,p2,p5 j (by omega),p6 j hjl,hj]
   exact run_firstCells_some w.drew 1 x0.len ⟨b,0,none⟩ x0.len cap x0.enc (by omega) hcells
end Go.Proofs.YtffmgholjdfcnaaGreatDoor.AM
set_option linter.unusedSimpArgs false
namespace Go.Proofs.YtffmgholjdfcnaaGreatDoor.AM
open Go
variable {P:Program} {base:Nat} {pb:Option Nat} {w0 w w':World} {e:Env} {a:Act}
variable {K:Env→Option Out} {r:Out} {next:Act→World→Prop} {Q:Exit→Act→World→Prop} {o:Oper}
theorem Xs.splice_some {x y z:Xs} {lo m:Nat} (h:x.splice lo m y=some z) (hm:m≤y.len) (hl:lo+m≤x.len):z.enc=x.enc.take lo++y.enc.take m++x.enc.drop (lo+m)∧z.len=x.len:=by
 have key:z.enc=x.enc.take lo++y.enc.take m++x.enc.drop (lo+m):=by
  unfold Xs.splice at h
  split at h
  ·split at h
   ·rename_i hk;subst hk;cases h;simp [Xs.enc,Xs.toS,List.map_take,List.map_drop]
   ·cases h
  ·cases h;simp [Xs.enc,Xs.toS,List.map_take,List.map_drop]
  ·cases h
   have:m=0:=by simpa [Xs.len] using hm
   subst this
   simp [Xs.enc,Xs.toS]
  ·cases h
 refine ⟨key,?_⟩
 have:=congrArg List.length key
 rw [Xs.len_enc] at this
 rw [this]
 simp [Xs.len_enc];omega
theorem op_copyG (h:Sim P base pb w0 w e a.tmps) (hn:Nx P base pb w0 w e a o K r next) {c:Call} (ho:o.op=.call c) (hc:c.callee=.builtin .copy) {x y:Operand} {t u:Nat} (hxy:c.args.toList=[x,y]) (ht:c.argTypes.toList=[t,u])
  {el:Nat} {zz:S} (hz:elemZ P t=some (el,zz)) {y0:Xs} (hsrc:srcOf e (ev e y)=some y0) {s lo n:Nat} {A:Option Addr} {cp:Nat} (hd:a.eval x=.slice A n cp) (hA:0<n→∃ b,baseOf (a.tmps.getD s undef)=some b∧A=some (b.add lo))
  (hln:∀ x,contentB e s=some x→lo+n≤x.len) (hK:copyK e o.dst y0 K s lo n=some r):o.wp P a w next Q:=by
 obtain ⟨callee,args,argTypes⟩:=c
 simp only at hc hxy ht
 subst hc
 rw [toList2 hxy,toList2 ht] at ho
 obtain ⟨g1,g2,i,g3,g4,-,-,-⟩:=elemZ_some hz
 obtain ⟨k1,k2⟩:=src_run h hsrc
 have k3:=k2 (min y0.len n) (Nat.min_le_left _ _)
 have hcl:(y0.enc.take (min y0.len n)).length=min y0.len n:=by simp [Xs.len_enc]
 have run0:min y0.len n=0→(Builtin.copy_ #[t,u] o.type #[a.eval x,a.eval y]).run P w=.ok (.int .i64 (min y0.len n:Nat)) w:=by
  intro h0
  rw [h0] at k3
  rw [hd,h0]
  have e1:Nat.min y0.len n=0:=h0
  cases A<;>simp [Builtin.copy_,run_underlying g1,sizeOf,typeInfo,g3,g4,k1,e1,k3,storeCells,goInt]
 have run1:∀ {b T:Nat} {Cs:Array Value} {fr:Nat × Nat},baseOf (a.tmps.getD s undef)=some ⟨b,0,none⟩→w.heap[b]?=some (.cells Cs T fr)→(∀ j,j<Cs.size→¬ (fr.1≤j∧j<fr.2))→lo+n≤Cs.size→0<min y0.len n →
   (Builtin.copy_ #[t,u] o.type #[a.eval x,a.eval y]).run P w=.ok (.int .i64 (min y0.len n:Nat)) (w.setRow b (Cs.toList.take lo++y0.enc.take (min y0.len n)++Cs.toList.drop (lo+min y0.len n)).toArray):=by
  intro b T Cs fr hb hg hfr hfit h0
  obtain ⟨b',q1,q2⟩:=hA (by omega)
  rw [hb] at q1;cases q1
  have hst:=run_storeCells_fr P b lo T fr (y0.enc.take (min y0.len n)) 0 Cs w hg (by rw [hcl];omega) hfr (fun v hv=>enc_one y0 v (List.mem_of_mem_take hv))
  rw [hcl,Nat.add_zero] at hst
  rw [hd,q2,Addr.zero_add]
  simp only [Builtin.copy_,run_underlying g1,sizeOf,typeInfo,g3,g4,k1,Sem.run_bind,Sem.run_pure,Result.andThen_ok,run_program,List.getElem?_toArray,List.getElem?_cons_zero,List.getElem?_cons_succ]
  have e1:Nat.min y0.len n=min y0.len n:=rfl
  simp only [e1,k3,Result.andThen_ok,hst,goInt]
 have fin:∀ {w':World} {e':Env},(Builtin.copy_ #[t,u] o.type #[a.eval x,a.eval y]).run P w=.ok (.int .i64 (min y0.len n:Nat)) w'→Sim P base pb w0 w' e' a.tmps→K (putO e' o.dst (.c (.s (.int .i64 (min y0.len n:Nat)))))=some r→o.wp P a w next Q:=by
  intro w' e' hrun hs hK
  refine wp_val (v:=.int .i64 (min y0.len n:Nat)) (w':=w') ?_ (hn _ _ _ hK (hs.putO0 a rfl o.dst _ _ rfl rfl) (put_keeps _ _ _) fun hq=>by simp [quietE,ho] at hq)
  simp only [execOp,ho,resolve,invoke,builtin,Sem.run_bind,Sem.run_pure,Result.andThen_ok,List.map_toArray,List.map_cons,List.map_nil,hrun]
 unfold copyK at hK
 split at hK
 ·rename_i x0 hx0
  have hl:=hln x0 (by unfold contentB;rw [hx0])
  split at hK
  ·rename_i z hzz
   obtain ⟨s1,s2⟩:=Xs.splice_some hzz (Nat.min_le_left _ _) (by omega)
   have hr:=h.rel s
   rw [hx0] at hr
   by_cases h0:min y0.len n=0
   ·have hze:z.enc=x0.enc:=by rw [s1,h0];simp
    refine fin (run0 h0) (e':=e.set s (.c (.own z))) ?_ hK
    rcases hr with ⟨q1,q2⟩ | ⟨b,cap,T,Cs,fr,q1,q2,q3,q4,q5,q6⟩
    ·have hbl:blks (.c (.own z)) (a.tmps.getD s undef)=blks (e.getD s .u) (a.tmps.getD s undef):=by rw [hx0];rfl
     refine h.turn s (.c (.own z)) (Keep.refl _ _ _) (fun _ _ _=>rfl) (.inl ⟨q1,by omega⟩) hbl (fun _=>rfl) (by rw [hx0];intro h';cases h') (by rw [hx0];rfl) rfl ?_ ?_ (by intro T2 y2 h2;cases h2)
     ·intro xx x' hxx hx'
      unfold contentB at hxx;rw [hx0] at hxx;cases hxx
      simp only [contentB,List.getD_cons_zero,Option.some.injEq] at hx'
      rw [← hx'];exact s2
     ·intro x' _;exact ⟨x0,by unfold contentB;rw [hx0]⟩
    ·have:=h.setOwn hx0 q1 q2 q3 q4 q5 (y:=z) s2 (Cs':=Cs) rfl (by rw [hze];exact q6)
     rwa [setRow_self w b Cs T fr q2] at this
   ·rcases hr with ⟨q1,q2⟩ | ⟨b,cap,T,Cs,fr,q1,q2,q3,q4,q5,q6⟩
    ·omega
    ·refine fin (run1 (by rw [q1];rfl) q2 q5 (by omega) (by omega)) (h.setOwn hx0 q1 q2 q3 q4 q5 (y:=z) s2 ?_ ?_) hK
     ·simp only [List.size_toArray,List.length_append,List.length_take,List.length_drop,Array.length_toList,hcl,Xs.len_enc];omega
     ·intro i hi
      rw [List.getElem?_toArray,s1]
      simp only [List.append_assoc,List.getElem?_append,List.length_take,Array.length_toList,Xs.len_enc,List.getElem?_take,List.getElem?_drop]
      have e1:min lo Cs.size=lo:=by omega
      have e2:min lo x0.len=lo:=by omega
      rw [e1,e2]
      by_cases c1:i<lo
      ·rw [if_pos c1,if_pos c1,if_pos c1,if_pos c1,Array.getElem?_toList,q6 i hi]
      ·rw [if_neg c1,if_neg c1]
       split
       ·rfl
       ·rename_i c2
        have e3:lo+min y0.len n+(i - lo - min (min y0.len n) y0.len)=i:=by omega
        rw [e3,Array.getElem?_toList,q6 i hi]
  ·cases hK
 ·rename_i T0 x0 hx0
  have hl:=hln x0 (by unfold contentB;rw [hx0])
  split at hK
  ·rename_i z hzz
   obtain ⟨s1,s2⟩:=Xs.splice_some hzz (Nat.min_le_left _ _) (by omega)
   obtain ⟨b,q1,q2,q3⟩:=h.setBox hx0
   have hs:=q3 z s2
   by_cases h0:min y0.len n=0
   ·have hze:z.enc=x0.enc:=by rw [s1,h0];simp
    rw [hze,setRow_self w b _ _ _ q2] at hs
    exact fin (run0 h0) hs hK
   ·refine fin (run1 (by rw [q1];rfl) q2 (by simp) (by simp [Xs.len_enc];exact hl) (by omega)) ?_ hK
    rw [s1] at hs
    exact hs
  ·cases hK
 ·cases hK
theorem Sim.killed (h:Sim P base pb w0 w e a.tmps) (d:Nat):Sim P base pb w0 w (kill d e) a.tmps:=by
 have hb:∀ i b,b ∈ blks ((kill d e).getD i .u) (a.tmps.getD i undef)→b ∈ blks (e.getD i .u) (a.tmps.getD i undef):=by
  intro i b hm
  rw [getD_kill] at hm
  unfold noSelf at hm
  split at hm
  ·simp [blks] at hm
  ·exact hm
 refine ⟨by rw [length_kill];exact h.size,fun i=>?_,fun i j hij b hi hj=>h.dist i j hij b (hb i b hi) (hb j b hj),fun i b hi=>h.own i b (hb i b hi),fun i=>?_,h.keep,h.low⟩
 ·rw [getD_kill]
  unfold noSelf;split
  ·trivial
  ·exact (h.rel i).env fun s hs hso=>⟨kill_owner d e s hso,rfl⟩
 ·rw [getD_kill]
  unfold noSelf;split
  ·simp [blks]
  ·exact h.nd i
theorem kill_none (d:Nat) (e:Env) (i:Nat):aliasOf d ((kill d e).getD i .u)=false:=by rw [getD_kill];exact noSelf_alias d _
theorem kill_keeps {d s:Nat} {e:Env} (h:∀ i,aliasOf s (e.getD i .u)=false) (i:Nat):aliasOf s ((kill d e).getD i .u)=false:=by
 rw [getD_kill];unfold noSelf;split
 ·rfl
 ·exact h i
theorem set_keeps {s d:Nat} {y:V} {e:Env} (h:∀ i,aliasOf s (e.getD i .u)=false) (hy:aliasOf s y=false) (i:Nat):aliasOf s ((e.set d y).getD i .u)=false:=by
 rw [getD_set];split
 ·split
  ·exact hy
  ·rfl
 ·exact h i
theorem kill_id {d:Nat} {e:Env} (h:∀ i,aliasOf d (e.getD i .u)=false):kill d e=e:=by
 apply List.ext_getElem?
 intro i
 have:=h i
 simp only [kill,List.getElem?_map,List.getD_eq_getElem?_getD] at this ⊢
 cases hi:e[i]? with
 | none=>rfl
 | some v=>rw [hi] at this;simp only [Option.getD_some] at this;simp [noSelf_no this]
theorem put_set {d:Nat} {e:Env} {v:V} (h:∀ i,aliasOf d (e.getD i .u)=false) (hv:aliasOf d v=false):put e d v=e.set d v:=by
 unfold put;rw [noSelf_no hv,kill_id h];split<;>rfl
theorem Sim.give (h:Sim P base pb w0 w e a.tmps) (s d:Nat) (hs:s<e.length) (y:V) (v:Value) (hy:∀ q,aliasOf q y=false) (hr:RelV P base pb w e a.tmps y v) (hb:∀ b,b ∈ blks y v→b ∈ blks (e.getD s .u) (a.tmps.getD s undef)) (hnd:(blks y v).Nodup) :
  Sim P base pb w0 w (((kill s (kill d e)).set s .u).set d y) (a.tmps.setIfInBounds d v):=by
 have h1:=(h.killed d).killed s
 have n1:=kill_none s (kill d e)
 have n2:∀ i,aliasOf d ((kill s (kill d e)).getD i .u)=false:=kill_keeps (kill_none d e)
 have h2:=h1.weak s .u trivial n1 rfl (by simp [blks]) (by simp [blks])
 have n3:∀ i,aliasOf d (((kill s (kill d e)).set s .u).getD i .u)=false:=set_keeps n2 rfl
 rw [← put_set n3 (hy d)]
 have hbe:∀ i b,b ∈ blks (((kill s (kill d e)).set s .u).getD i .u) (a.tmps.getD i undef)→i ≠ s∧b ∈ blks (e.getD i .u) (a.tmps.getD i undef):=by
  intro i b hm
  rw [getD_set,length_kill,length_kill] at hm
  by_cases hsi:s=i
  ·rw [if_pos hsi] at hm;split at hm<;>simp [blks] at hm
  ·rw [if_neg hsi] at hm
   refine ⟨Ne.symm hsi,?_⟩
   rw [getD_kill,getD_kill] at hm
   unfold noSelf at hm
   split at hm
   ·simp [blks] at hm
   ·split at hm
    ·simp [blks] at hm
    ·exact hm
 refine h2.put d y v (Keep.refl _ _ _) (fun _ _ _ _=>rfl) ?_ ?_ ?_
 ·rw [noSelf_no (hy d)]
  exact hr.env fun q hq _=>by rw [hy q] at hq;cases hq
 ·rw [noSelf_no (hy d)]
  intro b hm
  have hm':=hb b hm
  refine ⟨h.own s b hm',fun i _ hi=>?_⟩
  obtain ⟨k1,k2⟩:=hbe i b hi
  exact h.dist s i (Ne.symm k1) b hm' k2
 ·rw [noSelf_no (hy d)];exact hnd
theorem lt_of_owner {s:Nat} (h:owner (e.getD s .u)=true):s<e.length:=by
 by_cases hl:s<e.length
 ·exact hl
 ·rw [List.getD_eq_getElem?_getD,List.getElem?_eq_none (by omega)] at h;simp [owner] at h
theorem nodup_blkOf (v:Value):(blkOf v).Nodup:=by unfold blkOf;split<;>simp
theorem cut_own {w:World} {x:Xs} {n c:Nat} {A:Option Addr} {v:Value} (h:OwnRel w x v) (hn:n≤x.len) (hnc:n≤c) (hA:∀ A' len cap,v=.slice A' len cap→A=A'∧c=cap):OwnRel w (x.cut 0 n) (.slice A n c):=by
 have hcl:(x.cut 0 n).len=n:=cut_len x 0 n (by omega)
 rcases h with ⟨h1,h2⟩ | ⟨b,cap,T,Cs,fr,h1,h2,h3,h4,h5,h6⟩
 ·obtain ⟨rfl,rfl⟩:=hA _ _ _ h1
  have:n=0:=by omega
  subst this
  exact .inl ⟨rfl,hcl⟩
 ·obtain ⟨rfl,rfl⟩:=hA _ _ _ h1
  refine .inr ⟨b,c,T,Cs,fr,by rw [hcl],h2,by rw [hcl];exact hnc,h4,h5,fun i hi=>?_⟩
  rw [hcl] at hi
  rw [h6 i (by omega),cut_enc,List.drop_zero,List.getElem?_take,if_pos hi]
theorem cut_ro {w:World} {x:Xs} {n lo c:Nat} {A:Option Addr} {v:Value} (h:RoRel base pb w x v) (hn:lo+n≤x.len) (hnc:n≤c) (hA:0<n→∃ b,baseOf v=some b∧A=some (b.add lo)):RoRel base pb w (x.cut lo n) (.slice A n c):=by
 have hcl:(x.cut lo n).len=n:=cut_len x lo n hn
 obtain ⟨a',cap,h1,h2,h3⟩:=h
 refine ⟨A,c,by rw [hcl],by rw [hcl];exact hnc,fun i hi=>?_⟩
 rw [hcl] at hi
 obtain ⟨b,q1,rfl⟩:=hA (by omega)
 obtain ⟨b',q2,q3,q4,q5⟩:=h3 (lo+i) (by omega)
 rw [h1] at q1
 simp only [baseOf] at q1
 rw [q1] at q2;cases q2
 refine ⟨b.add lo,rfl,by rw [Addr.block_add];exact q3,by rw [Addr.block_add];exact q4,?_⟩
 rw [Addr.add_add',q5,cut_enc,List.getElem?_take,if_pos hi,List.getElem?_drop]
theorem op_assign (h:Sim P base pb w0 w e a.tmps) (hn:Nx P base pb w0 w e a o K r next) {nn:Nat} {x:Operand} (ho:o.op=.assign x) {d:Nat} (hd:o.dst=some d) (hK:asgK nn e d (ev e x) K=some r):o.wp P a w next Q:=by
 have hv:=(ev_rel h x).1
 have hvb:=(ev_rel h x).2
 have plain:K (put e d (ev e x))=some r→o.wp P a w next Q:=by
  intro hK
  exact (pureA (x:=ev e x) (v:=a.eval x) (by rw [hd];exact hK) (fun _ _=>by simp only [execOp,ho];rfl) hv hvb).wp h hn
 have gives:∀ {s:Nat} {y:V},K (((kill s (kill d e)).set s .u).set d y)=some r→s<e.length→(∀ q,aliasOf q y=false)→RelV P base pb w e a.tmps y (a.eval x)→(∀ b,b ∈ blks y (a.eval x)→b ∈ blks (e.getD s .u) (a.tmps.getD s undef))→(blks y (a.eval x)).Nodup→o.wp P a w next Q:=by
  intro s y hK hs hy hr hb hnd
  refine wp_val (v:=a.eval x) (by simp only [execOp,ho];rfl) (hn _ _ _ hK ?_ (put_keeps _ _ _) fun _=>Ext.refl w)
  rw [hd]
  exact h.give s d hs y _ hy hr hb hnd
 unfold asgK at hK
 split at hK
 ·rename_i s off hx
  rw [hx] at hv
  obtain ⟨h1,A,h2,h3⟩:=hv
  split at hK
  ·rename_i T y hs _
   have hr:=h.rel s
   rw [hs] at hr
   obtain ⟨b,k1,k2,k3⟩:=hr
   rw [k1] at h2;cases h2
   have hav:a.eval x=a.tmps.getD s undef:=by rw [h3,k1,Addr.zero_add]
   refine gives hK (lt_of_owner h1) (fun _=>rfl) ?_ ?_ ?_
   ·rw [hav];exact ⟨b,k1,k2,k3⟩
   ·rw [hav,hs];exact fun _=>id
   ·exact nodup_blkOf _
  ·split at hK
   ·cases hK
   ·exact plain hK
 ·rename_i s hx
  rw [hx] at hv
  obtain ⟨h1,h2⟩:=hv
  split at hK
  ·rename_i y hs _ _
   have hr:=h.rel s
   rw [hs] at hr
   exact gives hK (lt_of_owner (isSl_owner h1)) (fun _=>rfl) (by rw [h2];exact hr) (by rw [h2,hs];exact fun _=>id) (nodup_blkOf _)
  ·rename_i y hs _ _
   have hr:=h.rel s
   rw [hs] at hr
   exact gives hK (lt_of_owner (isSl_owner h1)) (fun _=>rfl) (by rw [h2];exact hr) (by intro b hb;cases hb) (by simp [blks,blksC])
  ·rename_i hsd
   have hsd:s=d:=by simpa using hsd
   subst hsd
   refine wp_val (v:=a.eval x) (by simp only [execOp,ho];rfl) (hn _ _ _ hK ?_ (put_keeps _ _ _) fun _=>Ext.refl w)
   rw [hd]
   have:(a.put (some s) (a.eval x)).tmps=a.tmps:=by
    show a.tmps.setIfInBounds s (a.eval x)=a.tmps
    rw [h2]
    apply Array.ext
    ·simp
    ·intro i hi1 hi2
     rw [Array.getElem_setIfInBounds]
     split
     ·rename_i hsi;subst hsi;simp [hi2]
     ·rfl
   rw [this];exact h
  ·exact plain hK
 ·rename_i s lo n hx
  rw [hx] at hv
  obtain ⟨h1,⟨A,c,h2,h3,h4,h5⟩,h6⟩:=hv
  split at hK
  ·rename_i y hs _
   have hr:=h.rel s
   rw [hs] at hr
   refine gives hK (lt_of_owner h1) (fun _=>rfl) ?_ (by intro b hb;cases hb) (by simp [blks,blksC])
   rw [h2]
   exact cut_ro hr (h6.1 y (by unfold contentB;rw [hs])) h3 h4
  ·rename_i y hs _
   split at hK
   ·have hr:=h.rel s
    rw [hs] at hr
    have hl:=h6.1 y (by unfold contentB;rw [hs])
    refine gives hK (lt_of_owner h1) (fun _=>rfl) ?_ ?_ (nodup_blkOf _)
    ·rw [h2];exact cut_own hr (by omega) h3 (h5 rfl)
    ·rw [h2,hs]
     rcases hr with ⟨q1,q2⟩ | ⟨b,cap,T,Cs,fr,q1,-⟩
     ·obtain ⟨rfl,-⟩:=h5 rfl _ _ _ q1
      intro b hb;simp [blks,blksC,blkOf,baseOf] at hb
     ·obtain ⟨rfl,-⟩:=h5 rfl _ _ _ q1
      rw [q1];exact fun _=>id
   ·split at hK
    ·cases hK
    ·exact plain hK
  ·split at hK
   ·cases hK
   ·exact plain hK
 ·cases hK
 ·exact plain hK
end Go.Proofs.YtffmgholjdfcnaaGreatDoor.AM
set_option linter.unusedSimpArgs false
namespace Go.Proofs.YtffmgholjdfcnaaGreatDoor.AM
open Go
section
variable (P:Program) (G:World→Prop) (ng:Nat)
def CallOk (g:Nat) (args:Array Value) (w:World) (R:Value→World→Prop):Prop:=
 ((callFunc g args).run P w=.ok (.enter g args) w∧Calls P g args w fun | .returned v,w'=>R v w' | _,_=>False)∨∃ v w',(callFunc g args).run P w=.ok (.value v) w'∧R v w'
def RecvRel (w:World):Option (Nat × Xs)→List Value→Option Nat→Prop
 | none,vs,pb=>vs=[]∧pb=none
 | some (T,x),vs,pb=>∃ b,pb=some b∧vs=[.pointer (some ⟨b,0,none⟩)]∧w.heap[b]?=some (.cells x.enc.toArray T (0,0))∧P.cellsOf T=x.len∧ng≤b
def BackRel (w':World):Option (Nat × Xs)→Option Xs→Option Nat→Prop
 | none,_,_=>True
 | some (T,x),some y,pb=>y.len=x.len∧∃ b,pb=some b∧w'.heap[b]?=some (.cells y.enc.toArray T (0,0))
 | some _,none,_=>False
def RetRel (w w':World) (rc:Option (Nat × Xs)) (pb:Option Nat) (p:Out) (v:Value):Prop:=
 Keep w.heap.size pb w w'∧(∀ base pb e tm,RelV P base pb w' e tm (ofRes p.1) v)∧(∀ b,b ∈ blks (ofRes p.1) v→w.heap.size≤b∧b<w'.heap.size)∧(blks (ofRes p.1) v).Nodup∧BackRel w' rc p.2 pb
def LentRel (w w':World) (n b:Nat):Option Xs→Prop
 | none=>True
 | some y=>y.len=n∧∀ Cs T fr,w.heap[b]?=some (.cells Cs T fr)→w'.heap[b]?=some (.cells (y.enc++Cs.toList.drop n).toArray T fr)
def OwnRet (w w':World) (n b:Nat) (p:Out) (v:Value):Prop:=
 Keep w.heap.size (some b) w w'∧(∀ base pb e tm,RelV P base pb w' e tm (ofRes p.1) v)∧(∀ k,k ∈ blks (ofRes p.1) v→((k=b∧p.2=none)∨w.heap.size≤k)∧k<w'.heap.size)∧(blks (ofRes p.1) v).Nodup∧LentRel w w' n b p.2
def FnOwn (Γ:Gam) (g:Nat):Prop:=∀ x cs K r,Γ g none (.own x :: cs) K=some r→∀ w v b vs,G w→ng≤w.heap.size→OwnRel w x v→(∀ k,k ∈ blkOf v→k=b)→b<w.heap.size→ng≤b→RelL w.heap.size (some b) w cs vs→cs.all plainC=true →
 CallOk P g (v :: vs).toArray w fun v' w'=>∃ p,K p=some r∧OwnRet P w w' x.len b p v'
def FnOk (Γ:Gam) (g:Nat):Prop:=(∀ rc as K r,Γ g rc as K=some r→∀ w rv pb vs,G w→ng≤w.heap.size→RecvRel P ng w rc rv pb→RelL w.heap.size pb w as vs→as.all plainC=true →
 CallOk P g (rv++vs).toArray w fun v w'=>∃ p,K p=some r∧RetRel P w w' rc pb p v)∧FnOwn P G ng Γ g
end
variable {P:Program} {G:World→Prop} {ng:Nat} {base:Nat} {pb:Option Nat} {w0 w w':World} {e:Env} {a:Act}
variable {K:Env→Option Out} {r:Out} {next:Act→World→Prop} {Q:Exit→Act→World→Prop} {o:Oper}
theorem lt_of_heap {w:World} {b:Nat} {ob:Obj} (h:w.heap[b]?=some ob):b<w.heap.size:=(Array.getElem?_eq_some_iff.1 h).1
theorem own_ro {w:World} {x:Xs} {v:Value} {pb':Option Nat} (h:OwnRel w x v) (hb:∀ b,b ∈ blkOf v→pb' ≠ some b):RoRel w.heap.size pb' w x v:=by
 rcases h with ⟨rfl,h2⟩ | ⟨b,cap,T,Cs,fr,rfl,h2,h3,h4,h5,h6⟩
 ·exact ⟨none,0,by rw [h2],by omega,fun i hi=>by omega⟩
 ·refine ⟨_,cap,rfl,h3,fun i hi=>⟨⟨b,0,none⟩,rfl,lt_of_heap h2,hb b (by simp [blkOf,baseOf]),?_⟩⟩
  rw [Addr.zero_add]
  simp [World.cell?,h2,h5 i (by omega),h6 i hi]
theorem ro_ro {w:World} {x:Xs} {v:Value} {pb':Option Nat} (h:RoRel base pb w x v) (hl:base≤w.heap.size) (hb:∀ b,pb'=some b→base≤b∨pb=some b):RoRel w.heap.size pb' w x v:=by
 obtain ⟨A,cap,h1,h2,h3⟩:=h
 refine ⟨A,cap,h1,h2,fun i hi=>?_⟩
 obtain ⟨b,k1,k2,k3,k4⟩:=h3 i hi
 exact ⟨b,k1,by omega,fun hp=>by rcases hb _ hp with h | h;omega;exact k3 h,k4⟩
theorem argC_rel (h:Sim P base pb w0 w e a.tmps) {x:Operand} {c:C} (hc:argC e (ev e x)=some c) {pb':Option Nat} (hp:∀ b,pb'=some b→(base≤b∨pb=some b)∧∀ s,isSl (e.getD s .u)=true→b ∉ blks (e.getD s .u) (a.tmps.getD s undef)) :
  RelC w.heap.size pb' w c (a.eval x)∧plainC c=true:=by
 have hv:=(ev_rel h x).1
 have slot:∀ {s:Nat} {y:Xs} {A:V},e.getD s .u=A→(A=.c (.own y)∨A=.c (.ro y))→RoRel w.heap.size pb' w y (a.tmps.getD s undef):=by
  intro s y A hs hA
  have hr:=h.rel s
  rcases hA with rfl | rfl
  ·rw [hs] at hr
   refine own_ro hr fun b hb hpb=>(hp b hpb).2 s (by rw [hs];rfl) ?_
   rw [hs];exact hb
  ·rw [hs] at hr
   exact ro_ro hr h.low fun b hb=>(hp b hb).1
 unfold argC at hc
 split at hc
 ·rename_i s hx
  cases hc;rw [hx] at hv;exact ⟨hv,rfl⟩
 ·rename_i y hx
  cases hc;rw [hx] at hv;exact ⟨hv,rfl⟩
 ·rename_i s hx
  rw [hx] at hv
  split at hc
  ·rename_i y hs
   cases hc;exact ⟨by rw [hv.2];exact slot hs (.inl rfl),rfl⟩
  ·rename_i y hs
   cases hc;exact ⟨by rw [hv.2];exact slot hs (.inr rfl),rfl⟩
  ·cases hc
 ·rename_i s lo n hx
  rw [hx] at hv
  obtain ⟨h1,⟨A,c',h2,h3,h4,h5⟩,h6⟩:=hv
  split at hc
  ·rename_i y hs
   cases hc
   refine ⟨?_,rfl⟩
   rw [h2]
   exact cut_ro (slot hs (.inl rfl)) (h6.1 y (by unfold contentB;rw [hs])) h3 h4
  ·rename_i y hs
   cases hc
   refine ⟨?_,rfl⟩
   rw [h2]
   exact cut_ro (slot hs (.inr rfl)) (h6.1 y (by unfold contentB;rw [hs])) h3 h4
  ·cases hc
 ·cases hc
theorem argCs_rel (h:Sim P base pb w0 w e a.tmps) {pb':Option Nat} (hp:∀ b,pb'=some b→(base≤b∨pb=some b)∧∀ s,isSl (e.getD s .u)=true→b ∉ blks (e.getD s .u) (a.tmps.getD s undef)):∀ {l:List Operand} {as:List C},argCs e (l.map (ev e))=some as →
  RelL w.heap.size pb' w as (l.map a.eval)∧as.all plainC=true
 | [],as,hc=>by simp only [List.map_nil,argCs,Option.some.injEq] at hc;subst hc;exact ⟨.nil,rfl⟩
 | x :: l,as,hc=>by
  simp only [List.map_cons,argCs] at hc
  split at hc
  ·rename_i c cs h1 h2
   cases hc
   obtain ⟨k1,k2⟩:=argC_rel h h1 hp
   obtain ⟨k3,k4⟩:=argCs_rel h hp h2
   exact ⟨.cons k1 k3,by simp [k2,k4]⟩
  ·cases hc
theorem wp_call {g:Nat} {c:Call} (ho:o.op=.call c) {f:Operand} (hc:c.callee=.value f) (hf:a.eval f=.func (.func g) #[] #[]) {R:Value→World→Prop} (h:CallOk P g (c.args.toList.map a.eval).toArray w R)
  (hn:∀ v w',R v w'→next (a.put o.dst v) w'):o.wp P a w next Q:=by
 obtain ⟨callee,args,argTypes⟩:=c
 simp only at hc h
 subst hc
 have hargs:(args.toList.map a.eval).toArray=args.map a.eval:=by apply Array.ext';simp
 rw [hargs] at h
 have hrun:(execOp a.eval o).run P w=(callFunc g (args.map a.eval)).run P w:=by
  simp only [execOp,ho,resolve,hf,Deferred.ofValue,invoke,Sem.run_bind,Sem.run_pure,Result.andThen_ok,Array.empty_append,Array.append_empty]
 unfold Oper.wp
 rw [hrun]
 rcases h with ⟨h1,h2⟩ | ⟨v,w',h1,h2⟩
 ·rw [h1]
  exact Calls.mono h2 fun e w'' he=>by cases e<;>first | exact hn _ _ he | exact he.elim
 ·rw [h1]
  exact hn _ _ h2
theorem ofRes_alias (l:List C) (s:Nat):aliasOf s (ofRes l)=false:=by
 unfold ofRes;split<;>rfl
theorem op_callP {Γ:Gam} {g:Nat} (hΓ:FnOk P G ng Γ g) (hG:G w) (hng:ng≤base∧∀ b,pb=some b→ng≤b) (h:Sim P base pb w0 w e a.tmps) (hn:Nx P base pb w0 w e a o K r next) {c:Call} (ho:o.op=.call c) {f:Operand} (hc:c.callee=.value f) (hf:ev e f=.c (.s (.fn g)))
  (hK:callP Γ e o.dst g (c.args.toList.map (ev e)) K=some r):o.wp P a w next Q:=by
 have hfv:a.eval f=.func (.func g) #[] #[]:=ev_s h hf
 unfold callP at hK
 split at hK
 ·rename_i as has
  obtain ⟨k1,k2⟩:=argCs_rel h (pb':=none) (fun b hb=>by cases hb) has
  have hcall:=hΓ.1 _ _ _ _ hK w [] none _ hG (Nat.le_trans hng.1 h.low) ⟨rfl,rfl⟩ k1 k2
  rw [List.nil_append] at hcall
  refine wp_call ho hc hfv hcall ?_
  rintro v w' ⟨p,hp1,hk,hrel,hblk,hnd,-⟩
  refine hn _ _ _ hp1 ?_ (put_keeps _ _ _) fun _=>hk
  exact h.putNew a rfl o.dst (ofRes p.1) v (Ext.keep hk h.low pb) (fun b hb=>Ext.at hk hb) (ofRes_alias _) (hrel _ _ _ _) hblk hnd
 ·cases hK
theorem op_callO {Γ:Gam} {g:Nat} (hΓ:FnOk P G ng Γ g) (hG:G w) (hng:ng≤base∧∀ b,pb=some b→ng≤b) (h:Sim P base pb w0 w e a.tmps) (hn:Nx P base pb w0 w e a o K r next) {c:Call} (ho:o.op=.call c) {f:Operand} (hc:c.callee=.value f) (hf:ev e f=.c (.s (.fn g)))
  {s lo n:Nat} {l:List V} (hl:c.args.toList.map (ev e)=.ali s lo n :: l) {T:Nat} {x:Xs} (hs:e.getD s .u=.box T x) (hK:callO Γ e o.dst g s lo n T x l K=some r):o.wp P a w next Q:=by
 have hfv:a.eval f=.func (.func g) #[] #[]:=ev_s h hf
 unfold callO at hK
 split at hK
 ·split at hK
  ·rename_i as has
   cases hca:c.args.toList with
   | nil=>rw [hca] at hl;cases hl
   | cons x0 xs =>
    rw [hca] at hl
    simp only [List.map_cons,List.cons.injEq] at hl
    obtain ⟨hx0,rfl⟩:=hl
    have hr:=h.rel s
    rw [hs] at hr
    obtain ⟨b,h1,h2,h3⟩:=hr
    have hbl:blks (e.getD s .u) (a.tmps.getD s undef)=[b]:=by rw [hs,h1];rfl
    have hown:=h.own s b (by rw [hbl];simp)
    have hv:=(ev_rel h x0).1
    rw [hx0] at hv
    obtain ⟨-,⟨A',c',g1,g2,-,-⟩,g5,g6⟩:=hv
    have hn5:=g5 x (by unfold contentB;rw [hs])
    have hsl:(x.cut 0 n).len=n:=cut_len x 0 n hn5
    obtain ⟨A,cp,q1,q2,q3⟩:=g6 T x hs rfl
    rw [h1] at q1
    cases q1
    rw [g1] at q2
    cases q2
    have q2:=g1
    have hor:OwnRel w (x.cut 0 n) (a.eval x0):=by
     refine .inr ⟨b,c',T,x.enc.toArray,(0,0),by rw [q2,hsl],h2,?_,?_,fun i _=>by simp,fun i hi=>?_⟩
     ·rw [hsl];exact g2
     ·simpa [Xs.len_enc] using q3
     ·rw [hsl] at hi
      rw [cut_enc,List.drop_zero,List.getElem?_take,if_pos hi]
      simp
    have hp:∀ b',(some b:Option Nat)=some b'→(base≤b'∨pb=some b')∧∀ s',isSl (e.getD s' .u)=true→b' ∉ blks (e.getD s' .u) (a.tmps.getD s' undef):=by
     intro b' hb'
     cases hb'
     refine ⟨hown.2,fun s' hs' hm=>?_⟩
     have hne:s ≠ s':=by rintro rfl;rw [hs] at hs';cases hs'
     exact h.dist s s' hne b (by rw [hbl];simp) hm
    obtain ⟨k1,k2⟩:=argCs_rel h (pb':=some b) hp has
    have hcall:=hΓ.2 _ _ _ _ hK w (a.eval x0) b _ hG (Nat.le_trans hng.1 h.low) hor (fun k hk=>by rw [g1] at hk;simpa [blkOf,baseOf] using hk) hown.1 (by rcases hown.2 with h' | h';omega;exact hng.2 _ h') k1 k2
    rw [← List.map_cons,← hca] at hcall
    refine wp_call ho hc hfv hcall ?_
    rintro v w' ⟨p,hp1,hk,hrel,hblk,hnd,hlent⟩
    have hkeep:Keep base pb w w':=⟨hk.os,hk.tape,hk.output,hk.size,fun k hk1 hk2=>hk.old k (by have:=h.low;omega) (by
      rintro heq;cases heq
      rcases hown.2 with h' | h'
      ·omega
      ·exact hk2 h')⟩
    split at hp1
    ·rename_i hp2
     have hw:=(h.killed s).weak s .u trivial (kill_none s e) rfl (by simp [blks]) (by simp [blks])
     have hout:∀ i k,k ∈ blks (((kill s e).set s .u).getD i .u) (a.tmps.getD i undef)→s ≠ i∧k ∈ blks (e.getD i .u) (a.tmps.getD i undef):=by
      intro i k hi
      rw [getD_set,length_kill] at hi
      by_cases hsi:s=i
      ·subst hsi;rw [if_pos rfl] at hi;split at hi<;>simp [blks] at hi
      ·rw [if_neg hsi,getD_kill] at hi
       unfold noSelf at hi
       split at hi
       ·simp [blks] at hi
       ·exact ⟨hsi,hi⟩
     have hnb:∀ i k,k ∈ blks (((kill s e).set s .u).getD i .u) (a.tmps.getD i undef)→k ≠ b:=by
      intro i k hi
      obtain ⟨r1,r2⟩:=hout i k hi
      rintro rfl
      exact h.dist s i r1 k (by rw [hbl];simp) r2
     have hsim:Sim P base pb w0 w' ((kill s e).set s .u) a.tmps:=
      hw.grow hkeep fun i k hi=>hk.old k (hw.own i k hi).1 (by rintro heq;cases heq;exact hnb i b hi rfl)
     refine hn _ _ _ hp1 ?_ (put_keeps _ _ _) ?_
     ·cases hd:o.dst with
      | none=>exact hsim
      | some d =>
       have hns:noSelf d (ofRes p.1)=ofRes p.1:=noSelf_no (ofRes_alias _ _)
       refine hsim.put d (ofRes p.1) v (Keep.refl _ _ _) (fun _ _ _ _=>rfl) (by rw [hns];exact hrel _ _ _ _) ?_ (by rw [hns];exact hnd)
       rw [hns]
       intro k hkm
       obtain ⟨r1,r2⟩:=hblk k hkm
       refine ⟨⟨r2,?_⟩,fun i _ hi=>?_⟩
       ·rcases r1 with ⟨rfl,-⟩ | r1
        ·exact hown.2
        ·exact .inl (Nat.le_trans h.low r1)
       ·rcases r1 with ⟨rfl,-⟩ | r1
        ·exact hnb i k hi rfl
        ·have:=(hw.own i k hi).1;omega
     ·intro hq
      unfold quietE at hq
      rw [ho] at hq
      simp only [hc,hca,List.map_cons,hx0,hs] at hq
      cases hq
    ·rename_i y hy
     split at hp1
     ·rename_i z hz
      rw [hy] at hlent
      obtain ⟨hyl,hheap⟩:=hlent
      have hheap:=hheap _ _ _ h2
      rw [hsl] at hyl hheap
      obtain ⟨z1,z2⟩:=Xs.splice_some hz (by omega) hn5
      have hzc:(y.enc++x.enc.toArray.toList.drop n)=z.enc:=by
       rw [z1,List.take_zero,List.nil_append,Nat.zero_add,List.take_of_length_le (by rw [Xs.len_enc];omega)]
      rw [hzc] at hheap
      have hsim:Sim P base pb w0 w' (e.set s (.box T z)) a.tmps:=by
       refine h.turn s (.box T z) hkeep (fun k hk1 hk2=>hk.old k hk1 (by rintro heq;cases heq;exact hk2 (by rw [hbl];simp))) ⟨b,h1,hheap,by rw [z2];exact h3⟩ (by rw [hbl,h1];rfl) ?_ ?_ (by rw [hs];rfl) rfl ?_ ?_ (by intro T2 y2 e2;cases e2;exact ⟨T,x,hs,z2.symm⟩)
       ·rw [hs];intro h';cases h'
       ·rw [hs];intro h';cases h'
       ·intro x0' x' hx hx'
        unfold contentB at hx;rw [hs] at hx;cases hx
        simp only [contentB,List.getD_cons_zero,Option.some.injEq] at hx'
        rw [← hx'];exact z2
       ·intro x' _;exact ⟨x,by unfold contentB;rw [hs]⟩
      refine hn _ _ _ hp1 ?_ (put_keeps _ _ _) ?_
      ·cases hd:o.dst with
       | none=>exact hsim
       | some d =>
        have hns:noSelf d (ofRes p.1)=ofRes p.1:=noSelf_no (ofRes_alias _ _)
        refine hsim.put d (ofRes p.1) v (Keep.refl _ _ _) (fun _ _ _ _=>rfl) (by rw [hns];exact hrel _ _ _ _) ?_ (by rw [hns];exact hnd)
        rw [hns]
        intro k hkm
        obtain ⟨r1,r2⟩:=hblk k hkm
        rcases r1 with ⟨-,r1⟩ | r1
        ·rw [hy] at r1;cases r1
        refine ⟨⟨r2,.inl (Nat.le_trans h.low r1)⟩,fun i _ hi=>?_⟩
        have hi':k ∈ blks (e.getD i .u) (a.tmps.getD i undef):=by
         rw [getD_set] at hi
         by_cases hsi:s=i
         ·subst hsi;rw [if_pos rfl] at hi
          split at hi
          ·rw [h1] at hi;rw [hbl];exact hi
          ·simp [blks] at hi
         ·rw [if_neg hsi] at hi;exact hi
        have:=(h.own i k hi').1;omega
      ·intro hq
       unfold quietE at hq
       rw [ho] at hq
       simp only [hc,hca,List.map_cons,hx0,hs] at hq
       cases hq
     ·cases hp1
  ·cases hK
 ·cases hK
theorem op_call {Γ:Gam} {g:Nat} (hΓ:FnOk P G ng Γ g) (hG:G w) (hng:ng≤base∧∀ b,pb=some b→ng≤b) (h:Sim P base pb w0 w e a.tmps) (hn:Nx P base pb w0 w e a o K r next) {c:Call} (ho:o.op=.call c) {f:Operand} (hc:c.callee=.value f) (hf:ev e f=.c (.s (.fn g)))
  (hK:callK Γ e o.dst g (c.args.toList.map (ev e)) K=some r):o.wp P a w next Q:=by
 have hfv:a.eval f=.func (.func g) #[] #[]:=ev_s h hf
 unfold callK at hK
 split at hK
 ·rename_i s l hl
  split at hK
  ·rename_i T x as hs has
   cases hca:c.args.toList with
   | nil=>rw [hca] at hl;cases hl
   | cons x0 xs =>
    rw [hca] at hl
    simp only [List.map_cons,List.cons.injEq] at hl
    obtain ⟨hx0,rfl⟩:=hl
    have hr:=h.rel s
    rw [hs] at hr
    obtain ⟨b,h1,h2,h3⟩:=hr
    have hbl:blks (e.getD s .u) (a.tmps.getD s undef)=[b]:=by rw [hs,h1];rfl
    have hown:=h.own s b (by rw [hbl];simp)
    have hv0:a.eval x0=.pointer (some ⟨b,0,none⟩):=via_at h hx0 (by rw [h1];rfl)
    have hp:∀ b',(some b:Option Nat)=some b'→(base≤b'∨pb=some b')∧∀ s',isSl (e.getD s' .u)=true→b' ∉ blks (e.getD s' .u) (a.tmps.getD s' undef):=by
     intro b' hb'
     cases hb'
     refine ⟨hown.2,fun s' hs' hm=>?_⟩
     have hne:s ≠ s':=by rintro rfl;rw [hs] at hs';cases hs'
     exact h.dist s s' hne b (by rw [hbl];simp) hm
    obtain ⟨k1,k2⟩:=argCs_rel h (pb':=some b) hp has
    have hcall:=hΓ.1 _ _ _ _ hK w [.pointer (some ⟨b,0,none⟩)] (some b) _ hG (Nat.le_trans hng.1 h.low) ⟨b,rfl,rfl,h2,h3,by rcases hown.2 with h' | h';omega;exact hng.2 _ h'⟩ k1 k2
    rw [List.singleton_append,← hv0,← List.map_cons,← hca] at hcall
    refine wp_call ho hc hfv hcall ?_
    rintro v w' ⟨p,hp1,hk,hrel,hblk,hnd,hback⟩
    split at hp1
    ·rename_i y hy
     rw [hy] at hback
     obtain ⟨hyl,b',hb',hheap⟩:=hback
     cases hb'
     have hkeep:Keep base pb w w':=⟨hk.os,hk.tape,hk.output,hk.size,fun k hk1 hk2=>hk.old k (by have:=h.low;omega) (by
      rintro heq;cases heq
      rcases hown.2 with h' | h'
      ·omega
      ·exact hk2 h')⟩
     have hsim:Sim P base pb w0 w' (e.set s (.box T y)) a.tmps:=by
      refine h.turn s (.box T y) hkeep (fun k hk1 hk2=>hk.old k hk1 (by rintro heq;cases heq;exact hk2 (by rw [hbl];simp))) ⟨b,h1,hheap,by rw [hyl];exact h3⟩ (by rw [hbl,h1];rfl) ?_ ?_ (by rw [hs];rfl) rfl ?_ ?_ (by intro T2 y2 h2;cases h2;exact ⟨T,x,hs,hyl.symm⟩)
      ·rw [hs];intro h';cases h'
      ·rw [hs];intro h';cases h'
      ·intro x0' x' hx hx'
       unfold contentB at hx;rw [hs] at hx;cases hx
       simp only [contentB,List.getD_cons_zero,Option.some.injEq] at hx'
       rw [← hx'];exact hyl
      ·intro x' _;exact ⟨x,by unfold contentB;rw [hs]⟩
     refine hn _ _ _ hp1 ?_ (put_keeps _ _ _) ?_
     ·cases hd:o.dst with
      | none=>exact hsim
      | some d =>
       have hns:noSelf d (ofRes p.1)=ofRes p.1:=noSelf_no (ofRes_alias _ _)
       refine hsim.put d (ofRes p.1) v (Keep.refl _ _ _) (fun _ _ _ _=>rfl) (by rw [hns];exact hrel _ _ _ _) ?_ (by rw [hns];exact hnd)
       rw [hns]
       intro k hkm
       obtain ⟨q1,q2⟩:=hblk k hkm
       refine ⟨⟨q2,.inl (Nat.le_trans h.low q1)⟩,fun i _ hi=>?_⟩
       have hi':k ∈ blks (e.getD i .u) (a.tmps.getD i undef):=by
        rw [getD_set] at hi
        by_cases hsi:s=i
        ·subst hsi;rw [if_pos rfl] at hi
         split at hi
         ·rw [h1] at hi;rw [hbl];exact hi
         ·simp [blks] at hi
        ·rw [if_neg hsi] at hi;exact hi
       have:=(h.own i k hi').1;omega
     ·intro hq
      unfold quietE at hq
      rw [ho] at hq
      simp only [hc,hca,List.map_cons,hx0] at hq
      cases hq
    ·cases hp1
  ·cases hK
 ·rename_i s lo n l hl
  split at hK
  ·rename_i T x hs
   exact op_callO hΓ hG hng h hn ho hc hf hl hs hK
  ·exact op_callP hΓ hG hng h hn ho hc hf hK
 ·exact op_callP hΓ hG hng h hn ho hc hf hK
end Go.Proofs.YtffmgholjdfcnaaGreatDoor.AM
set_option linter.unusedSimpArgs false
set_option maxHeartbeats 1000000
namespace Go.Proofs.YtffmgholjdfcnaaGreatDoor.AM
open Go
variable {P:Program} {G:World→Prop} {ng:Nat} {base:Nat} {pb:Option Nat} {w0 w w':World} {e:Env} {a:Act}
variable {K:Env→Option Out} {r:Out} {next:Act→World→Prop} {Q:Exit→Act→World→Prop} {o:Oper}
def Told (P:Program) (base:Nat) (pb:Option Nat) (w0 w:World) (e:Env) (a:Act) (o:Oper) (K:Env→Option Out) (r:Out):Prop:=
 Pure1 P base pb w e a K r o∨(simpleE P e o=false∧∀ (next:Act→World→Prop) (Q:Exit→Act→World→Prop),Nx P base pb w0 w e a o K r next→o.wp P a w next Q)
theorem Told.wp (ht:Told P base pb w0 w e a o K r) (h:Sim P base pb w0 w e a.tmps) (hn:Nx P base pb w0 w e a o K r next):o.wp P a w next Q:=by
 rcases ht with ht | ⟨-,ht⟩
 ·exact ht.wp h hn
 ·exact ht next Q hn
theorem told_load (h:Sim P base pb w0 w e a.tmps) {t:TypeId} {x:Operand} (ho:o.op=.load t x) {s off T:Nat} (hx:ev e x=.via s off) {y:Xs} (hy:e.getD s .u=.box T y) (hc1:cell1 P t=false) (hc:isAggB P t=some true) {c:C} (hp:partC P t y off=some c) (hK:K (putO e o.dst (.c c))=some r):Pure1 P base pb w e a K r o:=by
 unfold partC at hp
 rw [hc1,hc] at hp
 dsimp only at hp
 split at hp
 ·rename_i hb
  cases hp
  refine op_loadA h ho hx hy hc (c:=.ss ((y.toS.drop off).take (P.cellsOf t))) ?_ ?_ hK
  ·have:=Nat.le_of_ble_eq_true hb;rwa [Xs.len_toS] at this
  ·simp [Xs.enc,Xs.toS,List.map_take,List.map_drop]
 ·cases hp
theorem store_told {Γ:Gam} {nn:Nat} (h:Sim P base pb w0 w e a.tmps) {t:TypeId} {x v:Operand} (hop:o.op=.store t x v) (hK:opK P Γ nn e o K=some r) {next:Act→World→Prop} {Q:Exit→Act→World→Prop} (hn:NxS P base pb w0 w a o K r next x):o.wp P a w next Q:=by
 unfold opK at hK
 rw [hop] at hK
 dsimp only at hK
 split at hK
 ·rename_i s off c hd hx hv
  split at hK
  ·rename_i T y c hs hc
   split at hK
   ·rename_i z hz
    cases hdd:decide (off<y.len)
    ·rw [hdd] at hK;cases hK
    ·rw [hdd] at hK;exact op_storeB h hn hop hd hx hs hv hc hz (by simpa using hdd) hK
   ·cases hK
  ·rename_i y c hs hc
   split at hK
   ·rename_i z hz
    cases hdd:decide (off<y.len)
    ·rw [hdd] at hK;cases hK
    ·rw [hdd] at hK;exact op_storeO h hn hop hd hx hs hv hc hz (by simpa using hdd) hK
   ·cases hK
  ·rename_i T y c hs hc
   split at hK
   ·rename_i hag hl
    have hl:c.len=P.cellsOf t:=by rw [← Xs.len_toS];simpa using hl
    have hr:=h.rel s
    rw [hs] at hr
    obtain ⟨b,-,-,h3⟩:=hr
    split at hK
    ·rename_i hT
     have hT:T=t:=by simpa using hT
     subst hT
     refine op_storeA h hn hop hd hx hs hv hag hl (by omega) ?_ hK
     rw [lay_seg _ _ _ (by simp [Xs.len_enc];omega)]
     have e1:0+c.enc.length=y.enc.length:=by rw [Xs.len_enc,Xs.len_enc];omega
     rw [e1];simp
    ·split at hK
     ·rename_i z hb hz
      have hb:=Nat.le_of_ble_eq_true hb
      rw [Xs.len_toS,Xs.len_toS] at hb
      exact op_storeA h hn hop hd hx hs hv hag hl hb (by rw [(Xs.lay_some hz).1];rfl) hK
     ·cases hK
   ·cases hK
  ·cases hK
 ·cases hK
theorem opK_told {Γ:Gam} {nn:Nat} (hΓ:∀ g,FnOk P G ng Γ g) (hG:G w) (hng:ng≤base∧∀ b,pb=some b→ng≤b) (h:Sim P base pb w0 w e a.tmps) (hK:opK P Γ nn e o K=some r):Told P base pb w0 w e a o K r:=by
 unfold opK at hK
 cases hop:o.op with
 | move x =>
  rw [hop] at hK
  dsimp only at hK
  cases x with
  | tmp t =>
   dsimp only at hK
   split at hK
   ·rename_i l ht hd
    split at hK
    ·rename_i hl;exact .inl (op_moveT0 h hop ht hl hK)
    ·rename_i hl;refine .inr ⟨by simp only [simpleE,hop,ht,hl],fun next Q hn=>op_moveT h hn hop ht (by simpa using hd) hK⟩
   ·exact .inl (op_move h hop hK)
  | _=>exact .inl (op_move h hop hK)
 | assign x =>
  rw [hop] at hK
  dsimp only at hK
  split at hK
  ·rename_i d hd
   by_cases hs:simpleE P e o=false
   ·exact .inr ⟨hs,fun next Q hn=>op_assign h hn hop hd hK⟩
   ·simp only [simpleE,hop] at hs
    split at hs
    ·rename_i c hc
     rw [hc] at hK
     have hrel:=ev_rel h x
     rw [hc] at hrel
     exact .inl (pureA (x:=.c c) (v:=a.eval x) (by rw [hd];exact hK) (fun _ _=>by simp only [execOp,hop];rfl) hrel.1 hrel.2)
    ·exact absurd rfl hs
  ·cases hK
 | pick c x y =>
  rw [hop] at hK
  dsimp only at hK
  split at hK
  ·rename_i t hc;exact .inl (op_pick h hop hc hK)
  ·cases hK
 | binOp op t x y t' =>
  rw [hop] at hK
  dsimp only at hK
  split at hK
  ·rename_i p q hx hy
   split at hK
   ·rename_i ht;exact .inl (op_bool h hop hx hy ht (.inl rfl) hK)
   ·rename_i ht;exact .inl (op_bool h hop hx hy ht (.inr rfl) hK)
   ·cases hK
  ·rename_i p q _ hx hy;exact .inl (op_bin h hop hx hy hK)
  ·rename_i p q hx hy
   split at hK
   ·rename_i b hb;exact .inl (op_binAgg h hop hx hy hb (.inl rfl) hK)
   ·rename_i b hb;exact .inl (op_binAgg h hop hx hy hb (.inr rfl) hK)
   ·cases hK
  ·cases hK
 | unOp op t x =>
  rw [hop] at hK
  dsimp only at hK
  split at hK
  ·rename_i p hx
   split at hK
   ·rename_i q hq;exact .inl (op_un h hop hx hq hK)
   ·cases hK
  ·cases hK
 | convert s d x =>
  rw [hop] at hK
  dsimp only at hK
  split at hK
  ·rename_i ds k k' n hs hd hx;exact .inl (op_convI h hop hs hd hx hK)
  ·rename_i ds k' n hs hd hx;exact .inl (op_convR h hop hs hd hx hK)
  ·rename_i ds l hs hd hx;exact .inl (op_convS h hop hs hd hx hK)
  ·rename_i ds t l hs hd hx
   split at hK
   ·rename_i ht
    exact .inr ⟨by simp only [simpleE,hop,hd],fun next Q hn=>op_convO h hn hop hs hd ht hx hK⟩
   ·cases hK
  ·rename_i t _ _ hs hd _ _
   split at hK
   ·rename_i s' ht hx
    split at hK
    ·rename_i y hy
     split at hK
     ·rename_i l hl
      refine .inl (op_convB h hop hs hd ht (lo:=0) (n:=y.len) (.inl ⟨hx,hy,rfl,rfl⟩) (contentB_of hy) ?_ hK)
      have:y.cut 0 y.len=y:=by cases y<;>simp [Xs.cut,Xs.len]
      rw [this];exact hl
     ·cases hK
    ·cases hK
   ·rename_i s' lo n ht hx
    split at hK
    ·rename_i y hy
     split at hK
     ·rename_i l hl;exact .inl (op_convB h hop hs hd ht (.inr hx) hy hl hK)
     ·cases hK
    ·cases hK
   ·rename_i ht hx;exact .inl (op_convN h hop hs hd ht hx hK)
   ·cases hK
  ·cases hK
 | index t x i =>
  rw [hop] at hK
  dsimp only at hK
  split at hK
  ·rename_i l k n ht hx hi;exact .inl (op_indexS h hop ht hx hi hK)
  ·rename_i m el l k n ht hx hi
   split at hK
   ·rename_i hc;exact .inl (op_indexA h hop ht hx hi hc hK)
   ·cases hK
  ·cases hK
 | slice t x lo hi mx =>
  rw [hop] at hK
  cases mx with
  | some m=>cases hK
  | none =>
   dsimp only at hK
   split at hK
   ·rename_i i j h1 h2
    split at hK
    ·rename_i l ht hx;exact .inl (op_sliceS h hop ht hx h1 h2 hK)
    ·rename_i el s ht hx
     split at hK
     ·rename_i y hc hy;exact .inl (op_sliceAll h hop ht hc hx hy h1 h2 hK)
     ·cases hK
    ·rename_i el s lo0 n ht hx
     split at hK
     ·rename_i hc;exact .inl (op_sliceAli h hop ht hc hx h1 h2 hK)
     ·cases hK
    ·rename_i el ht hx
     split at hK
     ·rename_i hc;exact .inl (op_sliceNil h hop ht ⟨1,fun w=>run_sizeOf1 hc w⟩ hx h1 h2 hK)
     ·cases hK
    ·rename_i m el s off ht hx
     split at hK
     ·rename_i T y hc hy
      cases hd:decide (off+m≤y.len)
      ·rw [hd] at hK;cases hK
      ·rw [hd] at hK
       exact .inl (op_sliceArr h hop ht hc hx hy (by simpa using hd) h1 h2 hK)
     ·cases hK
    ·cases hK
   ·cases hK
 | field t x f =>
  rw [hop] at hK
  dsimp only at hK
  split at hK
  ·rename_i y off ft hx hf
   split at hK
   ·rename_i c hc;exact .inl (op_field h hop hx hf hc hK)
   ·cases hK
  ·cases hK
 | build t parts =>
  rw [hop] at hK
  dsimp only at hK
  split at hK
  ·rename_i fs z ht hz
   split at hK
   ·rename_i places hp
    split at hK
    ·rename_i x hx;exact .inl (op_buildS h hop ht hz hp hx hK)
    ·cases hK
   ·cases hK
  ·rename_i m el z ht hz
   split at hK
   ·rename_i ie hie
    split at hK
    ·rename_i x hx;exact .inl (op_buildA h hop ht hz hie hx hK)
    ·cases hK
   ·cases hK
  ·cases hK
 | buildSlice t n parts =>
  rw [hop] at hK
  dsimp only at hK
  split at hK
  ·rename_i el z hz hnn
   split at hK
   ·rename_i x hx
    exact .inr ⟨by simp only [simpleE,hop],fun next Q hn=>op_buildSlice h hn hop hz (Nat.le_of_ble_eq_true hnn) hx hK⟩
   ·cases hK
  ·cases hK
 | alloc t =>
  rw [hop] at hK
  dsimp only at hK
  split at hK
  ·rename_i x hx;exact .inr ⟨by simp only [simpleE,hop],fun next Q hn=>op_alloc h hn hop hx hK⟩
  ·cases hK
 | box t x =>
  rw [hop] at hK
  dsimp only at hK
  split at hK
  ·rename_i y hx
   split at hK
   ·rename_i hl
    refine .inr ⟨by simp only [simpleE,hop],fun next Q hn=>op_box h hn hop (.inl hx) ?_ hK⟩
    rw [← Xs.len_toS];exact (by simpa using hl:_=_).symm
   ·cases hK
  ·rename_i s hx
   split at hK
   ·rename_i hl
    exact .inr ⟨by simp only [simpleE,hop],fun next Q hn=>op_box h hn hop (.inr ⟨s,rfl,hx⟩) hl hK⟩
   ·cases hK
  ·cases hK
 | load t x =>
  rw [hop] at hK
  dsimp only at hK
  split at hK
  ·rename_i s off hx
   split at hK
   ·rename_i T y hs hc;exact .inl (op_load1 h hop hx (by unfold contentB;rw [hs]) hc hK)
   ·rename_i y hs hc;exact .inl (op_load1 h hop hx (by unfold contentB;rw [hs]) hc hK)
   ·rename_i y hs hc;exact .inl (op_load1 h hop hx (by unfold contentB;rw [hs]) hc hK)
   ·rename_i T y hs hc1 hc
    split at hK
    ·rename_i hT
     have hT:T=t:=by simpa using hT
     subst hT
     have hr:=h.rel s
     rw [hs] at hr
     obtain ⟨b,-,-,h3⟩:=hr
     refine .inl (op_loadA h hop hx hs hc (c:=y) (by omega) ?_ hK)
     rw [List.drop_zero,h3,← Xs.len_enc,List.take_length]
    ·split at hK
     ·rename_i c hp;exact .inl (told_load h hop hx hs hc1 hc hp hK)
     ·cases hK
   ·cases hK
  ·cases hK
 | store t x v =>
  exact .inr ⟨by simp only [simpleE,hop],fun next Q hn=>store_told h hop (by unfold opK;exact hK) fun e' a' b off row _ hK' hS hp=>hn e' a' _ hK' hS hp fun hq=>by simp [quietE,hop] at hq⟩
 | nilCheck x =>
  rw [hop] at hK
  dsimp only at hK
  split at hK
  ·rename_i s off hx;exact .inl (op_nilCheck h hop hx hK)
  ·cases hK
 | fieldAddr t x f =>
  rw [hop] at hK
  dsimp only at hK
  split at hK
  ·rename_i s off fo ft hx hf;exact .inl (op_fieldAddr h hop hx hf hK)
  ·cases hK
 | indexAddr t x i =>
  rw [hop] at hK
  dsimp only at hK
  split at hK
  ·rename_i m el s off k n ht hx hi
   split at hK
   ·rename_i hc;exact .inl (op_indexAddrA h hop ht hc hx hi hK)
   ·cases hK
  ·rename_i el s k n ht hx hi
   split at hK
   ·rename_i y hc hy;exact .inl (op_indexAddrS h hop ht hc (lo:=0) (.inl ⟨hx,rfl,y,hy,rfl⟩) hi (by rw [Nat.zero_add];exact hK))
   ·cases hK
  ·rename_i el s lo m k n ht hx hi
   split at hK
   ·rename_i hc;exact .inl (op_indexAddrS h hop ht hc (.inr hx) hi hK)
   ·cases hK
  ·cases hK
 | range t x =>
  rw [hop] at hK
  dsimp only at hK
  split at hK
  ·rename_i l ht hx;exact .inr ⟨by simp only [simpleE,hop],fun next Q hn=>op_range h hn hop ht hx hK⟩
  ·cases hK
 | next x s =>
  rw [hop] at hK
  cases s with
  | false=>cases hK
  | true =>
   dsimp only at hK
   refine .inr ⟨by simp only [simpleE,hop],fun next Q hn=>?_⟩
   split at hK
   ·rename_i s hx
    split at hK
    ·rename_i l pos hs
     cases hd:decide (pos<l.length)
     ·rw [hd] at hK;exact (op_nextEnd h ⟨hop,rfl⟩ hx hs (by simpa using hd) hK).wp h hn
     ·rw [hd] at hK;exact op_nextMore h hn ⟨hop,rfl⟩ hx hs (by simpa using hd) hK
    ·cases hK
   ·cases hK
 | extract x i =>
  rw [hop] at hK
  cases x with
  | tmp t =>
   dsimp only at hK
   split at hK
   ·rename_i l ht
    split at hK
    ·rename_i y hc hd
     exact .inr ⟨by simp only [simpleE,hop,ht,hc],fun next Q hn=>op_extractO h hn hop ht hc (by simpa using hd) hK⟩
    ·rename_i s hc;exact .inl (op_extract0 h hop ht hc rfl hK)
    ·rename_i y hc;exact .inl (op_extract0 h hop ht hc rfl hK)
    ·cases hK
   ·cases hK
  | _=>cases hK
 | makeSlice t l c =>
  rw [hop] at hK
  dsimp only at hK
  split at hK
  ·rename_i el z k n k' m hz hl hc
   exact .inr ⟨by simp only [simpleE,hop],fun next Q hn=>op_makeSlice h hn hop hz hl hc hK⟩
  ·cases hK
 | call c =>
  rw [hop] at hK
  dsimp only at hK
  split at hK
  ·rename_i f hc
   split at hK
   ·rename_i g hf
    exact .inr ⟨by simp only [simpleE,hop,hc],fun next Q hn=>op_call (hΓ g) hG hng h hn hop hc hf hK⟩
   ·cases hK
  ·rename_i hc
   split at hK
   ·rename_i x t hx ht
    split at hK
    ·rename_i hty
     unfold lenTy at hty
     refine .inl (op_len h hop hc hx ht hK ?_ ?_)
     ·intro l hl
      split at hty
      ·assumption
      ·cases hty
      ·rename_i hne;exact absurd hl (hne l)
      ·cases hty
     ·intro hne
      split at hty
      ·rename_i l _ hl;exact absurd hl (hne l)
      ·cases hty
      ·exact ⟨_,by assumption⟩
      ·cases hty
    ·cases hK
   ·cases hK
  ·rename_i hc
   split at hK
   ·rename_i x y t u hxy ht
    split at hK
    ·rename_i q y0 hz hu hy
     refine .inr ⟨by simp only [simpleE,hop,hc],fun next Q hn=>?_⟩
     obtain ⟨el,zz⟩:=q
     have hv:=(ev_rel h x).1
     unfold appendK at hK
     split at hK
     ·rename_i s hx
      rw [hx] at hv
      split at hK
      ·rename_i x0 hs
       split at hK
       ·rename_i z hzz
        cases hdd:decide (z.len≤1099511627776)
        ·rw [hdd] at hK;cases hK
        ·rw [hdd] at hK
         have hr:=h.rel s
         rw [hs] at hr
         have hw:=(h.killed s).weak s .u trivial (kill_none s e) rfl (by simp [blks]) (by simp [blks])
         refine op_appendG h hn hw hop hc hxy ht hz hu (by rw [hv.2];exact hr) ?_ hy hzz (by simpa using hdd) hK
         intro b hb
         have hb':b ∈ blks (e.getD s .u) (a.tmps.getD s undef):=by rw [hs,← hv.2];exact hb
         refine ⟨h.own s b hb',fun i hi=>?_⟩
         rw [getD_set,length_kill] at hi
         by_cases hsi:s=i
         ·subst hsi;rw [if_pos rfl] at hi;split at hi<;>simp [blks] at hi
         ·rw [if_neg hsi,getD_kill] at hi
          unfold noSelf at hi
          split at hi
          ·simp [blks] at hi
          ·exact h.dist s i hsi b hb' hi
       ·cases hK
      ·cases hK
     ·rename_i s lo n hx
      rw [hx] at hv
      obtain ⟨h1,⟨A,cp,h2,h3,h4,h5⟩,h6⟩:=hv
      split at hK
      ·rename_i x0 hs
       split at hK
       ·rename_i z hzz
        cases hdd:decide (z.len≤1099511627776)
        ·rw [hdd] at hK;cases hK
        ·rw [hdd] at hK
         have hr:=h.rel s
         rw [hs] at hr
         have hl:=h6.1 x0 (by unfold contentB;rw [hs])
         have hw:=(h.killed s).weak s .u trivial (kill_none s e) rfl (by simp [blks]) (by simp [blks])
         refine op_appendG h hn hw hop hc hxy ht hz hu (by rw [h2];exact cut_own hr (by omega) h3 (h5 rfl)) ?_ hy hzz (by simpa using hdd) hK
         intro b hb
         have hb':b ∈ blks (e.getD s .u) (a.tmps.getD s undef):=by
          rw [hs]
          rw [h2] at hb
          rcases hr with ⟨q1,q2⟩ | ⟨b',cap,T,Cs,fr,q1,-⟩
          ·obtain ⟨rfl,-⟩:=h5 rfl _ _ _ q1
           simp [blkOf,baseOf] at hb
          ·obtain ⟨rfl,-⟩:=h5 rfl _ _ _ q1
           rw [q1];exact hb
         refine ⟨h.own s b hb',fun i hi=>?_⟩
         rw [getD_set,length_kill] at hi
         by_cases hsi:s=i
         ·subst hsi;rw [if_pos rfl] at hi;split at hi<;>simp [blks] at hi
         ·rw [if_neg hsi,getD_kill] at hi
          unfold noSelf at hi
          split at hi
          ·simp [blks] at hi
          ·exact h.dist s i hsi b hb' hi
       ·cases hK
      ·cases hK
     ·rename_i hx
      rw [hx] at hv
      cases hdd:decide (y0.len≤1099511627776)
      ·rw [hdd] at hK;cases hK
      ·rw [hdd] at hK
       have hv':a.eval x=.slice none 0 0:=hv
       refine op_appendG h hn h hop hc hxy ht hz hu (x0:=.ss []) (z:=y0) (.inl ⟨hv',rfl⟩) ?_ hy ?_ (by simpa using hdd) hK
       ·intro b hb;rw [hv'] at hb;simp [blkOf,baseOf] at hb
       ·unfold Xs.app;cases y0<;>rfl
     ·cases hK
    ·cases hK
   ·cases hK
  ·rename_i hc
   split at hK
   ·rename_i x y t u hxy ht
    split at hK
    ·rename_i q y0 s hz hy hx
     split at hK
     ·rename_i x0 hx0
      obtain ⟨el,zz⟩:=q
      have hv:=(ev_rel h x).1
      rw [hx] at hv
      obtain ⟨A,cap,h3,h4,h5⟩:=owner_slice h hx0
      refine .inr ⟨by simp only [simpleE,hop,hc],fun next Q hn=>op_copyG h hn hop hc hxy ht hz hy (s:=s) (hv.2.trans h3) ?_ ?_ hK⟩
      ·intro hl
       obtain ⟨b,rfl⟩:=h5 hl
       exact ⟨b,by rw [h3];rfl,by simp [Addr.add]⟩
      ·intro x' hx'
       rw [contentB_of hx0] at hx';cases hx';omega
     ·cases hK
    ·rename_i q y0 s lo n hz hy hx
     obtain ⟨el,zz⟩:=q
     have hv:=(ev_rel h x).1
     rw [hx] at hv
     obtain ⟨h1,⟨A,cp,h2,h3,h4,h5⟩,h6⟩:=hv
     exact .inr ⟨by simp only [simpleE,hop,hc],fun next Q hn=>op_copyG h hn hop hc hxy ht hz hy (s:=s) h2 h4 h6.1 hK⟩
    ·cases hK
   ·cases hK
  ·cases hK
 | _=>rw [hop] at hK;cases hK
end Go.Proofs.YtffmgholjdfcnaaGreatDoor.AM
set_option linter.unusedSimpArgs false
namespace Go.Proofs.YtffmgholjdfcnaaGreatDoor.AM
open Go
structure Ctx (P:Program) (G:World→Prop) (ng base:Nat) (pb:Option Nat) (w0:World) (Γ:Gam):Prop where
 fn:∀ g,FnOk P G ng Γ g
 good:∀ w',Keep base pb w0 w'→G w'
 low:ng≤base∧∀ b,pb=some b→ng≤b
 mixed:P.follows .mixedOrders=true
def Pin (z:Bool) (a a':Act):Prop:=a'.defers=a.defers∧(z=true→a'.tmps.getD 0 undef=a.tmps.getD 0 undef)
theorem Pin.refl (z:Bool) (a:Act):Pin z a a:=⟨rfl,fun _=>rfl⟩
theorem Pin.trans {z:Bool} {a b c:Act} (h:Pin z a b) (k:Pin z b c):Pin z a c:=⟨k.1.trans h.1,fun hz=>(k.2 hz).trans (h.2 hz)⟩
variable {P:Program} {G:World→Prop} {ng:Nat} {base:Nat} {pb:Option Nat} {w0 w w':World} {e:Env} {a:Act} {Γ:Gam} {nn:Nat}
variable {K:Env→Option Out} {r:Out} {next:Act→World→Prop} {Q:Exit→Act→World→Prop} {o:Oper}
theorem set_self {d:Nat} {v:V} (h:e.getD d .u=v):e.set d v=e:=by
 by_cases hd:d<e.length
 ·apply List.ext_getElem?
  intro i
  rw [List.getElem?_set]
  by_cases hi:d=i
  ·subst hi
   rw [if_pos rfl,if_pos hd,← h,List.getD_eq_getElem?_getD,List.getElem?_eq_getElem hd];rfl
  ·rw [if_neg hi]
 ·exact List.set_eq_of_length_le (by omega)
theorem stepK_cases (h:Sim P base pb w0 w e a.tmps) {ops:Array Oper} (hK:stepK P Γ nn ops.toList o e K=some r) :
  (Region.wanted o (yielded ops a.tmps)=true∧opK P Γ nn e o K=some r)∨(Region.wanted o (yielded ops a.tmps)=false∧K (putO e o.dst (.tup []))=some r):=by
 unfold stepK at hK
 split at hK
 ·rename_i hg
  exact .inl ⟨by simp [Region.wanted,hg],hK⟩
 ·rename_i j want hg
  split at hK
  ·cases hK
  ·rename_i d hd
   split at hK
   ·rename_i t ht
    have hr:=h.rel d
    rw [ht] at hr
    have hr':a.tmps.getD d undef=.bool t:=hr
    have htm:a.tmps[d]?=some (.bool t):=by
     rw [Array.getD_eq_getD_getElem?] at hr'
     cases hq:a.tmps[d]? with
     | none=>rw [hq] at hr';simp [undef] at hr'
     | some v=>rw [hq] at hr';exact congrArg some hr'
    have hy:yielded ops a.tmps j=some t:=by
     unfold yielded
     rw [Array.getElem?_toList] at hd
     rw [hd]
     simp [htm]
    have hw:Region.wanted o (yielded ops a.tmps)=(t==want):=by
     simp only [Region.wanted,hg,hy];cases t<;>cases want<;>rfl
    rw [hw]
    cases t with
    | true =>
     rw [set_self ht] at hK
     cases want with
     | true=>exact .inl ⟨rfl,hK⟩
     | false=>exact .inr ⟨rfl,hK⟩
    | false =>
     rw [set_self ht] at hK
     cases want with
     | true=>exact .inr ⟨rfl,hK⟩
     | false=>exact .inl ⟨rfl,hK⟩
   ·rename_i ht
    have hr:=h.rel d
    rw [ht] at hr
    obtain ⟨vs,hr1,hr2⟩:=hr
    cases hr2
    refine .inr ⟨?_,hK⟩
    rw [Array.getElem?_toList] at hd
    have hy:yielded ops a.tmps j=none:=by
     unfold yielded
     rw [hd]
     rw [Array.getD_eq_getD_getElem?] at hr1
     cases hq:a.tmps[d]? with
     | none=>simp [hq]
     | some v=>rw [hq] at hr1;have hv:v=.tuple [].toArray:=hr1;subst hv;simp [hq]
    simp only [Region.wanted,hg,hy]
    rfl
   ·cases hK
theorem Sim.skip (h:Sim P base pb w0 w e a.tmps) (d:Option Nat):Sim P base pb w0 w (putO e d (.tup [])) (a.put d undef).tmps:=h.putO0 a rfl d (.tup []) undef ⟨[],rfl,.nil⟩ rfl
theorem forceV_eq (v:V) (K:V→Option Out):forceV v K=K v:=by cases v<;>rfl
theorem forceE_eq:∀ (e:Env) (K:Env→Option Out),forceE e K=K e
 | [],_=>rfl
 | v :: e,K=>by simp only [forceE,forceV_eq,forceE_eq e]
theorem opsK_wp (C:Ctx P G ng base pb w0 Γ) {z:Bool} {ops:Array Oper} (hz:z=true→∀ o ∈ ops.toList,o.dst ≠ some 0):∀ (os:List Oper) (i:Nat) (e:Env) (a:Act) (w:World),ops.toList.drop i=os→opsK P Γ nn ops.toList os e K=some r→Sim P base pb w0 w e a.tmps →
  (∀ e' a' w',K e'=some r→Sim P base pb w0 w' e' a'.tmps→Pin z a a'→Q .normal a' w')→wpOps P ops Q (List.range' i os.length) a w
 | [],i,e,a,w,_,hK,h,hQ=>hQ e a w hK h (Pin.refl _ _)
 | o :: os,i,e,a,w,ho,hK,h,hQ=>by
  have hi:ops[i]?=some o:=by
   have:=congrArg (·[0]?) ho
   simpa [List.getElem?_drop] using this
  have hos:ops.toList.drop (i+1)=os:=by
   rw [← List.drop_drop,ho];rfl
  have hmem:o ∈ ops.toList:=List.mem_of_getElem? (i:=i) (by rw [Array.getElem?_toList];exact hi)
  simp only [List.length_cons,List.range'_succ,wpOps,hi]
  rcases stepK_cases h hK with ⟨hw,hK⟩ | ⟨hw,hK⟩
  ·rw [if_pos hw]
   refine .inl ((opK_told C.fn (C.good w h.keep) C.low h hK).wp h fun e' a' w' hK' h' hpin _=>?_)
   have hp:Pin z a a':=⟨hpin.1,fun hz1=>hpin.2 0 (hz hz1 o hmem)⟩
   replace hK':=(forceE_eq _ _).symm.trans hK'
   exact opsK_wp C hz os (i+1) e' a' w' hos hK' h' fun e2 a2 w2 k1 k2 k3=>hQ e2 a2 w2 k1 k2 (hp.trans k3)
  ·rw [if_neg (by rw [hw];simp)]
   have hp:Pin z a (a.put o.dst undef):=⟨(put_keeps a o.dst undef).1,fun hz1=>(put_keeps a o.dst undef).2 0 (hz hz1 o hmem)⟩
   replace hK:=(forceE_eq _ _).symm.trans hK
   exact opsK_wp C hz os (i+1) _ _ w hos hK (h.skip o.dst) fun e2 a2 w2 k1 k2 k3=>hQ e2 a2 w2 k1 k2 (hp.trans k3)
theorem region_wp (C:Ctx P G ng base pb w0 Γ) {z:Bool} {id:Nat} {ops:Array Oper} (hz:z=true→∀ o ∈ ops.toList,o.dst ≠ some 0) (hK:opsK P Γ nn ops.toList ops.toList e K=some r) (h:Sim P base pb w0 w e a.tmps)
  (hQ:∀ e' a' w',K e'=some r→Sim P base pb w0 w' e' a'.tmps→Pin z a a'→Q .normal a' w'):(Code.region id ops false).wp P Q a w:=by
 refine wp_region ?_
 have:=opsK_wp C (Q:=Q) hz ops.toList 0 e a w rfl hK h hQ
 rw [List.range_eq_range']
 rwa [Array.length_toList] at this
end Go.Proofs.YtffmgholjdfcnaaGreatDoor.AM
set_option linter.unusedSimpArgs false
namespace Go.Proofs.YtffmgholjdfcnaaGreatDoor.AM
open Go
section
variable {P:Program} {ops:Array Oper} {Q:Exit→Act→World→Prop}
def YE (P:Program) (ops:Array Oper) (E:World→Prop) (o:Oper) (v:Value) (a:Act):Prop:=
 (Region.wanted o (yielded ops a.tmps)=true∧∀ w,E w→(execOp a.eval o).run P w=.ok (.value v) w)∨(Region.wanted o (yielded ops a.tmps)=false∧v=undef)
theorem YE.step {E:World→Prop} {i:Nat} {o:Oper} {v:Value} {a:Act} {w:World} (hi:ops[i]?=some o) (hy:YE P ops E o v a) (hE:E w) {K:Act→World→Prop} (h:K (a.put o.dst v) w):wpOp P ops Q i K a w:=by
 unfold wpOp
 rw [hi]
 dsimp only
 rcases hy with ⟨h1,h2⟩ | ⟨h1,rfl⟩
 ·rw [if_pos h1];unfold Oper.wp;rw [h2 w hE];exact .inl h
 ·rw [if_neg (by rw [h1];simp)];exact h
theorem wpOp_ahead {E:World→Prop} {j:Nat} {oi oj:Oper} {v:Value} (hj:ops[j]?=some oj) (hap:oi.apart ops oj=true) (hsi:∀ cs b,oi.op ≠ .select cs b) (hsj:∀ cs b,oj.op ≠ .select cs b)
  (hQ:∀ c a w,¬ Q (.panic c) a w) (hO:¬ LetsOut Q) {K:Act→World→Prop} {a:Act} {w:World} (hy:YE P ops E oi v a) (h:wpOp P ops Q j K (a.put oi.dst v) w) :
  wpOp P ops Q j (fun a' w'=>YE P ops E oi v a'∧K (a'.put oi.dst v) w') a w:=by
 obtain ⟨q1,q2,q3⟩:=Oper.apart_spec hap
 have stays:∀ b:Act,YE P ops E oi v b→∀ u,YE P ops E oi v (b.put oj.dst u):=by
  intro b hb u
  unfold YE
  rw [execOp_put (ops:=ops) oi hsi b oj.dst u q3,wanted_put oi b oj.dst u q3]
  exact hb
 have swap:∀ u,(a.put oi.dst v).put oj.dst u=(a.put oj.dst u).put oi.dst v:=fun u=>Act.put_comm a v u q2
 unfold wpOp at h ⊢
 rw [hj] at h ⊢
 dsimp only at h ⊢
 rw [wanted_put oj a oi.dst v q1] at h
 by_cases hw:Region.wanted oj (yielded ops a.tmps)=true
 ·rw [if_pos hw] at h ⊢
  rcases h with h | ⟨-,h⟩
  ·refine .inl ?_
   unfold Oper.wp at h ⊢
   rw [execOp_put (ops:=ops) oj hsj a oi.dst v q1] at h
   cases hr:(execOp a.eval oj).run P w with
   | ok n w' =>
    rw [hr] at h
    cases n with
    | value u=>exact ⟨stays a hy u,by rw [← swap];exact h⟩
    | skip=>exact ⟨stays a hy undef,by rw [← swap];exact h⟩
    | enter f args =>
     refine Calls.mono h fun en w'' hen=>?_
     cases en with
     | returned u=>exact ⟨stays a hy u,by rw [← swap];exact hen⟩
     | panicked c=>exact absurd hen (hQ _ _ _)
     | outgrown=>exact hen
    | row row args=>exact Rows.mono h fun u w'' hu=>⟨stays a hy u,by rw [← swap];exact hu⟩
    | defer d =>
     refine ⟨stays { a with defers:=d :: a.defers } hy undef,?_⟩
     have h':K ({ a.put oi.dst v with defers:=d :: (a.put oi.dst v).defers }.put oj.dst undef) w':=h
     rw [Act.put_defers a oi.dst v d,Act.put_comm _ v undef q2] at h'
     exact h'
    | _=>exact h.elim
   | halt x w' =>
    rw [hr] at h
    cases x with
    | panic u=>exact absurd h (hQ _ _ _)
    | _=>exact h.elim
  ·exact absurd h hO
 ·rw [if_neg hw] at h ⊢
  exact ⟨stays a hy undef,by rw [← swap];exact h⟩
inductive Dep (ops:Array Oper):Nat→Nat→Prop
 | one {j i}:i ∈ onsOf ops.toList j→Dep ops j i
 | more {j k i}:k ∈ onsOf ops.toList j→Dep ops k i→Dep ops j i
def Shut (ops:Array Oper) (listed:Array Bool):Prop:=∀ j,listed.getD j false=true→∀ i,i ∈ onsOf ops.toList j→listed.getD i false=true
theorem onsOf_after {j i:Nat} (h:i ∈ onsOf ops.toList j):∃ o,ops[j]?=some o∧∃ e ∈ o.after,Region.binds .any e=true∧e.on=i:=by
 unfold onsOf at h
 rw [Array.getElem?_toList] at h
 split at h
 ·rename_i o ho
  obtain ⟨e,he,h2⟩:=List.mem_filterMap.1 h
  refine ⟨o,ho,e,by simpa using he,?_⟩
  split at h2
  ·rename_i hb;cases h2;exact ⟨hb,rfl⟩
  ·cases h2
 ·cases h
theorem ready_ons {listed:Array Bool} {j i:Nat} (hr:j ∈ Region.ready .any ops listed) (h:i ∈ onsOf ops.toList j):listed.getD i false=true:=by
 obtain ⟨-,o,ho,hall⟩:=mem_ready.1 hr
 obtain ⟨o',ho',e,he,hb,rfl⟩:=onsOf_after h
 rw [ho] at ho';cases ho'
 exact hall e he hb
theorem dep_listed {listed:Array Bool} (hs:Shut ops listed) {k i:Nat} (h:Dep ops k i):listed.getD k false=true→listed.getD i false=true:=by
 induction h with
 | one h=>exact fun hk=>hs _ hk _ h
 | more h _ ih=>exact fun hk=>ih (hs _ hk _ h)
theorem unlisted {listed:Array Bool} {i:Nat} (h:listed.getD i true=false):listed.getD i false=false:=by
 simp only [Array.getD_eq_getD_getElem?] at h ⊢
 cases hi:listed[i]? with
 | none=>rfl
 | some v=>rw [hi] at h;exact h
theorem ready_nodep {listed:Array Bool} (hs:Shut ops listed) {j i:Nat} (hr:j ∈ Region.ready .any ops listed) (hi:listed.getD i true=false):¬ Dep ops j i:=by
 intro h
 have hl:=unlisted hi
 cases h with
 | one h=>rw [ready_ons hr h] at hl;cases hl
 | more h k=>rw [dep_listed hs k (ready_ons hr h)] at hl;cases hl
theorem Shut.set {listed:Array Bool} (hs:Shut ops listed) {j:Nat} (hr:j ∈ Region.ready .any ops listed):Shut ops (listed.setIfInBounds j true):=by
 intro k hk i hi
 by_cases hjk:j=k
 ·subst hjk;exact getD_set_true (ready_ons hr hi)
 ·rw [getD_set_ne false hjk] at hk;exact getD_set_true (hs k hk i hi)
def Like (X:Nat→Prop) (u w:World):Prop:=w.os=u.os∧w.tape=u.tape∧w.output=u.output∧u.heap.size≤w.heap.size∧∀ b,b<u.heap.size→¬ X b→w.heap[b]?=u.heap[b]?
theorem Like.refl (X:Nat→Prop) (u:World):Like X u u:=⟨rfl,rfl,rfl,Nat.le_refl _,fun _ _ _=>rfl⟩
theorem Like.trans {X:Nat→Prop} {a b c:World} (h:Like X a b) (k:Like X b c):Like X a c:=
 ⟨k.1.trans h.1,k.2.1.trans h.2.1,k.2.2.1.trans h.2.2.1,Nat.le_trans h.2.2.2.1 k.2.2.2.1,fun i hi hx=>(k.2.2.2.2 i (Nat.lt_of_lt_of_le hi h.2.2.2.1) hx).trans (h.2.2.2.2 i hi hx)⟩
theorem Ext.like {X:Nat→Prop} {u w:World} (h:Ext u w):Like X u w:=⟨h.os,h.tape,h.output,h.size,fun _ hb _=>h.at hb⟩
theorem Like.ext {X:Nat→Prop} (hX:∀ b,¬ X b) {u w:World} (h:Like X u w):Ext u w:=⟨h.1,h.2.1,h.2.2.1,h.2.2.2.1,fun b hb _=>h.2.2.2.2 b hb (hX b)⟩
def wpE (P:Program) (ops:Array Oper) (X:Nat→Prop) (Q:Exit→Act→World→Prop):Nat→(Nat→World→Prop)→Array Bool→Act→World→Prop
 | 0,_,listed,a,w=>Region.ready .any ops listed=[]∧Q .normal a w
 | f+1,pen,listed,a,w=>(Region.ready .any ops listed=[]→Q .normal a w)∧∀ j,j ∈ Region.ready .any ops listed →
   wpOp P ops Q j (fun a' w'=>(∀ i v,pen i v→¬ Dep ops j i→Like X v w')∧wpE P ops X Q f (fun i v=>pen i v∧¬ Dep ops j i) (listed.setIfInBounds j true) a' w') a w
theorem wpE_mono {X:Nat→Prop}:∀ (f:Nat) {pen pen':Nat→World→Prop} {listed:Array Bool} {a:Act} {w:World},(∀ i v,pen' i v→pen i v)→wpE P ops X Q f pen listed a w→wpE P ops X Q f pen' listed a w
 | 0,_,_,_,_,_,_,h=>h
 | f+1,_,_,_,_,_,hp,h=>⟨h.1,fun j hj=>wpOp_mono (fun _ _ hh=>⟨fun i v hi hd=>hh.1 i v (hp i v hi) hd,wpE_mono f (fun i v hi=>⟨hp i v hi.1,hi.2⟩) hh.2⟩) (h.2 j hj)⟩
theorem wpAny_of_wpE {X:Nat→Prop}:∀ (f:Nat) {pen:Nat→World→Prop} {listed:Array Bool} {a:Act} {w:World},wpE P ops X Q f pen listed a w→wpAny P .any ops Q f listed a w
 | 0,_,_,_,_,h=>h
 | f+1,_,_,_,_,h=>⟨h.1,fun j hj=>wpOp_mono (fun _ _ hh=>wpAny_of_wpE f hh.2) (h.2 j hj)⟩
theorem wpE_first {X:Nat→Prop} {E:World→Prop} {i:Nat} {oi:Oper} {v:Value} (hi:ops[i]?=some oi) (hsel:∀ (j:Nat) (o:Oper) cs b,ops[j]?=some o→o.op ≠ .select cs b) (hQ:∀ c a w,¬ Q (.panic c) a w) (hO:¬ LetsOut Q) :
  ∀ (f:Nat) (pen:Nat→World→Prop) (new:World→Prop) (listed:Array Bool) (a:Act) (w:World),Shut ops listed →
   (∀ j oj,ops[j]?=some oj→j ≠ i→listed.getD j true=false→(∀ e ∈ oj.after,Region.binds .any e=true→e.on ≠ i)→oi.apart ops oj=true) →
   i ∈ Region.ready .any ops listed→YE P ops E oi v a→E w→(∀ w',(∀ u,new u→Like X u w')→E w')→(∀ k u,pen k u→Like X u w) →
   wpE P ops X Q f (fun k u=>pen k u∨(k=i∧new u)) (listed.setIfInBounds i true) (a.put oi.dst v) w→wpE P ops X Q (f+1) pen listed a w:=by
 intro f
 induction f with
 | zero =>
  intro pen new listed a w hs _ hr hy hE hnew hp H
  refine ⟨fun h=>(by rw [h] at hr;cases hr),fun j hj=>?_⟩
  by_cases hji:j=i
  ·subst hji
   exact hy.step hi hE ⟨fun k u hk _=>hp k u hk,H⟩
  ·have:=ready_mono hj hji
   rw [H.1] at this;cases this
 | succ f ih =>
  intro pen new listed a w hs hfree hr hy hE hnew hp H
  refine ⟨fun h=>(by rw [h] at hr;cases hr),fun j hj=>?_⟩
  by_cases hji:j=i
  ·subst hji
   exact hy.step hi hE ⟨fun k u hk _=>hp k u hk,wpE_mono _ (fun k u hk=>.inl hk.1) H⟩
  ·obtain ⟨hjun,oj,hoj,hall⟩:=mem_ready.1 hj
   have hiun:=(mem_ready.1 hr).1
   have hnd:=ready_nodep hs hj hiun
   have hnot:∀ e ∈ oj.after,Region.binds .any e=true→e.on ≠ i:=by
    intro e he hb heq
    have h1:=hall e he hb
    rw [heq,unlisted hiun] at h1;cases h1
   have h2:=wpOp_ahead (E:=E) hoj (hfree j oj hoj hji hjun hnot) (fun cs b=>hsel i oi cs b hi) (fun cs b=>hsel j oj cs b hoj) hQ hO hy (H.2 j (ready_mono hj hji))
   refine wpOp_mono (fun a' w' h3=>?_) h2
   obtain ⟨h4,h5,h6⟩:=h3
   refine ⟨fun k u hk hd=>h5 k u (.inl hk) hd,?_⟩
   refine ih (fun k u=>pen k u∧¬ Dep ops j k) new (listed.setIfInBounds j true) a' w' (hs.set hj) ?_ (ready_mono hr (Ne.symm hji)) h4 (hnew w' fun u hu=>h5 i u (.inr ⟨rfl,hu⟩) hnd) hnew (fun k u hk=>h5 k u (.inl hk.1) hk.2) ?_
   ·intro k ok hk hki hun hno
    refine hfree k ok hk hki ?_ hno
    by_cases hjk:j=k
    ·subst hjk;exact hjun
    ·rw [getD_set_ne true hjk] at hun;exact hun
   ·rw [Array.setIfInBounds_comm _ _ hji]
    refine wpE_mono _ (fun k u hk=>?_) h6
    rcases hk with hk | ⟨rfl,hk⟩
    ·exact ⟨.inl hk.1,hk.2⟩
    ·exact ⟨.inr ⟨rfl,hk⟩,hnd⟩
theorem ancL_dep {j:Nat}:∀ (f:Nat) (S:List Nat),(∀ i,i ∈ S→Dep ops j i)→∀ i,i ∈ ancL ops.toList f S→Dep ops j i
 | 0,S,h,i,hi=>h i hi
 | f+1,S,h,i,hi=>by
  refine ancL_dep f _ (fun k hk=>?_) i hi
  rcases List.mem_append.1 hk with hk | hk
  ·exact h k hk
  ·obtain ⟨hk,-⟩:=List.mem_filter.1 hk
   obtain ⟨m,hm,hk⟩:=List.mem_flatMap.1 (List.mem_eraseDups.1 hk)
   have:∀ {x y z},Dep ops x y→z ∈ onsOf ops.toList y→Dep ops x z:=by
    intro x y z hxy hz
    induction hxy with
    | one h=>exact .more h (.one hz)
    | more h _ ih=>exact .more h (ih hz)
   exact this (h m hm) hk
end
variable {P:Program} {G:World→Prop} {ng:Nat} {base:Nat} {pb:Option Nat} {w0 w w':World} {e:Env} {a:Act} {Γ:Gam} {nn:Nat}
variable {K:Env→Option Out} {r:Out} {next:Act→World→Prop} {Q:Exit→Act→World→Prop} {o:Oper}
theorem isLate_some {D:List Nat} (h:isLate D o=true):∃ t s y,o.op=.store t (.tmp s) y∧s ∈ D:=by
 unfold isLate at h
 split at h
 ·rename_i t s y hop;exact ⟨t,s,y,hop,by simpa using h⟩
 ·cases h
theorem lates_dst {ops:List Oper}:∀ s,s ∈ lates ops→∀ o ∈ ops,o.dst ≠ some s:=by
 intro s hs o ho hd
 unfold lates at hs
 obtain ⟨p,-,hp⟩:=List.mem_filterMap.1 hs
 split at hp
 ·split at hp
  ·rename_i hall
   cases hp
   have:=List.all_eq_true.1 hall o ho
   rw [hd] at this
   simp at this
  ·cases hp
 ·cases hp
theorem ldOk_of {D:List Nat} {X:Nat→Prop} {tm0:Array Value} (hX:∀ b,X b ↔ ∃ s ∈ D,b ∈ blkOf (tm0.getD s undef)) (hT:∀ s,s ∈ D→a.tmps.getD s undef=tm0.getD s undef) (h:Sim P base pb w0 w e a.tmps) (hd:dOk D e o=true) (hm:memO o=true) (hK:opK P Γ nn e o K=some r)
  (hw:Like X w w'):Ext w w'∨LdOk P base pb e a o w':=by
 cases hDD:D with
 | nil=>exact .inl (hw.ext fun b hb=>by obtain ⟨s,hs,-⟩:=(hX b).1 hb;rw [hDD] at hs;cases hs)
 | cons d0 D0 =>
  have hd':(match o.op with
    | .load _ x=>(match ev e x with
     | .via s _=>!D.contains s&&D.all fun d=>isBox (e.getD d .u)
     | .tup []=>true
     | _=>false)
    | _=>false)=true:=by
   rw [hDD] at hd ⊢
   unfold dOk at hd
   rw [hm] at hd
   exact hd
  split at hd'
  ·rename_i t x hop
   split at hd'
   ·rename_i s off hx
    have hs:ldSlot e o=some s:=by simp only [ldSlot,hop,hx]
    simp only [Bool.and_eq_true,List.all_eq_true] at hd'
    obtain ⟨hd1,hd2⟩:=hd'
    have hsD:s ∉ D:=by simpa using hd1
    have hbx:∀ d,d ∈ D→∀ b,b ∈ blkOf (a.tmps.getD d undef)→b ∈ blks (e.getD d .u) (a.tmps.getD d undef):=by
     intro d hdD b hb
     have:=hd2 d hdD
     unfold isBox at this
     split at this
     ·rename_i T x heq;rw [heq];exact hb
     ·cases this
    refine .inr ⟨s,hs,(h.rel s).mono (fun b hb=>?_) fun b hb hpb=>?_⟩
    ·refine hw.2.2.2.2 b (h.own s b hb).1 fun hxb=>?_
     obtain ⟨d,hdD,hbd⟩:=(hX b).1 hxb
     rw [← hT d hdD] at hbd
     have hne:s ≠ d:=by rintro rfl;exact hsD hdD
     exact h.dist s d hne b hb (hbx d hdD b hbd)
    ·refine hw.2.2.2.2 b (Nat.lt_of_lt_of_le hb h.low) fun hxb=>?_
     obtain ⟨d,hdD,hbd⟩:=(hX b).1 hxb
     rw [← hT d hdD] at hbd
     rcases (h.own d b (hbx d hdD b hbd)).2 with h' | h'
     ·omega
     ·exact hpb h'
   ·rename_i hx
    unfold opK at hK
    rw [hop] at hK
    dsimp only at hK
    rw [hx] at hK
    cases hK
   ·cases hd'
  ·cases hd'
theorem drawK_wp (C:Ctx P G ng base pb w0 Γ) {z:Bool} {ops:Array Oper} (hz:z=true→∀ o ∈ ops.toList,o.dst ≠ some 0) (hsel:Region.noSelect ops=true) (hQp:∀ c a w,¬ Q (.panic c) a w) (hQo:¬ LetsOut Q) {D:List Nat} (hD:∀ s,s ∈ D→∀ o ∈ ops.toList,o.dst ≠ some s) {X:Nat→Prop} {tm0:Array Value} (hX:∀ b,X b ↔ ∃ s ∈ D,b ∈ blkOf (tm0.getD s undef)) :
  ∀ (f:Nat) (l:List (Nat × Bool)) (mem:List Nat) (pen:Nat→World→Prop) (listed:Array Bool) (e:Env) (a:Act) (w:World),planGo P D ops.toList f listed mem=some l→drawK P Γ nn D ops.toList l e K=some r→Sim P base pb w0 w e a.tmps→Shut ops listed→(∀ s,s ∈ D→a.tmps.getD s undef=tm0.getD s undef) →
   (∀ k u,pen k u→k ∈ mem)→(∀ k u,pen k u→Like X u w)→(∀ e' a' w',K e'=some r→Sim P base pb w0 w' e' a'.tmps→Pin z a a'→Q .normal a' w')→wpE P ops X Q f pen listed a w:=by
 have hops:ops.toList.toArray=ops:=by simp
 intro f
 induction f with
 | zero =>
  intro l mem pen listed e a w hp hK h hs _ _ _ hQ
  simp only [planGo,hops] at hp
  split at hp
  ·rename_i hr;cases hp
   exact ⟨hr,hQ e a w hK h (Pin.refl _ _)⟩
  ·cases hp
 | succ f ih =>
  intro l mem pen listed e a w hp hK h hs hT hm hE hQ
  simp only [planGo,hops] at hp
  split at hp
  ·rename_i hr;cases hp
   exact ⟨fun _=>hQ e a w hK h (Pin.refl _ _),fun j hj=>(by rw [hr] at hj;cases hj)⟩
  ·rename_i r0 rs hr
   split at hp
   ·rename_i i hfind
    have hprop:=List.find?_some hfind
    have hir:i ∈ Region.ready .any ops listed:=by rw [hr];exact List.mem_of_find?_eq_some hfind
    split at hp
    ·rename_i o ho
     rw [ho] at hprop
     simp only [Bool.and_eq_true] at hprop
     split at hp
     ·rename_i l' hl'
      cases hp
      rw [Array.getElem?_toList] at ho
      have hmem:o ∈ ops.toList:=List.mem_of_getElem? (i:=i) (by rw [Array.getElem?_toList];exact ho)
      simp only [drawK] at hK
      rw [Array.getElem?_toList,ho] at hK
      simp only [hprop.1] at hK
      split at hK
      ·cases hK
      ·cases hK
      ·rename_i hns _
       have hsd:(simpleE P e o&&dOk D e o)=true:=by
        cases hse:(simpleE P e o&&dOk D e o) with
        | true=>rfl
        | false=>exact absurd hse (hns rfl)
       have hsim:simpleE P e o=true:=(Bool.and_eq_true_iff.1 hsd).1
       have hdok:dOk D e o=true:=(Bool.and_eq_true_iff.1 hsd).2
       have hnew:∀ {K2:Env→Option Out},opK P Γ nn e o K2=some r→∀ w',Like X w w'→memO o=true→Ext w w'∨LdOk P base pb e a o w':=fun hK2 w' hw hmo=>ldOk_of hX hT h hdok hmo hK2 hw
       have main:∀ (x:V) (v:Value) (hd:drawK P Γ nn D ops.toList l' (putO e o.dst x) K=some r) (hS:Sim P base pb w0 w (putO e o.dst x) (a.put o.dst v).tmps) (hy:YE P ops (fun w'=>memO o=true→Like X w w') o v a),wpE P ops X Q (f+1) pen listed a w:=by
        intro x v hd hS hy
        refine wpE_first ho (Region.noSelect_spec hsel) hQp hQo f pen (fun u=>memO o=true∧u=w) listed a w hs (Region.free_spec ho hprop.2) hir hy (fun _=>Like.refl X w) (fun w' hw' hmo=>hw' w ⟨hmo,rfl⟩) hE ?_
        have hp:Pin z a (a.put o.dst v):=⟨(put_keeps a o.dst v).1,fun hz1=>(put_keeps a o.dst v).2 0 (hz hz1 o hmem)⟩
        refine ih l' _ _ (listed.setIfInBounds i true) _ _ w hl' hd hS (hs.set hir) (fun s hs1=>((put_keeps a o.dst v).2 s (hD s hs1 o hmem)).trans (hT s hs1)) ?_ ?_ fun e2 a2 w2 k1 k2 k3=>hQ e2 a2 w2 k1 k2 (hp.trans k3)
        ·rintro k u (hk | ⟨rfl,hmo,rfl⟩)
         ·split
          ·exact List.mem_cons_of_mem _ (hm k u hk)
          ·exact hm k u hk
         ·rw [hmo];exact List.mem_cons_self
        ·rintro k u (hk | ⟨rfl,hmo,rfl⟩)
         ·exact hE k u hk
         ·exact Like.refl _ _
       rcases stepK_cases h hK with ⟨hw,hK⟩ | ⟨hw,hK⟩
       ·have hnew:=hnew hK
        rcases opK_told C.fn (C.good w h.keep) C.low h hK with ⟨x,v,hd,hrun,hrel,hb⟩ | ⟨hf,-⟩
        ·exact main x v ((forceE_eq _ _).symm.trans hd) (h.putO0 a rfl o.dst x v hrel hb) (.inl ⟨hw,fun w' hw'=>hrun w' fun hmo=>hnew w' (hw' hmo) hmo⟩)
        ·rw [hsim] at hf;cases hf
       ·exact main (.tup []) undef ((forceE_eq _ _).symm.trans hK) (h.skip o.dst) (.inr ⟨hw,rfl⟩)
     ·cases hp
    ·cases hp
   ·split at hp
    ·rename_i o ho _
     split at hp
     ·rename_i hcalm
      split at hp
      ·rename_i l' hl'
       cases hp
       rw [Array.getElem?_toList] at ho
       have hmem:o ∈ ops.toList:=List.mem_of_getElem? (i:=r0) (by rw [Array.getElem?_toList];exact ho)
       have hrr:r0 ∈ Region.ready .any ops listed:=by rw [hr];simp
       simp only [drawK] at hK
       rw [Array.getElem?_toList,ho] at hK
       dsimp only at hK
       refine ⟨fun h0=>(by rw [hr] at h0;cases h0),fun j hj=>?_⟩
       rw [hr] at hj
       have hj:j=r0:=by simpa using hj
       subst hj
       have rest:∀ (e':Env) (a':Act) (w':World),drawK P Γ nn D ops.toList l' e' K=some r→Sim P base pb w0 w' e' a'.tmps→Pin z a a'→(∀ s,s ∈ D→a'.tmps.getD s undef=a.tmps.getD s undef)→((isLate D o=true→calm o=false→Like X w w')→(quietE e o=true→Ext w w')→((calm o&&!(mem.all fun i=>(ancL ops.toList ops.toList.length (onsOf ops.toList j)).contains i))=true→quietE e o=true)→(∀ i v,pen i v→¬ Dep ops j i→Like X v w')∧wpE P ops X Q f (fun i v=>pen i v∧¬ Dep ops j i) (listed.setIfInBounds j true) a' w'):=by
        intro e' a' w' hd hS hpin hTs hla hq hcq
        have key:∀ i v,pen i v→¬ Dep ops j i→Like X v w':=by
         intro i v hi hnd
         cases hmm:(mem.all fun i=>(ancL ops.toList ops.toList.length (onsOf ops.toList j)).contains i) with
         | true =>
          rw [List.all_eq_true] at hmm
          have:=hmm i (hm i v hi)
          exact absurd (ancL_dep _ _ (fun k hk=>.one hk) i (by simpa using this)) hnd
         | false =>
          cases hc:calm o with
          | true=>exact (hE i v hi).trans (hq (hcq (by rw [hc,hmm];rfl))).like
          | false =>
           cases hl:isLate D o with
           | true=>exact (hE i v hi).trans (hla hl hc)
           | false=>rw [hc,hl,hmm] at hcalm;cases hcalm
        exact ⟨key,ih l' mem _ _ e' a' w' hl' hd hS (hs.set hrr) (fun s hs1=>(hTs s hs1).trans (hT s hs1)) (fun k u hk=>hm k u hk.1) (fun k u hk=>key k u hk.1 hk.2) fun e2 a2 w2 k1 k2 k3=>hQ e2 a2 w2 k1 k2 (hpin.trans k3)⟩
       have fin:stepK P Γ nn ops.toList o e (fun e=>forceE e fun e=>drawK P Γ nn D ops.toList l' e K)=some r→((calm o&&!(mem.all fun i=>(ancL ops.toList ops.toList.length (onsOf ops.toList j)).contains i))=true→quietE e o=true)→wpOp P ops Q j (fun a' w'=>(∀ i v,pen i v→¬ Dep ops j i→Like X v w')∧wpE P ops X Q f (fun i v=>pen i v∧¬ Dep ops j i) (listed.setIfInBounds j true) a' w') a w:=by
        intro hK hcq
        unfold wpOp
        rw [ho]
        dsimp only
        rcases stepK_cases h hK with ⟨hw,hK⟩ | ⟨hw,hK⟩
        ·rw [if_pos hw]
         cases hl:isLate D o with
         | false =>
          refine .inl ((opK_told C.fn (C.good w h.keep) C.low h hK).wp h fun e' a' w' hK' h' hpin hq=>?_)
          replace hK':=(forceE_eq _ _).symm.trans hK'
          exact rest e' a' w' hK' h' ⟨hpin.1,fun hz1=>hpin.2 0 (hz hz1 o hmem)⟩ (fun s hs1=>hpin.2 s (hD s hs1 o hmem)) (fun hl'=>by rw [hl] at hl';cases hl') hq hcq
         | true =>
          obtain ⟨t,s,y,hop,hsD⟩:=isLate_some hl
          refine .inl (store_told h hop hK fun e' a' b off row hx hK' h' hpin=>?_)
          replace hK':=(forceE_eq _ _).symm.trans hK'
          refine rest e' a' _ hK' h' ⟨hpin.1,fun hz1=>hpin.2 0 (hz hz1 o hmem)⟩ (fun s hs1=>hpin.2 s (hD s hs1 o hmem)) (fun _ _=>?_) (fun hq=>by simp [quietE,hop] at hq) hcq
          refine ⟨rfl,rfl,rfl,by simp [World.setRow],fun k hk hkx=>setRow_other w b k row ?_⟩
          rintro rfl
          refine hkx ((hX k).2 ⟨s,hsD,?_⟩)
          rw [← hT s hsD]
          have hx':a.tmps.getD s undef=.pointer (some ⟨k,off,none⟩):=hx
          rw [hx'];simp [blkOf,baseOf]
        ·rw [if_neg (by rw [hw];simp)]
         replace hK:=(forceE_eq _ _).symm.trans hK
         exact rest _ _ w hK (h.skip o.dst) ⟨(put_keeps a o.dst undef).1,fun hz1=>(put_keeps a o.dst undef).2 0 (hz hz1 o hmem)⟩ (fun s hs1=>(put_keeps a o.dst undef).2 s (hD s hs1 o hmem)) (fun _ _=>Like.refl X w) (fun _=>Ext.refl w) hcq
       split at hK
       ·cases hK
       ·cases hK
       ·rename_i hnq
        refine fin hK fun hc=>?_
        cases hqe:quietE e o with
        | true=>rfl
        | false=>exact absurd hqe (hnq hc)
      ·cases hp
     ·cases hp
    ·cases hp
theorem region_draw_wp (C:Ctx P G ng base pb w0 Γ) {z:Bool} {id:Nat} {ops:Array Oper} (hz:z=true→∀ o ∈ ops.toList,o.dst ≠ some 0) {D:List Nat} {l:List (Nat × Bool)} (hp:plan P ops.toList=some (D,l)) (hK:drawK P Γ nn D ops.toList l e K=some r) (h:Sim P base pb w0 w e a.tmps)
  (hQ:∀ e' a' w',K e'=some r→Sim P base pb w0 w' e' a'.tmps→Pin z a a'→Q .normal a' w'):(Code.region id ops true).wp P Q a w:=by
 have hops:ops.toList.toArray=ops:=by simp
 have both:Region.noSelect ops=true∧(∀ s,s ∈ D→∀ o ∈ ops.toList,o.dst ≠ some s)∧planGo P D ops.toList ops.toList.length (Array.replicate ops.toList.length false) []=some l:=by
  unfold plan at hp
  rw [hops] at hp
  split at hp
  ·rename_i hsel
   refine ⟨hsel,?_⟩
   split at hp
   ·rename_i l' hl';cases hp;exact ⟨fun s hs=>(by cases hs),hl'⟩
   ·split at hp
    ·rename_i l' hl'
     simp only [Option.some.injEq,Prod.mk.injEq] at hp
     obtain ⟨rfl,rfl⟩:=hp
     exact ⟨lates_dst,hl'⟩
    ·cases hp
  ·cases hp
 obtain ⟨hsel,hD,hp⟩:=both
 refine wp_mono (Q:=fun x a' w'=>x=.normal∧∃ e',K e'=some r∧Sim P base pb w0 w' e' a'.tmps∧Pin z a a') ?_ ?_
 ·refine wp_region_any C.mixed ?_
  have hw:Sim P base pb w0 { w with drawn:=w.drawn+1 } e a.tmps:=h.ext ⟨rfl,rfl,rfl,Nat.le_refl _,fun _ _ _=>rfl⟩
  rw [Array.length_toList] at hp
  refine wpAny_of_wpE _ (pen:=fun _ _=>False) (drawK_wp (Q:=fun x a' w'=>x=.normal∧∃ e',K e'=some r∧Sim P base pb w0 w' e' a'.tmps∧Pin z a a') C hz hsel (fun c a w hq=>by cases hq.1) (fun hl=>by obtain ⟨a,w,hq⟩:=hl;cases hq.1) hD (X:=fun b=>∃ s ∈ D,b ∈ blkOf (a.tmps.getD s undef)) (tm0:=a.tmps) (fun _=>Iff.rfl) _ l [] _ _ e a _ hp hK hw ?_ (fun _ _=>rfl) (fun _ _ h=>h.elim) (fun _ _ h=>h.elim) ?_)
  ·intro j hj
   simp only [Array.getD_eq_getD_getElem?,Array.getElem?_replicate] at hj
   split at hj<;>cases hj
  ·intro e' a' w' k1 k2 k3;exact ⟨rfl,e',k1,k2,k3⟩
 ·rintro x a' w' ⟨rfl,e',k1,k2,k3⟩
  exact hQ e' a' w' k1 k2 k3
end Go.Proofs.YtffmgholjdfcnaaGreatDoor.AM
set_option linter.unusedSimpArgs false
namespace Go.Proofs.YtffmgholjdfcnaaGreatDoor.AM
open Go
section
variable {P:Program} {Q:Exit→Act→World→Prop}
def ScopeQ (P:Program) (c:Code) (Q:Exit→Act→World→Prop):Nat→Exit→Act→World→Prop
 | 0,.goto l,a,w=>findLabel c l=none∧Q (.goto l) a w
 | j+1,.goto l,a,w=>(∃ rest,findLabel c l=some rest∧rest.wp P (ScopeQ P c Q j) a w)∨(findLabel c l=none∧Q (.goto l) a w)
 | _,x,a,w=>Q x a w
theorem wp_scope_n {c:Code} {j:Nat} {a:Act} {w:World} (h:c.wp P (ScopeQ P c Q j) a w):(Code.scope c).wp P Q a w:=by
 intro b k cs
 have key:∀ (j:Nat) (x:Code) (a:Act) (w:World),x.wp P (ScopeQ P c Q j) a w→∃ e a' w',Q e a' w'∧Arrives P (lone (b.at a (.code x :: .inScope c :: k)) cs w) b k cs e a' w':=by
  intro j
  induction j with
  | zero =>
   intro x a w hx
   obtain ⟨e,a1,w1,hq,harr⟩:=hx b (.inScope c :: k) cs
   cases e with
   | normal=>exact ⟨.normal,a1,w1,hq,Steps.trans harr (.one step_inScope)⟩
   | exit id=>exact ⟨.exit id,a1,w1,hq,fun k' hk=>harr k' (by simp [exitTo,hk])⟩
   | goto l =>
    obtain ⟨hf,hq⟩:=hq
    exact ⟨.goto l,a1,w1,hq,fun k' hk=>harr k' (by simp [gotoIn,hf,hk])⟩
   | ret=>exact ⟨_,a1,w1,hq,harr⟩
   | panic ch=>exact ⟨_,a1,w1,hq,harr⟩
   | outgrown=>exact ⟨_,a1,w1,hq,harr⟩
  | succ j ih =>
   intro x a w hx
   obtain ⟨e,a1,w1,hq,harr⟩:=hx b (.inScope c :: k) cs
   cases e with
   | normal=>exact ⟨.normal,a1,w1,hq,Steps.trans harr (.one step_inScope)⟩
   | exit id=>exact ⟨.exit id,a1,w1,hq,fun k' hk=>harr k' (by simp [exitTo,hk])⟩
   | goto l =>
    rcases hq with ⟨rest,hf,hr⟩ | ⟨hf,hq⟩
    ·obtain ⟨e2,a2,w2,hq2,harr2⟩:=ih rest a1 w1 hr
     exact ⟨e2,a2,w2,hq2,.of_steps (harr _ (by simp [gotoIn,hf])) harr2⟩
    ·exact ⟨.goto l,a1,w1,hq,fun k' hk=>harr k' (by simp [gotoIn,hf,hk])⟩
   | ret=>exact ⟨_,a1,w1,hq,harr⟩
   | panic ch=>exact ⟨_,a1,w1,hq,harr⟩
   | outgrown=>exact ⟨_,a1,w1,hq,harr⟩
 obtain ⟨e,a',w',hq,harr⟩:=key j c a w h
 exact ⟨e,a',w',hq,.of_steps (.one step_scope) harr⟩
theorem hasLabel_find (l:Nat):∀ c:Code,hasLabel l c=(findLabel c l).isSome:=by
 intro c
 induction c with
 | seq a b iha ihb =>
  simp only [hasLabel,findLabel,iha,ihb]
  cases findLabel a l<;>simp
 | label l'=>simp only [hasLabel,findLabel];split<;>simp_all
 | _=>rfl
end
variable {P:Program} {G:World→Prop} {ng:Nat} {base:Nat} {pb:Option Nat} {w0 w w':World} {e:Env} {a:Act} {Γ:Gam} {nn:Nat} {Lv:Nat→Option (List (Nat × Co))} {Cut:Nat→Env→(Env→Option Out)→Option Out}
variable {r:Out} {Q:Exit→Act→World→Prop}
theorem keepFrom_at (lv:List (Nat × Co)) (e0:Env):∀ (e:Env) (n i:Nat),i<e.length→(keepFrom lv e0 n e).getD i .u=keepV lv e0 (n+i) (e.getD i .u)
 | [],n,i,h=>by simp at h
 | v :: e,n,0,_=>by simp [keepFrom]
 | v :: e,n,i+1,h=>by
  have:=keepFrom_at lv e0 e (n+1) i (by simpa using h)
  simp only [keepFrom,List.getD_cons_succ]
  rw [this,show n+1+i=n+(i+1) by omega]
theorem keepFrom_length (lv:List (Nat × Co)) (e0:Env):∀ (e:Env) (n:Nat),(keepFrom lv e0 n e).length=e.length
 | [],_=>rfl
 | v :: e,n=>by simp [keepFrom,keepFrom_length lv e0 e (n+1)]
theorem keepV_owner {lv:List (Nat × Co)} {i:Nat} {v:V} (ho:owner v=true) (hk:(findCo lv i).isSome=true):keepV lv e i v=v:=by
 obtain ⟨c,hc⟩:=Option.isSome_iff_exists.1 hk
 unfold keepV
 rw [hc]
 cases v with
 | box T x=>cases c<;>rfl
 | iter l p=>cases c<;>rfl
 | c x=>cases x<;>first | (cases ho;done) | (cases c<;>rfl)
 | _=>cases ho
theorem Sim.kept (h:Sim P base pb w0 w e a.tmps) (lv:List (Nat × Co)):Sim P base pb w0 w (keepFrom lv e 0 e) a.tmps:=by
 have hg:∀ i,i<e.length→(keepFrom lv e 0 e).getD i .u=keepV lv e i (e.getD i .u):=by
  intro i hi;have:=keepFrom_at lv e e 0 i hi;rwa [Nat.zero_add] at this
 have hout:∀ i,¬ i<e.length→(keepFrom lv e 0 e).getD i .u=.u:=by
  intro i hi
  rw [List.getD_eq_getElem?_getD,List.getElem?_eq_none (by rw [keepFrom_length];omega)];rfl
 have hown:∀ s,owner (e.getD s .u)=true→(findCo lv s).isSome=true→(keepFrom lv e 0 e).getD s .u=e.getD s .u:=by
  intro s ho hk
  rw [hg s (lt_of_owner ho),keepV_owner ho hk]
 have main:∀ i,RelV P base pb w (keepFrom lv e 0 e) a.tmps ((keepFrom lv e 0 e).getD i .u) (a.tmps.getD i undef)∧(∀ b,b ∈ blks ((keepFrom lv e 0 e).getD i .u) (a.tmps.getD i undef)→b ∈ blks (e.getD i .u) (a.tmps.getD i undef))∧(blks ((keepFrom lv e 0 e).getD i .u) (a.tmps.getD i undef)).Nodup:=by
  intro i
  by_cases hi:i<e.length
  ·rw [hg i hi]
   unfold keepV
   split
   ·rename_i c hc hk
    have same:RelV P base pb w (keepFrom lv e 0 e) a.tmps (e.getD i .u) (a.tmps.getD i undef):=by
     refine (h.rel i).env fun s hs hso=>⟨hown s hso ?_,rfl⟩
     cases hv:e.getD i .u with
     | via s' off=>rw [hv] at hs hk;simp only [aliasOf,beq_iff_eq] at hs;subst hs;exact hk
     | all s'=>rw [hv] at hs hk;simp only [aliasOf,beq_iff_eq] at hs;subst hs;exact hk
     | ali s' lo n=>rw [hv] at hs hk;simp only [aliasOf,beq_iff_eq] at hs;subst hs;exact hk
     | it s'=>rw [hv] at hs hk;simp only [aliasOf,beq_iff_eq] at hs;subst hs;exact hk
     | _=>rw [hv] at hs;cases hs
    have hr:=h.rel i
    unfold coV
    split
    ·rename_i x hv
     rw [hv] at hr
     have hval:a.tmps.getD i undef=.slice none 0 0:=hr
     split
     ·rename_i hl
      rw [hval]
      refine ⟨.inl ⟨rfl,hl⟩,fun b hb=>?_,by simp [blks,blksC,blkOf,baseOf]⟩
      simp [blks,blksC,blkOf,baseOf] at hb
     ·exact ⟨trivial,fun b hb=>by simp [blks] at hb,by simp [blks]⟩
    ·rename_i s hv
     rw [hv] at hr hk
     split
     ·rename_i x hx
      obtain ⟨A,cap,h3,h4,h5⟩:=owner_slice h hx
      have hso:=isSl_owner (isSl_of hx)
      have hval:a.tmps.getD i undef=.slice A x.len cap:=hr.2.trans h3
      rw [hval]
      refine ⟨⟨by rw [hown s hso hk];exact hso,⟨A,cap,rfl,h4,fun hl=>?_,fun _ A' len' cap' hA=>?_⟩,fun x' hx'=>?_,?_⟩,fun b hb=>by simp [blks] at hb,by simp [blks]⟩
      ·obtain ⟨b,rfl⟩:=h5 hl
       exact ⟨b,by rw [h3];rfl,by simp [Addr.add]⟩
      ·rw [h3] at hA;cases hA;exact ⟨rfl,rfl⟩
      ·unfold contentB at hx'
       rw [hown s hso hk] at hx'
       have:=contentB_of hx
       unfold contentB at this
       rw [this] at hx';cases hx';omega
      ·intro T' y' hT'
       rw [hown s hso hk] at hT'
       rw [content,hT'] at hx;cases hx
     ·exact ⟨trivial,fun b hb=>by simp [blks] at hb,by simp [blks]⟩
    ·exact ⟨same,fun b hb=>hb,h.nd i⟩
   ·exact ⟨trivial,fun b hb=>by simp [blks] at hb,by simp [blks]⟩
  ·rw [hout i hi]
   exact ⟨trivial,fun b hb=>by simp [blks] at hb,by simp [blks]⟩
 exact ⟨by rw [keepFrom_length];exact h.size,fun i=>(main i).1,fun i j hij b hi hj=>h.dist i j hij b ((main i).2.1 b hi) ((main j).2.1 b hj),fun i b hi=>h.own i b ((main i).2.1 b hi),fun i=>(main i).2.2,h.keep,h.low⟩
theorem Sim.trimmed (h:Sim P base pb w0 w e a.tmps) (lv:Option (List (Nat × Co))):Sim P base pb w0 w (trim lv e) a.tmps:=by
 cases lv with
 | none=>exact h
 | some l=>exact h.kept l
def CodeOk (P:Program) (base:Nat) (pb:Option Nat) (w0:World) (Γ:Gam) (nn:Nat) (Lv:Nat→Option (List (Nat × Co))) (Cut:Nat→Env→(Env→Option Out)→Option Out) (z:Bool) (c:Code):Prop:=
 (∀ (k:Nat) (e:Env) (K:Exit→Env→Option Out) (r:Out) (a:Act) (w:World) (Q:Exit→Act→World→Prop),execK P Γ nn Lv Cut k c e K=some r→Sim P base pb w0 w e a.tmps →
  (∀ x e' a' w',K x e'=some r→Sim P base pb w0 w' e' a'.tmps→Pin z a a'→Q x a' w')→c.wp P Q a w) ∧
 ∀ (k l:Nat) (rest:Code) (e:Env) (K:Exit→Env→Option Out) (r:Out) (a:Act) (w:World) (Q:Exit→Act→World→Prop),findLabel c l=some rest→fromK P Γ nn Lv Cut k l c e K=some r→Sim P base pb w0 w e a.tmps →
  (∀ x e' a' w',K x e'=some r→Sim P base pb w0 w' e' a'.tmps→Pin z a a'→Q x a' w')→rest.wp P Q a w
theorem atCut_some (hC:∀ key e t,Cut key e t=t e) {lv:Option (List (Nat × Co))} {key:Nat} {t:Env→Option Out} (h:atCut Cut lv key e t=some r):t (trim lv e)=some r:=by
 unfold atCut at h
 split at h
 ·rwa [hC] at h
 ·exact h
theorem seq_then (hC:∀ key e t,Cut key e t=t e) (b:Code) {z:Bool} (hb:CodeOk P base pb w0 Γ nn Lv Cut z b) {k:Nat} {K:Exit→Env→Option Out} {a0:Act}
  (hQ:∀ x e' a' w',K x e'=some r→Sim P base pb w0 w' e' a'.tmps→Pin z a0 a'→Q x a' w') (x:Exit) (e':Env) (a':Act) (w':World)
  (h:(match x with | .normal=>atCut Cut (Lv (hid2 b)) (hid2 b) e' (fun e=>execK P Γ nn Lv Cut k b e K) | x=>K x e')=some r) (hs:Sim P base pb w0 w' e' a'.tmps) (hp:Pin z a0 a'):Exit.then (b.wp P Q) Q x a' w':=by
 cases x with
 | normal=>exact hb.1 k _ K r a' w' Q (atCut_some hC h) (hs.trimmed _) fun y e2 a2 w2 k1 k2 k3=>hQ y e2 a2 w2 k1 k2 (hp.trans k3)
 | exit id=>exact hQ _ _ _ _ h hs hp
 | goto l=>exact hQ _ _ _ _ h hs hp
 | ret=>exact hQ _ _ _ _ h hs hp
 | panic c=>exact hQ _ _ _ _ h hs hp
 | outgrown=>exact hQ _ _ _ _ h hs hp
theorem code_ok (C:Ctx P G ng base pb w0 Γ) (hC:∀ key e t,Cut key e t=t e) {z:Bool}:∀ c:Code,(z=true→0 ∉ dsts c)→CodeOk P base pb w0 Γ nn Lv Cut z c:=by
 intro c
 induction c with
 | skip=>exact fun _=>⟨fun k e K r a w Q hK h hQ=>wp_skip (hQ _ _ _ _ hK h (Pin.refl _ _)),fun k l rest e K r a w Q hf=>(by cases hf)⟩
 | label l=>exact fun _=>⟨fun k e K r a w Q hK h hQ=>wp_label (hQ _ _ _ _ hK h (Pin.refl _ _)),fun k l' rest e K r a w Q hf hK h hQ=>by
   simp only [findLabel] at hf
   split at hf
   ·cases hf;exact wp_skip (hQ _ _ _ _ hK h (Pin.refl _ _))
   ·cases hf⟩
 | exit id=>exact fun _=>⟨fun k e K r a w Q hK h hQ=>wp_exit (hQ _ _ _ _ hK h (Pin.refl _ _)),fun k l rest e K r a w Q hf=>(by cases hf)⟩
 | goto l=>exact fun _=>⟨fun k e K r a w Q hK h hQ=>wp_goto (hQ _ _ _ _ hK (h.trimmed _) (Pin.refl _ _)),fun k l rest e K r a w Q hf=>(by cases hf)⟩
 | ret=>exact fun _=>⟨fun k e K r a w Q hK h hQ=>wp_ret (hQ _ _ _ _ hK h (Pin.refl _ _)),fun k l rest e K r a w Q hf=>(by cases hf)⟩
 | refuse why=>exact fun _=>⟨fun k e K r a w Q hK=>(by cases hK),fun k l rest e K r a w Q hf=>(by cases hf)⟩
 | rangeFunc f ps as bd _ _=>exact fun _=>⟨fun k e K r a w Q hK=>(by cases hK),fun k l rest e K r a w Q hf=>(by cases hf)⟩
 | region id ops draw =>
  intro hz
  have hz':z=true→∀ o ∈ ops.toList,o.dst ≠ some 0:=by
   intro h o ho hd
   exact hz h (List.mem_flatMap.2 ⟨o,ho,by rw [hd];simp⟩)
  refine ⟨fun k e K r a w Q hK h hQ=>?_,fun k l rest e K r a w Q hf=>(by cases hf)⟩
  cases draw with
  | false =>
   simp only [execK] at hK
   replace hK:=(forceE_eq _ _).symm.trans hK
   exact region_wp C hz' hK h fun e' a' w' k1 k2 k3=>hQ _ _ _ _ k1 k2 k3
  | true =>
   simp only [execK] at hK
   split at hK
   ·rename_i D l hl
    replace hK:=(forceE_eq _ _).symm.trans hK
    exact region_draw_wp C hz' hl hK h fun e' a' w' k1 k2 k3=>hQ _ _ _ _ k1 k2 k3
   ·cases hK
 | seq a b iha ihb =>
  intro hz
  have ha:=iha fun h hm=>hz h (List.mem_append_left _ hm)
  have hb:=ihb fun h hm=>hz h (List.mem_append_right _ hm)
  refine ⟨fun k e K r ac w Q hK h hQ=>wp_seq ?_,fun k l rest e K r ac w Q hf hK h hQ=>?_⟩
  ·exact ha.1 k e _ r ac w _ hK h fun x e' a' w' k1 k2 k3=>seq_then hC b hb hQ x e' a' w' k1 k2 k3
  ·simp only [findLabel] at hf
   simp only [fromK] at hK
   split at hf
   ·rename_i ra hra
    cases hf
    rw [hasLabel_find,hra] at hK
    exact wp_seq (ha.2 k l ra e _ r ac w _ hra hK h fun x e' a' w' k1 k2 k3=>seq_then hC b hb hQ x e' a' w' k1 k2 k3)
   ·rename_i hra
    rw [hasLabel_find,hra] at hK
    exact hb.2 k l rest e K r ac w Q hf hK h hQ
 | cond c a b iha ihb =>
  intro hz
  have ha:=iha fun h hm=>hz h (List.mem_append_left _ hm)
  have hb:=ihb fun h hm=>hz h (List.mem_append_right _ hm)
  refine ⟨fun k e K r ac w Q hK h hQ=>?_,fun k l rest e K r a w Q hf=>(by cases hf)⟩
  simp only [execK] at hK
  split at hK
  ·rename_i t ht
   have hc:ac.eval c=.bool t:=ev_s h ht
   cases t with
   | true=>exact wp_cond hc (ha.1 k e K r ac w Q hK h hQ)
   | false=>exact wp_cond hc (hb.1 k e K r ac w Q hK h hQ)
  ·cases hK
 | block id a iha =>
  intro hz
  have ha:=iha hz
  refine ⟨fun k e K r ac w Q hK h hQ=>wp_block ?_,fun k l rest e K r a w Q hf=>(by cases hf)⟩
  refine ha.1 k e _ r ac w _ hK h fun x e' a' w' k1 k2 k3=>?_
  cases x with
  | exit id' =>
   dsimp only at k1
   by_cases hid:id'=id
   ·subst hid
    simp only [beq_self_eq_true] at k1
    show Exit.inBlock id' Q (.exit id') a' w'
    simp only [Exit.inBlock,if_true]
    exact hQ _ _ _ _ k1 k2 k3
   ·have hid':(id'==id)=false:=by simpa using hid
    simp only [hid'] at k1
    show Exit.inBlock id Q (.exit id') a' w'
    simp only [Exit.inBlock,if_neg hid]
    exact hQ _ _ _ _ k1 k2 k3
  | normal=>exact hQ _ _ _ _ k1 k2 k3
  | goto l=>exact hQ _ _ _ _ k1 k2 k3
  | ret=>exact hQ _ _ _ _ k1 k2 k3
  | panic c=>exact hQ _ _ _ _ k1 k2 k3
  | outgrown=>exact hQ _ _ _ _ k1 k2 k3
 | loop a iha =>
  intro hz
  have ha:=iha hz
  refine ⟨fun k e K r ac w Q hK h hQ=>?_,fun k l rest e K r a w Q hf=>(by cases hf)⟩
  refine wp_loop_ghost (fun n a' w'=>∃ e',loopK Cut (fun e K=>execK P Γ nn Lv Cut k a e K) (Lv (1000000+hid (.loop a))) (1000000+hid (.loop a)) n e' K=some r∧Sim P base pb w0 w' e' a'.tmps∧Pin z ac a') k ⟨_,atCut_some hC hK,h.trimmed _,Pin.refl _ _⟩ ?_
  rintro n a1 w1 ⟨e1,h1,h2,h3⟩
  cases n with
  | zero=>cases h1
  | succ n =>
   simp only [loopK] at h1
   refine ha.1 k _ _ r a1 w1 _ h1 h2 fun x e' a' w' k1 k2 k3=>?_
   cases x with
   | normal=>exact ⟨n,Nat.lt_succ_self _,_,atCut_some hC k1,k2.trimmed _,h3.trans k3⟩
   | exit id=>exact hQ _ _ _ _ k1 k2 (h3.trans k3)
   | goto l=>exact hQ _ _ _ _ k1 k2 (h3.trans k3)
   | ret=>exact hQ _ _ _ _ k1 k2 (h3.trans k3)
   | panic c=>exact hQ _ _ _ _ k1 k2 (h3.trans k3)
   | outgrown=>exact hQ _ _ _ _ k1 k2 (h3.trans k3)
 | scope a iha =>
  intro hz
  have ha:=iha hz
  refine ⟨fun k e K r ac w Q hK h hQ=>?_,fun k l rest e K r a w Q hf=>(by cases hf)⟩
  simp only [execK] at hK
  have hand:∀ (j:Nat) (x:Exit) (e':Env) (a':Act) (w':World),handK Cut (fun l e K=>fromK P Γ nn Lv Cut k l a e K) (fun l=>hasLabel l a) K j x e'=some r→Sim P base pb w0 w' e' a'.tmps→Pin z ac a'→ScopeQ P a Q j x a' w':=by
   intro j
   induction j with
   | zero =>
    intro x e' a' w' k1 k2 k3
    cases x with
    | goto l =>
     simp only [handK] at k1
     split at k1
     ·rw [hC] at k1;cases k1
     ·rename_i hf
      rw [hasLabel_find] at hf
      exact ⟨by simpa using hf,hQ _ _ _ _ k1 k2 k3⟩
    | normal=>exact hQ _ _ _ _ k1 k2 k3
    | exit id=>exact hQ _ _ _ _ k1 k2 k3
    | ret=>exact hQ _ _ _ _ k1 k2 k3
    | panic c=>exact hQ _ _ _ _ k1 k2 k3
    | outgrown=>exact hQ _ _ _ _ k1 k2 k3
   | succ j ih =>
    intro x e' a' w' k1 k2 k3
    cases x with
    | goto l =>
     simp only [handK] at k1
     rw [hasLabel_find] at k1
     cases hf:findLabel a l with
     | some rest =>
      rw [hf] at k1
      simp only [Option.isSome_some] at k1
      replace k1:=(hC _ _ _).symm.trans k1
      have hst:∀ y e2,handK Cut (fun l e K=>fromK P Γ nn Lv Cut k l a e K) (fun l=>hasLabel l a) K j y e2=(match y with | .goto l'=>(match hasLabel l' a with | true=>Cut (3000000+l') e2 fun e=>againK Cut (fun l e K=>fromK P Γ nn Lv Cut k l a e K) (fun l=>hasLabel l a) K j l' e | false=>K (.goto l') e2) | x=>K x e2):=fun y e2=>by cases y<;>rfl
      simp only [againK] at k1
      exact .inl ⟨rest,hf,ha.2 k l rest _ _ r a' w' _ hf k1 k2 fun y e2 a2 w2 q1 q2 q3=>ih y e2 a2 w2 (by rw [hst];exact q1) q2 (k3.trans q3)⟩
     | none =>
      rw [hf] at k1
      exact .inr ⟨hf,hQ _ _ _ _ k1 k2 k3⟩
    | normal=>exact hQ _ _ _ _ k1 k2 k3
    | exit id=>exact hQ _ _ _ _ k1 k2 k3
    | ret=>exact hQ _ _ _ _ k1 k2 k3
    | panic c=>exact hQ _ _ _ _ k1 k2 k3
    | outgrown=>exact hQ _ _ _ _ k1 k2 k3
  exact wp_scope_n (ha.1 k e _ r ac w _ hK h fun x e' a' w' k1 k2 k3=>hand k x e' a' w' k1 k2 k3)
end Go.Proofs.YtffmgholjdfcnaaGreatDoor.AM
set_option linter.unusedSimpArgs false
namespace Go.Proofs.YtffmgholjdfcnaaGreatDoor.AM
open Go
variable {P:Program} {G:World→Prop} {ng:Nat} {base:Nat} {pb:Option Nat} {w0 w w':World} {e:Env} {a:Act} {Γ:Gam} {nn:Nat} {Lv:Nat→Option (List (Nat × Co))} {Cut:Nat→Env→(Env→Option Out)→Option Out}
structure Stays (P:Program) (G:World→Prop) (ng:Nat):Prop where
 stays:∀ w w',G w→(∀ b,b<ng→w'.heap[b]?=w.heap[b]?)→w'.os=w.os→w'.tape=w.tape→w'.output=w.output→w.heap.size≤w'.heap.size→G w'
 mixed:P.follows .mixedOrders=true
def resF (tmps:Array Value):ResultVar→Sem Value
 | .tmp t=>pure (tmps.getD t undef)
 | .cell a t=>do loadVar t (← asAddr (tmps.getD a undef))
theorem outC_rel (h:Sim P base pb w0 w e a.tmps) {rt:Nat} {rv:ResultVar} {c:C} (hc:outC P e rt rv=some c):∃ v,(resF a.tmps rv).run P w=.ok v w∧(∀ base' pb',RelC base' pb' w c v) ∧
  (∀ b,b ∈ blksC c v→∃ s ∈ outS e rv,b ∈ blks (e.getD s .u) (a.tmps.getD s undef)∧isSl (e.getD s .u)=true)∧(blksC c v).Nodup:=by
 cases rv with
 | tmp t =>
  have hr:=h.rel t
  simp only [outC] at hc
  split at hc
  ·rename_i ht
   split at hc
   ·rename_i el z hz
    cases hc
    rw [ht] at hr
    have hv:a.tmps.getD t undef=.slice none 0 0:=hr
    refine ⟨_,rfl,fun _ _=>.inl ⟨hv,xsOf_len _ _⟩,fun b hb=>?_,nodup_blkOf _⟩
    rw [hv] at hb;simp [blksC,blkOf,baseOf] at hb
   ·cases hc
  ·rename_i s _ ht
   cases hc;rw [ht] at hr
   exact ⟨_,rfl,fun _ _=>hr,fun b hb=>(by cases hb),by simp [blksC]⟩
  ·rename_i x ht
   cases hc;rw [ht] at hr
   exact ⟨_,rfl,fun _ _=>hr,fun b hb=>(by cases hb),by simp [blksC]⟩
  ·rename_i x ht
   cases hc;rw [ht] at hr
   refine ⟨_,rfl,fun _ _=>hr,fun b hb=>⟨t,by simp only [outS,ht,List.mem_singleton],by rw [ht];exact hb,by rw [ht];rfl⟩,nodup_blkOf _⟩
  ·rename_i s ht
   rw [ht] at hr
   split at hc
   ·rename_i x hs
    cases hc
    have hr':=h.rel s
    rw [hs] at hr'
    have hv:a.tmps.getD t undef=a.tmps.getD s undef:=hr.2
    refine ⟨_,rfl,fun _ _=>by rw [hv];exact hr',fun b hb=>⟨s,by simp only [outS,ht,List.mem_singleton],by rw [hs,← hv];exact hb,by rw [hs];rfl⟩,nodup_blkOf _⟩
   ·cases hc
  ·cases hc
 | cell ad t =>
  simp only [outC] at hc
  split at hc
  ·rename_i s hx
   split at hc
   ·rename_i T x hs hag
    split at hc
    ·rename_i hT
     have hT:T=t:=by simpa using hT
     subst hT
     cases hc
     have hv:=(rd_rel h ad).1
     rw [hx] at hv
     obtain ⟨-,A,g2,g3⟩:=hv
     have hr:=h.rel s
     rw [hs] at hr
     obtain ⟨b,k1,k2,k3⟩:=hr
     obtain ⟨h1,h2⟩:=isAggB_run hag w
     have h3:=cells_at h (s:=s) (x:=x) (by unfold contentB;rw [hs]) (lo:=0) (n:=x.len) (by omega) (A:=A) (fun _=>g2)
     refine ⟨.agg x.enc.toArray,?_,fun _ _=>rfl,fun b hb=>(by cases hb),by simp [blksC]⟩
     have hcut:x.cut 0 x.len=x:=by cases x<;>simp [Xs.cut,Xs.len]
     rw [hcut] at h3
     simp only [resF,g3,asAddr,Sem.run_bind,Sem.run_pure,Result.andThen_ok,loadVar,h1,if_true,h2,k3,Sem.run_ite,h3]
    ·cases hc
   ·cases hc
  ·cases hc
theorem outCs_rel (h:Sim P base pb w0 w e a.tmps):∀ {ts:List Nat} {rs:List ResultVar} {l:List C},outCs P e ts rs=some l→∃ vs:List Value,(rs.mapM (resF a.tmps)).run P w=.ok vs w∧vs.length=l.length∧(∀ base' pb',RelL base' pb' w l vs) ∧
  (∀ b,b ∈ blksL l vs→∃ s ∈ rs.flatMap (outS e),b ∈ blks (e.getD s .u) (a.tmps.getD s undef)∧isSl (e.getD s .u)=true)∧(apartB (rs.flatMap (outS e))=true→(blksL l vs).Nodup)
 | _,[],l,hc=>by
  have hl:l=[]:=by
   unfold outCs at hc
   cases ‹List Nat›<;>(simp at hc;exact hc)
  subst hl
  exact ⟨[],rfl,rfl,fun _ _=>.nil,fun b hb=>(by cases hb),fun _=>by simp [blksL]⟩
 | [],r :: rs,l,hc=>by cases hc
 | t :: ts,r :: rs,l,hc=>by
  simp only [outCs] at hc
  split at hc
  ·rename_i c cs h1 h2
   cases hc
   obtain ⟨v,k1,k2,k3,k4⟩:=outC_rel h h1
   obtain ⟨vs,g1,g0,g2,g3,g4⟩:=outCs_rel h h2
   refine ⟨v :: vs,?_,by simp [g0],fun b p=>.cons (k2 b p) (g2 b p),fun b hb=>?_,fun hap=>?_⟩
   ·rw [List.mapM_cons]
    simp only [Sem.run_bind,k1,Result.andThen_ok,g1,Sem.run_pure]
   ·simp only [blksL,List.mem_append] at hb
    simp only [List.flatMap_cons,List.mem_append]
    rcases hb with hb | hb
    ·obtain ⟨s,q1,q2⟩:=k3 b hb;exact ⟨s,.inl q1,q2⟩
    ·obtain ⟨s,q1,q2⟩:=g3 b hb;exact ⟨s,.inr q1,q2⟩
   ·have split2:∀ (A B:List Nat),apartB (A++B)=true→apartB B=true∧∀ x,x ∈ A→x ∉ B:=by
     intro A B
     induction A with
     | nil=>intro h;exact ⟨h,fun x hx=>by cases hx⟩
     | cons y A ih =>
      intro h
      simp only [List.cons_append,apartB,Bool.and_eq_true,Bool.not_eq_true'] at h
      obtain ⟨i1,i2⟩:=ih h.2
      refine ⟨i1,fun x hx=>?_⟩
      rcases List.mem_cons.1 hx with rfl | hx
      ·intro hb
       have:=h.1
       rw [List.contains_eq_mem] at this
       simp [hb] at this
      ·exact i2 x hx
    rw [List.flatMap_cons] at hap
    obtain ⟨a1,a2⟩:=split2 _ _ hap
    simp only [blksL]
    refine List.nodup_append.2 ⟨k4,g4 a1,fun x hx y hy hxy=>?_⟩
    subst hxy
    obtain ⟨s1,p1,p2,-⟩:=k3 x hx
    obtain ⟨s2,p3,p4,-⟩:=g3 x hy
    by_cases hss:s1=s2
    ·subst hss;exact a2 s1 p1 p3
    ·exact h.dist s1 s2 hss x p2 p4
  ·cases hc
theorem ofRes_rel {l:List C} {vs:List Value} (hlen:vs.length=l.length) (h:∀ base' pb',RelL base' pb' w l vs) :
  (∀ base' pb' e tm,RelV P base' pb' w e tm (ofRes l) (if h:vs.toArray.size=1 then vs.toArray[0] else .tuple vs.toArray)) ∧
  ((∀ b,b ∈ blks (ofRes l) (if h:vs.toArray.size=1 then vs.toArray[0] else .tuple vs.toArray)→b ∈ blksL l vs)∧((blksL l vs).Nodup→(blks (ofRes l) (if h:vs.toArray.size=1 then vs.toArray[0] else .tuple vs.toArray)).Nodup)):=by
 match l,vs,hlen with
 | [],[],_=>exact ⟨fun _ _ _ _=>trivial,fun b hb=>by simp [ofRes,blks] at hb,fun _=>by simp [ofRes,blks]⟩
 | [c],[v],_ =>
  refine ⟨fun b p e tm=>?_,fun b hb=>?_,fun hnd=>?_⟩
  ·have:=h b p
   cases this with
   | cons h1 _=>exact h1
  ·simpa [ofRes,blks,blksL] using hb
  ·simpa [ofRes,blks,blksL] using hnd
 | c :: c' :: l,v :: v' :: vs,hl =>
  have hne:¬ ((v :: v' :: vs).toArray.size=1):=by simp
  rw [dif_neg hne]
  exact ⟨fun b p e tm=>⟨_,rfl,h b p⟩,fun b hb=>by simpa [ofRes,blks] using hb,fun hnd=>by simpa [ofRes,blks] using hnd⟩
theorem RelL.length {l:List C} {vs:List Value} (h:RelL base pb w l vs):vs.length=l.length:=by
 induction h with
 | nil=>rfl
 | cons _ _ ih=>simp [ih]
theorem RelL.at {l:List C} {vs:List Value} (h:RelL base pb w l vs) (i:Nat):(l[i]?=none∧vs[i]?=none)∨∃ c v,l[i]?=some c∧vs[i]?=some v∧RelC base pb w c v:=by
 cases hi:l[i]? with
 | none =>
  refine .inl ⟨rfl,?_⟩
  rw [List.getElem?_eq_none_iff] at hi ⊢
  rw [h.length];exact hi
 | some c =>
  obtain ⟨v,h1,h2⟩:=h.get hi
  exact .inr ⟨c,v,rfl,h1,h2⟩
theorem start_sim {fn:Func} {rc:Option (Nat × Xs)} {as:List C} {rv vs:List Value} (hrc:RecvRel P ng w rc rv pb) (has:RelL w.heap.size pb w as vs) (hp:as.all plainC=true) :
  Sim P w.heap.size pb w w (startE fn rc as) ((rv++vs).toArray++Array.replicate (fn.ntmps - (rv++vs).toArray.size) undef):=by
 have hlen:=has.length
 have hpre:(preV rc).length=rv.length:=by
  cases rc with
  | none=>obtain ⟨rfl,-⟩:=hrc;rfl
  | some q=>obtain ⟨b,-,rfl,-⟩:=hrc;rfl
 have hcase:∀ i,(∃ T x b,i=0∧rc=some (T,x)∧pb=some b∧(startE fn rc as).getD i .u=.box T x∧((rv++vs).toArray++Array.replicate (fn.ntmps - (rv++vs).toArray.size) undef).getD i undef=.pointer (some ⟨b,0,none⟩)∧w.heap[b]?=some (.cells x.enc.toArray T (0,0))∧P.cellsOf T=x.len) ∨
   (∃ c v,(startE fn rc as).getD i .u=.c c∧plainC c=true∧((rv++vs).toArray++Array.replicate (fn.ntmps - (rv++vs).toArray.size) undef).getD i undef=v∧RelC w.heap.size pb w c v)∨(startE fn rc as).getD i .u=.u:=by
  intro i
  have hval:((rv++vs).toArray++Array.replicate (fn.ntmps - (rv++vs).toArray.size) undef).getD i undef=((rv++vs)[i]?).getD undef:=by
   rw [Array.getD_eq_getD_getElem?,Array.getElem?_append]
   split
   ·rw [List.getElem?_toArray]
   ·rename_i hi
    have h2:(rv++vs)[i]?=none:=by rw [List.getElem?_eq_none_iff];simpa using hi
    rw [h2,Array.getElem?_replicate]
    split<;>rfl
  have henv:(startE fn rc as).getD i .u=((preV rc++as.map argV)[i]?).getD .u:=by
   unfold startE
   rw [List.getD_eq_getElem?_getD,List.getElem?_append]
   split
   ·rfl
   ·rename_i hi
    have h2:(preV rc++as.map argV)[i]?=none:=by rw [List.getElem?_eq_none_iff];omega
    rw [h2,List.getElem?_replicate]
    split<;>rfl
  rw [hval,henv]
  by_cases hi:i<rv.length
  ·cases rc with
   | none=>obtain ⟨rfl,-⟩:=hrc;simp at hi
   | some q =>
    obtain ⟨T,x⟩:=q
    obtain ⟨b,rfl,rfl,h1,h2,-⟩:=hrc
    have h0:i=0:=by simpa using hi
    subst h0
    exact .inl ⟨T,x,b,rfl,rfl,rfl,rfl,rfl,h1,h2⟩
  ·rw [List.getElem?_append,List.getElem?_append,hpre,if_neg hi,if_neg hi,List.getElem?_map]
   rcases has.at (i - rv.length) with ⟨h1,h2⟩ | ⟨c,v,h1,h2,h3⟩
   ·rw [h1];exact .inr (.inr rfl)
   ·rw [h1,h2]
    exact .inr (.inl ⟨c,v,rfl,List.all_eq_true.1 hp c (List.mem_of_getElem? h1),rfl,h3⟩)
 have hblk:∀ i b,b ∈ blks ((startE fn rc as).getD i .u) (((rv++vs).toArray++Array.replicate (fn.ntmps - (rv++vs).toArray.size) undef).getD i undef)→i=0∧pb=some b∧b<w.heap.size:=by
  intro i b hb
  rcases hcase i with ⟨T,x,b',rfl,-,hpb,h1,h2,h3,-⟩ | ⟨c,v,h1,h2,h3,-⟩ | h1
  ·rw [h1,h2] at hb
   simp only [blks,blkOf,baseOf,List.mem_singleton] at hb
   subst hb
   exact ⟨rfl,hpb,lt_of_heap h3⟩
  ·rw [h1] at hb
   cases c<;>simp [blks,blksC,plainC] at hb h2
  ·rw [h1] at hb;simp [blks] at hb
 refine ⟨?_,fun i=>?_,fun i j hij b hi hj=>?_,fun i b hi=>?_,fun i=>?_,Keep.refl _ _ _,Nat.le_refl _⟩
 ·simp only [Array.size_append,List.size_toArray,List.length_append,Array.size_replicate,startE,List.length_map,List.length_replicate,hpre,hlen]
  omega
 ·rcases hcase i with ⟨T,x,b,-,-,-,h1,h2,h3,h4⟩ | ⟨c,v,h1,h2,h3,h4⟩ | h1
  ·rw [h1,h2];exact ⟨b,rfl,h3,h4⟩
  ·rw [h1,h3];exact h4
  ·rw [h1];trivial
 ·obtain ⟨rfl,-,-⟩:=hblk i b hi
  obtain ⟨rfl,-,-⟩:=hblk j b hj
  exact hij rfl
 ·obtain ⟨-,h1,h2⟩:=hblk i b hi
  exact ⟨h2,.inr h1⟩
 ·rcases hcase i with ⟨T,x,b',rfl,-,hpb,h1,h2,h3,-⟩ | ⟨c,v,h1,h2,h3,-⟩ | h1
  ·rw [h1,h2];simp [blks,blkOf,baseOf]
  ·rw [h1];cases c<;>simp [blks,blksC,plainC] at h2 ⊢
  ·rw [h1];simp [blks]
theorem callFunc_enter {g:Nat} {fn:Func} {c:Code} {args:Array Value} (hf:P.funcs[g]?=some fn) (hname:(fn.name == "runtime.NumGoroutine")=false) (hb:fn.body=some c):(callFunc g args).run P w=.ok (.enter g args) w:=by
 have h2:¬ fn.name = "runtime.NumGoroutine" := by simpa using hname
 simp [callFunc,hf,h2,hb]
theorem run_ok (S:Stays P G ng) (hC:∀ key e t,Cut key e t=t e) (hΓ:∀ g,FnOk P G ng Γ g) {g:Nat} {fn:Func} (hf:P.funcs[g]?=some fn) (hname:(fn.name == "runtime.NumGoroutine")=false) {k:Nat} {rc:Option (Nat × Xs)} {as:List C} {K:Out→Option Out} {r:Out} (hK:runK P Γ nn Lv Cut k fn rc as K=some r)
  {rv vs:List Value} (hG:G w) (hng:ng≤w.heap.size) (hrc:RecvRel P ng w rc rv pb) (has:RelL w.heap.size pb w as vs) (hp:as.all plainC=true) :
  CallOk P g (rv++vs).toArray w fun v w'=>∃ p,K p=some r∧RetRel P w w' rc pb p v:=by
 unfold runK at hK
 split at hK
 ·rename_i c hb
  have hpbn:∀ b,pb=some b→ng≤b:=by
   intro b hpb
   cases rc with
   | none=>obtain ⟨-,rfl⟩:=hrc;cases hpb
   | some q=>obtain ⟨b',rfl,-,-,-,h⟩:=hrc;cases hpb;exact h
  have Cx:Ctx P G ng w.heap.size pb w Γ:=⟨hΓ,fun w' hk=>S.stays w w' hG (fun b hb=>hk.old b (by omega) (fun hpb=>by have:=hpbn b hpb;omega)) hk.os hk.tape hk.output hk.size,⟨hng,hpbn⟩,S.mixed⟩
  have hst:=start_sim (fn:=fn) hrc has hp
  refine .inl ⟨callFunc_enter hf hname hb,?_⟩
  have main:∀ (z:Bool),(z=true→0 ∉ dsts c)→(z=rc.isSome)→execK P Γ nn Lv Cut k c (startE fn rc as) (fin P fn (rc.map Prod.fst) K)=some r→c.wp P (bodyPost P fn fun | .returned v,w'=>∃ p,K p=some r∧RetRel P w w' rc pb p v | _,_=>False) { tmps:=(rv++vs).toArray++Array.replicate (fn.ntmps - (rv++vs).toArray.size) undef,defers:=[] } w:=by
   intro z hz hzr hK
   refine (code_ok Cx hC (z:=z) c hz).1 k _ _ r _ w _ hK hst fun x e' a' w' k1 k2 k3=>?_
   have fin0:∀ l o,apartB (fn.results.toList.flatMap (outS e'))=true→outCs P e' fn.resultTypes.toList fn.results.toList=some l→K (l,o)=some r→BackRel w' rc o pb→(∀ b,pb=some b→∀ s,isSl (e'.getD s .u)=true→b ∉ blks (e'.getD s .u) (a'.tmps.getD s undef)) →
     a'.defers=[]∧∃ v,(results fn a'.tmps).run P w'=.ok v w'∧∃ p,K p=some r∧RetRel P w w' rc pb p v:=by
    intro l ob hap hl hKl hback hnb
    obtain ⟨vs',g1,g0,g2,g3,g4⟩:=outCs_rel k2 hl
    obtain ⟨o1,o2,o3⟩:=ofRes_rel (P:=P) g0 g2
    refine ⟨k3.1,_,?_,(l,ob),hKl,k2.keep,o1,fun b hb=>?_,o3 (g4 hap),hback⟩
    ·have hres:results fn a'.tmps=(do let vs ← fn.results.mapM (resF a'.tmps);pure (if h:vs.size=1 then vs[0] else .tuple vs)):=rfl
     rw [hres,Array.mapM_eq_mapM_toList]
     simp only [map_eq_pure_bind,Sem.run_bind,g1,Result.andThen_ok,Sem.run_pure]
    ·obtain ⟨s,-,q1,q2⟩:=g3 b (o2 b hb)
     obtain ⟨q3,q4⟩:=k2.own s b q1
     refine ⟨?_,q3⟩
     rcases q4 with q4 | q4
     ·exact q4
     ·exact absurd q1 (hnb b q4 s q2)
   have both:(match apartB (fn.results.toList.flatMap (outS e')),outCs P e' fn.resultTypes.toList fn.results.toList,rc.map Prod.fst,e'.getD 0 .u with
     | true,some l,some T,.box T' x=>(match T==T' with | true=>K (l,some x) | false=>none)
     | true,some l,none,_=>K (l,none)
     | _,_,_,_=>none)=some r→a'.defers=[]∧∃ v,(results fn a'.tmps).run P w'=.ok v w'∧∃ p,K p=some r∧RetRel P w w' rc pb p v:=by
    intro hm
    split at hm
    ·rename_i l T T' y hap hl hT hbox
     split at hm
     ·rename_i hTT
      have hTT:T=T':=by simpa using hTT
      subst hTT
      cases rc with
      | none=>cases hT
      | some q =>
       obtain ⟨T0,x0⟩:=q
       cases hT
       obtain ⟨b,rfl,rfl,h1,h2,-⟩:=hrc
       have hr:=k2.rel 0
       rw [hbox] at hr
       obtain ⟨b',p1,p2,p3⟩:=hr
       have hpin:=k3.2 (by rw [hzr];rfl)
       have hb0:a'.tmps.getD 0 undef=.pointer (some ⟨b,0,none⟩):=by
        rw [hpin]
        show (([Value.pointer (some ⟨b,0,none⟩)]++vs).toArray++_).getD 0 undef=_
        rw [Array.getD_eq_getD_getElem?,Array.getElem?_append,if_pos (by simp)]
        rfl
       rw [hb0] at p1
       cases p1
       refine fin0 l (some y) hap hl hm ⟨by dsimp only at p3 h2;omega,b,rfl,p2⟩ ?_
       intro b1 hb1 s hs hm'
       cases hb1
       have hs0:(0:Nat) ≠ s:=by rintro rfl;rw [hbox] at hs;cases hs
       exact k2.dist 0 s hs0 b (by rw [hbox,hb0];simp [blks,blkOf,baseOf]) hm'
     ·cases hm
    ·rename_i l hap hl hT
     cases rc with
     | none =>
      obtain ⟨rfl,rfl⟩:=hrc
      exact fin0 l none hap hl hm trivial (fun b hb=>by cases hb)
     | some q=>cases hT
    ·cases hm
   cases x with
   | normal=>exact both k1
   | ret=>exact both k1
   | _=>cases k1
  cases rc with
  | none=>exact calls_of_wp hf hb (main false (fun h=>by cases h) rfl hK)
  | some q =>
   dsimp only at hK
   split at hK
   ·cases hK
   ·rename_i hd
    exact calls_of_wp hf hb (main true (fun _ hm=>by rw [List.contains_eq_mem] at hd;simp [hm] at hd) rfl hK)
 ·cases hK
theorem start_simO {fn:Func} {x:Xs} {as:List C} {v:Value} {vs:List Value} {b:Nat} (hor:OwnRel w x v) (hvb:∀ k,k ∈ blkOf v→k=b) (hbl:b<w.heap.size) (has:RelL w.heap.size (some b) w as vs) (hp:as.all plainC=true) :
  Sim P w.heap.size (some b) w w (startE fn none (.own x :: as)) ((v :: vs).toArray++Array.replicate (fn.ntmps - (v :: vs).toArray.size) undef):=by
 have hlen:=has.length
 have hcase:∀ i,(i=0∧(startE fn none (.own x :: as)).getD i .u=.c (.own x)∧((v :: vs).toArray++Array.replicate (fn.ntmps - (v :: vs).toArray.size) undef).getD i undef=v) ∨
   (∃ c u,(startE fn none (.own x :: as)).getD i .u=.c c∧plainC c=true∧((v :: vs).toArray++Array.replicate (fn.ntmps - (v :: vs).toArray.size) undef).getD i undef=u∧RelC w.heap.size (some b) w c u)∨(startE fn none (.own x :: as)).getD i .u=.u:=by
  intro i
  have hval:((v :: vs).toArray++Array.replicate (fn.ntmps - (v :: vs).toArray.size) undef).getD i undef=((v :: vs)[i]?).getD undef:=by
   rw [Array.getD_eq_getD_getElem?,Array.getElem?_append]
   split
   ·rw [List.getElem?_toArray]
   ·rename_i hi
    have h2:(v :: vs)[i]?=none:=by rw [List.getElem?_eq_none_iff];simpa using hi
    rw [h2,Array.getElem?_replicate]
    split<;>rfl
  have henv:(startE fn none (.own x :: as)).getD i .u=(((.own x :: as).map argV)[i]?).getD .u:=by
   unfold startE
   rw [List.getD_eq_getElem?_getD,List.getElem?_append]
   split
   ·rfl
   ·rename_i hi
    have h2:((.own x :: as).map argV)[i]?=none:=by rw [List.getElem?_eq_none_iff];simpa [preV] using hi
    rw [h2,List.getElem?_replicate]
    split<;>rfl
  rw [hval,henv]
  cases i with
  | zero=>exact .inl ⟨rfl,rfl,rfl⟩
  | succ i =>
   rw [List.map_cons,List.getElem?_cons_succ,List.getElem?_cons_succ,List.getElem?_map]
   rcases has.at i with ⟨h1,h2⟩ | ⟨c,u,h1,h2,h3⟩
   ·rw [h1];exact .inr (.inr rfl)
   ·rw [h1,h2]
    exact .inr (.inl ⟨c,u,rfl,List.all_eq_true.1 hp c (List.mem_of_getElem? h1),rfl,h3⟩)
 have hblk:∀ i k,k ∈ blks ((startE fn none (.own x :: as)).getD i .u) (((v :: vs).toArray++Array.replicate (fn.ntmps - (v :: vs).toArray.size) undef).getD i undef)→i=0∧k=b:=by
  intro i k hk
  rcases hcase i with ⟨rfl,h1,h2⟩ | ⟨c,u,h1,h2,h3,-⟩ | h1
  ·rw [h1,h2] at hk
   exact ⟨rfl,hvb k hk⟩
  ·rw [h1] at hk
   cases c<;>simp [blks,blksC,plainC] at hk h2
  ·rw [h1] at hk;simp [blks] at hk
 refine ⟨?_,fun i=>?_,fun i j hij k hi hj=>?_,fun i k hi=>?_,fun i=>?_,Keep.refl _ _ _,Nat.le_refl _⟩
 ·simp only [Array.size_append,List.size_toArray,List.length_append,Array.size_replicate,startE,List.length_map,List.length_replicate,preV,List.length_cons,List.length_nil,hlen]
  omega
 ·rcases hcase i with ⟨rfl,h1,h2⟩ | ⟨c,u,h1,h2,h3,h4⟩ | h1
  ·rw [h1,h2];exact hor
  ·rw [h1,h3];exact h4
  ·rw [h1];trivial
 ·obtain ⟨rfl,-⟩:=hblk i k hi
  obtain ⟨rfl,-⟩:=hblk j k hj
  exact hij rfl
 ·obtain ⟨-,rfl⟩:=hblk i k hi
  exact ⟨hbl,.inr rfl⟩
 ·rcases hcase i with ⟨rfl,h1,h2⟩ | ⟨c,u,h1,h2,h3,-⟩ | h1
  ·rw [h1,h2];exact nodup_blkOf _
  ·rw [h1];cases c<;>simp [blks,blksC,plainC] at h2 ⊢
  ·rw [h1];simp [blks]
theorem run_okO (S:Stays P G ng) (hC:∀ key e t,Cut key e t=t e) (hΓ:∀ g,FnOk P G ng Γ g) {g:Nat} {fn:Func} (hf:P.funcs[g]?=some fn) (hname:(fn.name == "runtime.NumGoroutine")=false) {k:Nat} {x:Xs} {as:List C} {K:Out→Option Out} {r:Out} (hK:runK P Γ nn Lv Cut k fn none (.own x :: as) K=some r)
  {v:Value} {vs:List Value} {b:Nat} (hG:G w) (hng:ng≤w.heap.size) (hor:OwnRel w x v) (hvb:∀ k,k ∈ blkOf v→k=b) (hbl:b<w.heap.size) (hnb:ng≤b) (has:RelL w.heap.size (some b) w as vs) (hp:as.all plainC=true) :
  CallOk P g (v :: vs).toArray w fun v' w'=>∃ p,K p=some r∧OwnRet P w w' x.len b p v':=by
 unfold runK at hK
 split at hK
 ·rename_i c hb
  dsimp only at hK
  have hpbn:∀ k,(some b:Option Nat)=some k→ng≤k:=by intro k hk;cases hk;exact hnb
  have Cx:Ctx P G ng w.heap.size (some b) w Γ:=⟨hΓ,fun w' hk=>S.stays w w' hG (fun k hb=>hk.old k (by omega) (fun hpb=>by have:=hpbn k hpb;omega)) hk.os hk.tape hk.output hk.size,⟨hng,hpbn⟩,S.mixed⟩
  have hst:=start_simO (P:=P) (fn:=fn) hor hvb hbl has hp
  refine .inl ⟨callFunc_enter hf hname hb,?_⟩
  have main:c.wp P (bodyPost P fn fun | .returned v',w'=>∃ p,K p=some r∧OwnRet P w w' x.len b p v' | _,_=>False) { tmps:=(v :: vs).toArray++Array.replicate (fn.ntmps - (v :: vs).toArray.size) undef,defers:=[] } w:=by
   refine (code_ok Cx hC (z:=false) c (fun h=>by cases h)).1 k _ _ r _ w _ hK hst fun ex e' a' w' k1 k2 k3=>?_
   have fin0:∀ l,apartB (fn.results.toList.flatMap (outS e'))=true→outCs P e' fn.resultTypes.toList fn.results.toList=some l→K (l,none)=some r →
     a'.defers=[]∧∃ v',(results fn a'.tmps).run P w'=.ok v' w'∧∃ p,K p=some r∧OwnRet P w w' x.len b p v':=by
    intro l hap hl hKl
    obtain ⟨vs',g1,g0,g2,g3,g4⟩:=outCs_rel k2 hl
    obtain ⟨o1,o2,o3⟩:=ofRes_rel (P:=P) g0 g2
    refine ⟨k3.1,_,?_,(l,none),hKl,k2.keep,o1,fun k hk=>?_,o3 (g4 hap),trivial⟩
    ·have hres:results fn a'.tmps=(do let vs ← fn.results.mapM (resF a'.tmps);pure (if h:vs.size=1 then vs[0] else .tuple vs)):=rfl
     rw [hres,Array.mapM_eq_mapM_toList]
     simp only [map_eq_pure_bind,Sem.run_bind,g1,Result.andThen_ok,Sem.run_pure]
    ·obtain ⟨s,-,q1,q2⟩:=g3 k (o2 k hk)
     obtain ⟨q3,q4⟩:=k2.own s k q1
     refine ⟨?_,q3⟩
     rcases q4 with q4 | q4
     ·exact .inr q4
     ·cases q4;exact .inl ⟨rfl,rfl⟩
   have both:(match apartB (fn.results.toList.flatMap (outS e')),outCs P e' fn.resultTypes.toList fn.results.toList,(none:Option Nat),e'.getD 0 .u with
     | true,some l,some T,.box T' x=>(match T==T' with | true=>K (l,some x) | false=>none)
     | true,some l,none,_=>K (l,none)
     | _,_,_,_=>none)=some r→a'.defers=[]∧∃ v',(results fn a'.tmps).run P w'=.ok v' w'∧∃ p,K p=some r∧OwnRet P w w' x.len b p v':=by
    intro hm
    split at hm
    ·rename_i hT _;cases hT
    ·rename_i l hap hl _
     exact fin0 l hap hl hm
    ·cases hm
   cases ex with
   | normal=>exact both k1
   | ret=>exact both k1
   | _=>cases k1
  exact calls_of_wp hf hb main
 ·cases hK
end Go.Proofs.YtffmgholjdfcnaaGreatDoor.AM
namespace Go.Proofs.YtffmgholjdfcnaaGreatDoor.AM
open Go
abbrev Fn1:=Option (Nat × Xs)→List C→(Out→Option Out)→Option Out
def FnIs (P:Program) (G:World→Prop) (ng g:Nat) (A:Fn1):Prop:=∀ rc cs K r,A rc cs K=some r→∀ w rv pb vs,G w→ng≤w.heap.size→RecvRel P ng w rc rv pb→RelL w.heap.size pb w cs vs→cs.all plainC=true →
 CallOk P g (rv++vs).toArray w fun v w'=>∃ p,K p=some r∧RetRel P w w' rc pb p v
def lookP:List (Nat × Fn1)→Gam
 | [],_=>fun _ _ _=>none
 | (h,A) :: l,g=>match Nat.beq h g with | true=>A | false=>lookP l g
def lookO (lo l:List (Nat × Fn1)):Gam:=fun g rc cs K=>match cs with
 | .own x :: cs=>lookP lo g rc (.own x :: cs) K
 | cs=>lookP l g rc cs K
abbrev lookG (l:List (Nat × Fn1)):Gam:=lookO [] l
def OwnIs (P:Program) (G:World→Prop) (ng g:Nat) (A:Fn1):Prop:=∀ x cs K r,A none (.own x :: cs) K=some r→∀ w v b vs,G w→ng≤w.heap.size→OwnRel w x v→(∀ k,k ∈ blkOf v→k=b)→b<w.heap.size→ng≤b→RelL w.heap.size (some b) w cs vs→cs.all plainC=true →
 CallOk P g (v :: vs).toArray w fun v' w'=>∃ p,K p=some r∧OwnRet P w w' x.len b p v'
theorem lookP_ok {P:Program} {G:World→Prop} {ng:Nat}:∀ {l:List (Nat × Fn1)},(∀ p,p ∈ l→FnIs P G ng p.1 p.2)→∀ g,FnIs P G ng g (lookP l g)
 | [],_,g=>fun rc cs K r h=>by cases h
 | (h,A) :: l,hl,g=>by
  intro rc cs K r hK
  unfold lookP at hK
  cases hb:Nat.beq h g with
  | true =>
   rw [hb] at hK
   have:h=g:=Nat.eq_of_beq_eq_true hb
   subst this
   exact hl (h,A) (by simp) rc cs K r hK
  | false =>
   rw [hb] at hK
   exact lookP_ok (fun p hp=>hl p (by simp [hp])) g rc cs K r hK
theorem lookP_own {P:Program} {G:World→Prop} {ng:Nat}:∀ {l:List (Nat × Fn1)},(∀ p,p ∈ l→OwnIs P G ng p.1 p.2)→∀ g,OwnIs P G ng g (lookP l g)
 | [],_,g=>fun x cs K r h=>by cases h
 | (h,A) :: l,hl,g=>by
  intro x cs K r hK
  unfold lookP at hK
  cases hb:Nat.beq h g with
  | true =>
   rw [hb] at hK
   have:h=g:=Nat.eq_of_beq_eq_true hb
   subst this
   exact hl (h,A) (by simp) x cs K r hK
  | false =>
   rw [hb] at hK
   exact lookP_own (fun p hp=>hl p (by simp [hp])) g x cs K r hK
theorem lookO_ok {P:Program} {G:World→Prop} {ng:Nat} {lo l:List (Nat × Fn1)} (ho:∀ p,p ∈ lo→OwnIs P G ng p.1 p.2) (hl:∀ p,p ∈ l→FnIs P G ng p.1 p.2) (g:Nat):FnOk P G ng (lookO lo l) g:=by
 refine ⟨fun rc cs K r hK w rv pb vs hG hng hrc has hp=>?_,fun x cs K r hK=>lookP_own ho g x cs K r hK⟩
 unfold lookO at hK
 split at hK
 ·simp [plainC] at hp
 ·exact lookP_ok hl g rc cs K r hK w rv pb vs hG hng hrc has hp
theorem spec_runO {P:Program} {G:World→Prop} {ng nn:Nat} {Lv:Nat→Option (List (Nat × Co))} {Cut:Nat→Env→(Env→Option Out)→Option Out} (hC:∀ key e t,Cut key e t=t e) (S:Stays P G ng) {lo l:List (Nat × Fn1)} (ho:∀ p,p ∈ lo→OwnIs P G ng p.1 p.2) (hl:∀ p,p ∈ l→FnIs P G ng p.1 p.2) {g:Nat} {fn:Func} (hf:P.funcs[g]?=some fn) (hname:(fn.name == "runtime.NumGoroutine")=false) {k:Nat} {A:Fn1}
  (hA:∀ rc cs K r,A rc cs K=some r→∃ K',runK P (lookO lo l) nn Lv Cut k fn rc cs K'=some r∧∀ p,K' p=some r→K p=some r):FnIs P G ng g A:=by
 intro rc cs K r h w rv pb vs hG hng hrc has hp
 obtain ⟨K',h1,h2⟩:=hA rc cs K r h
 have:=run_ok S hC (lookO_ok ho hl) hf hname h1 hG hng hrc has hp
 rcases this with ⟨q1,q2⟩ | ⟨v,w',q1,p,q2,q3⟩
 ·refine .inl ⟨q1,Calls.mono q2 fun e w' he=>?_⟩
  cases e with
  | returned v=>obtain ⟨p,q3,q4⟩:=he;exact ⟨p,h2 p q3,q4⟩
  | panicked c=>exact he
  | outgrown=>exact he
 ·exact .inr ⟨v,w',q1,p,h2 p q2,q3⟩
theorem spec_run {P:Program} {G:World→Prop} {ng nn:Nat} {Lv:Nat→Option (List (Nat × Co))} {Cut:Nat→Env→(Env→Option Out)→Option Out} (hC:∀ key e t,Cut key e t=t e) (S:Stays P G ng) {l:List (Nat × Fn1)} (hl:∀ p,p ∈ l→FnIs P G ng p.1 p.2) {g:Nat} {fn:Func} (hf:P.funcs[g]?=some fn) (hname:(fn.name == "runtime.NumGoroutine")=false) {k:Nat} {A:Fn1}
  (hA:∀ rc cs K r,A rc cs K=some r→∃ K',runK P (lookG l) nn Lv Cut k fn rc cs K'=some r∧∀ p,K' p=some r→K p=some r):FnIs P G ng g A:=
 spec_runO hC S (lo:=[]) (by intro p h;cases h) hl hf hname hA
theorem spec_own {P:Program} {G:World→Prop} {ng nn:Nat} {Lv:Nat→Option (List (Nat × Co))} {Cut:Nat→Env→(Env→Option Out)→Option Out} (hC:∀ key e t,Cut key e t=t e) (S:Stays P G ng) {lo l:List (Nat × Fn1)} (ho:∀ p,p ∈ lo→OwnIs P G ng p.1 p.2) (hl:∀ p,p ∈ l→FnIs P G ng p.1 p.2) {g:Nat} {fn:Func} (hf:P.funcs[g]?=some fn) (hname:(fn.name == "runtime.NumGoroutine")=false) {k:Nat} {A:Fn1}
  (hA:∀ rc cs K r,rc=none→(∃ x l,cs=.own x :: l)→A rc cs K=some r→∃ K',runK P (lookO lo l) nn Lv Cut k fn rc cs K'=some r∧∀ p,K' p=some r→K p=some r):OwnIs P G ng g A:=by
 intro x cs K r h w v b vs hG hng hor hvb hbl hnb has hp
 obtain ⟨K',h1,h2⟩:=hA none (.own x :: cs) K r rfl ⟨x,cs,rfl⟩ h
 have:=run_okO S hC (lookO_ok ho hl) hf hname h1 hG hng hor hvb hbl hnb has hp
 rcases this with ⟨q1,q2⟩ | ⟨v',w',q1,p,q2,q3⟩
 ·refine .inl ⟨q1,Calls.mono q2 fun e w' he=>?_⟩
  cases e with
  | returned v'=>obtain ⟨p,q3,q4⟩:=he;exact ⟨p,h2 p q3,q4⟩
  | panicked c=>exact he
  | outgrown=>exact he
 ·exact .inr ⟨v',w',q1,p,h2 p q2,q3⟩
def cut0:Nat→Env→(Env→Option Out)→Option Out:=fun _ e t=>t e
theorem cut0_eq (key:Nat) (e:Env) (t:Env→Option Out):cut0 key e t=t e:=rfl
def big:Nat:=2 ^ 70
def nrm:List (Option C)→List C→List C
 | some d :: ks,.s .nils :: cs=>d :: nrm ks cs
 | _ :: ks,c :: cs=>c :: nrm ks cs
 | _,cs=>cs
def emptyRo:C→Bool
 | .ro x=>x.len==0
 | _=>false
theorem nrm_plain:∀ (ks:List (Option C)) (cs:List C),(∀ d,some d ∈ ks→emptyRo d=true)→cs.all plainC=true→(nrm ks cs).all plainC=true
 | [],cs,_,h=>by cases cs<;>exact h
 | k :: ks,[],_,_=>by cases k<;>rfl
 | k :: ks,c :: cs,hd,h=>by
  rw [List.all_cons,Bool.and_eq_true] at h
  have ih:=nrm_plain ks cs (fun d hm=>hd d (by simp [hm])) h.2
  unfold nrm
  split
  ·rename_i d ks' cs' e1 e2
   cases e1;cases e2
   have:=hd d (by simp)
   rw [List.all_cons,Bool.and_eq_true]
   refine ⟨?_,ih⟩
   unfold emptyRo at this
   split at this
   ·rfl
   ·cases this
  ·rename_i e1 e2
   cases e1;cases e2
   rw [List.all_cons,Bool.and_eq_true]
   exact ⟨h.1,ih⟩
  ·exact (by rw [List.all_cons,Bool.and_eq_true];exact h)
theorem nrm_rel {base:Nat} {pb:Option Nat} {w:World}:∀ (ks:List (Option C)) (cs:List C) (vs:List Value),(∀ d,some d ∈ ks→emptyRo d=true)→RelL base pb w cs vs→RelL base pb w (nrm ks cs) vs
 | [],cs,_,_,h=>by cases cs<;>exact h
 | k :: ks,[],_,_,h=>by cases k<;>exact h
 | k :: ks,c :: cs,_,hd,.cons h1 h2=>by
  have ih:=nrm_rel ks cs _ (fun d hm=>hd d (by simp [hm])) h2
  unfold nrm
  split
  ·rename_i d ks' cs' e1 e2
   cases e1;cases e2
   have:=hd d (by simp)
   refine .cons ?_ ih
   unfold emptyRo at this
   split at this
   ·rename_i x
    have hx:x.len=0:=by simpa using this
    have h1:_=Value.slice none 0 0:=h1
    refine ⟨none,0,by rw [h1,hx],by omega,fun i hi=>by omega⟩
   ·cases this
  ·rename_i e1 e2
   cases e1;cases e2
   exact .cons h1 ih
  ·exact .cons h1 h2
theorem FnIs.norm {P:Program} {G:World→Prop} {ng g:Nat} {A:Fn1} (h:FnIs P G ng g A) {ks:List (Option C)} (hd:(ks.all fun k=>match k with | some d=>emptyRo d | none=>true)=true):FnIs P G ng g (fun rc cs K=>A rc (nrm ks cs) K):=by
 have hd':∀ d,some d ∈ ks→emptyRo d=true:=fun d hm=>by have:=List.all_eq_true.1 hd (some d) hm;exact this
 intro rc cs K r hA w rv pb vs hG hng hrc has hp
 exact h rc (nrm ks cs) K r hA w rv pb vs hG hng hrc (nrm_rel ks cs vs hd' has) (nrm_plain ks cs hd' hp)
def us (n:Nat):Env:=List.replicate n .u
abbrev BY:=List UInt8
end Go.Proofs.YtffmgholjdfcnaaGreatDoor.AM
namespace Go.Proofs.YtffmgholjdfcnaaGreatDoor.AM
open Go Go.RowKit
theorem callOk_of {P:Program} {g:Nat} {args:Array Value} {w:World} {v:Value} {R:Value→World→Prop} (hb:(callFunc g args).run P w=.ok (.enter g args) w)
  (h:Calls P g args w fun e w'=>e=.returned v∧Ext w w') (hR:∀ w',Ext w w'→R v w'):CallOk P g args w R:=by
 refine .inl ⟨hb,Calls.mono h fun e w' he=>?_⟩
 obtain ⟨rfl,hE⟩:=he
 exact hR w' hE
theorem ret1 {P:Program} {w w':World} {pb:Option Nat} (hE:Ext w w') {c:C} {v:Value} (hc:∀ base pb,RelC base pb w' c v) (hb:blksC c v=[]) (hpb:pb=none):RetRel P w w' none pb ([c],none) v:=by
 subst hpb
 refine ⟨hE,fun base pb e tm=>hc base pb,?_,?_,trivial⟩
 ·intro b hm
  have:blks (ofRes [c]) v=[]:=hb
  rw [this] at hm;cases hm
 ·have:blks (ofRes [c]) v=[]:=hb
  rw [this];simp
theorem ext_below {w w':World} (h:Below w.heap.size w w'):Ext w w':=⟨h.os,h.tape,h.output,h.size,fun b hb _=>h.block b hb⟩
theorem ext_grow {w:World} {k:Nat} {os:Array Obj}:Ext w (Go.Sort.grow (w.drewN k) os):=
 ⟨rfl,rfl,rfl,by simp [Go.Sort.grow,World.drewN],fun b hb _=>by simp only [Go.Sort.grow,World.drewN];rw [Array.getElem?_append,if_pos hb]⟩
theorem relL_plain {base:Nat} {pb:Option Nat} {w:World}:∀ {ss:List S} {vs:List Value},RelL base pb w (ss.map C.s) vs→vs=ss.map S.enc
 | [],_,h=>by cases h;rfl
 | s :: ss,_,h=>by
  cases h with
  | cons h1 h2=>rw [List.map_cons,relL_plain h2];congr 1
theorem fnIs_lib {P:Program} {G:World→Prop} {ng g:Nat} {fn:Func} {c:Code} (hf:P.funcs[g]?=some fn) (hname:(fn.name == "runtime.NumGoroutine")=false) (hb:fn.body=some c) {A:Fn1}
  (h:∀ rc cs K r,A rc cs K=some r→rc=none∧∃ ss:List S,cs=ss.map C.s∧∃ s:S,K ([.s s],none)=some r ∧
   ∀ w,G w→Calls P g (ss.map S.enc).toArray w fun e w'=>e=.returned s.enc∧Ext w w'):FnIs P G ng g A:=by
 intro rc cs K r hA w rv pb vs hG hng hrc has hp
 obtain ⟨rfl,ss,rfl,s,hK,hC⟩:=h rc cs K r hA
 obtain ⟨rfl,rfl⟩:=hrc
 have:=relL_plain has
 subst this
 refine callOk_of (callFunc_enter hf hname hb) (by simpa using hC w hG) fun w' hE=>⟨_,hK,?_⟩
 exact ret1 hE (fun base pb=>by cases s<;>rfl) (by cases s<;>rfl) rfl
theorem Ext.below {w w':World} (h:Ext w w'):Below w.heap.size w w':=⟨h.os,h.tape,h.output,h.size,fun _ hb=>h.at hb⟩
theorem calls_law {P:Program} {G:World→Prop} {ng g:Nat} {A:Fn1} (hF:FnIs P G ng g A) {fn:Func} {c:Code} (hf:P.funcs[g]?=some fn) (hname:(fn.name == "runtime.NumGoroutine")=false) (hb:fn.body=some c)
  {cs:List C} (hA:A none cs some=some ([.s (.bool true)],none)) {w:World} {vs:List Value} (hG:G w) (hng:ng≤w.heap.size) (hr:RelL w.heap.size none w cs vs) (hp:cs.all plainC=true) :
  Calls P g vs.toArray w fun e w'=>e=.returned (.bool true)∧Below w.heap.size w w':=by
 have h:=hF none cs some _ hA w [] none vs hG hng ⟨rfl,rfl⟩ hr hp
 rcases h with ⟨-,q2⟩ | ⟨v,w',q1,-⟩
 ·refine Calls.mono (show Calls P g vs.toArray w _ from q2) fun e w' he=>?_
  cases e with
  | returned v =>
   obtain ⟨p,hp,hret⟩:=he
   cases hp
   have h1:=hret.1
   have h3:v=.bool true:=hret.2.1 0 none [] #[]
   exact ⟨by rw [h3],Ext.below h1⟩
  | panicked c=>exact he.elim
  | outgrown=>exact he.elim
 ·have h2:=callFunc_enter (w:=w) (args:=vs.toArray) hf hname hb
  have q1':(callFunc g vs.toArray).run P w=.ok (.value v) w':=q1
  rw [h2] at q1'
  cases q1'
end Go.Proofs.YtffmgholjdfcnaaGreatDoor.AM
