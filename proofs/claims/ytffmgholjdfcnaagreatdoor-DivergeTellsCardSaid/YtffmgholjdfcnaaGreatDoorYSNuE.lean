import Derived.Test.YtffmgholjdfcnaaGreatDoorYSNuD
namespace Go.Proofs.YtffmgholjdfcnaaGreatDoor.Nu
open Go St
def hexV (c d:Int):Int:=if 48≤c∧c≤57 then c - 48 else if 97≤c∧c≤102 then c - 87 else if 65≤c∧c≤70 then c - 55 else d
def hexD (c:UInt8):Int:=hexV (c.toNat:Int) 99
def stepMax:Int:=1099511627776
def inStep (n:Int):Bool:=decide (0≤n)&&decide (n≤stepMax)
def mulAddG (a:B) (m k:Int):B:=match good a&&!(a.head?==some 45)&&inStep m&&inStep k with
 | true=>mulAdd a m k
 | false=>[]
def baseGo (b:Int):B→B→B
 | acc,[]=>acc
 | acc,c :: l=>match decide (hexD c ≥ b) with
  | true=>[]
  | false=>baseGo b (mulAdd acc b (hexD c)) l
def baseN (s:B) (b:Int):B:=match (b==2 || b==8 || b==16)&&!(s==[]) with
 | true=>baseGo b [48] s
 | false=>[]
def cmpD (a b:B):Int:=if a.length<b.length then -1 else if b.length<a.length then 1 else Lib.compareBytes a b
def subF:B→B→B × Int
 | c :: a,d :: b=>match decide (dv c - (subF a b).2 - dv d<0) with
  | true=>(dc (dv c - (subF a b).2 - dv d+10) :: (subF a b).1,1)
  | false=>(dc (dv c - (subF a b).2 - dv d) :: (subF a b).1,0)
 | _,_=>([],0)
def padD (n:Nat) (b:B):B:=List.replicate (n - b.length) 48++b
def lessD (a b:B):B:=(subF a (padD a.length b)).1
def addS (neg:Bool) (d:B) (m:Int):B:=match decide (0≤m) with
 | true=>norm neg (mulAdd d 1 m)
 | false=>match decide (cmpD d (Lib.itoa (-m))<0) with
  | true=>norm (!neg) (lessD (Lib.itoa (-m)) d)
  | false=>norm neg (lessD d (Lib.itoa (-m)))
def negIf (neg:Bool) (n:Int):Int:=match neg with | true=>-n | false=>n
def addN (a:B) (n:Int):B:=match good a&&decide (-stepMax≤n)&&decide (n≤stepMax) with
 | false=>[]
 | true=>addS (bare a).1 (bare a).2 (negIf (bare a).1 n)
structure De where
 kind:Int
 neg:Bool
 d:B
 e:B
def noDe:De:=⟨0,false,[],[]⟩
def makeD (neg:Bool) (whole frac exp:B):De × Bool:=match isD (whole++frac)&&good exp with
 | false=>(noDe,false)
 | true=>match dropZ (Lib.trimRightB (whole++frac) 48) with
  | []=>(⟨0,neg,[48],[48]⟩,true)
  | c :: l=>(⟨0,neg,c :: l,addN exp (((whole++frac).length:Int) - ((Lib.trimRightB (whole++frac) 48).length:Int) - (frac.length:Int))⟩,true)
def goodD (x:De):Bool:=
 (x.kind==0&&x.d==[48]&&x.e==[48]) || (x.kind==1&&x.d==[]&&x.e==[]) || (x.kind==2&&x.d==[]&&x.e==[]&&!x.neg) ||
 (x.kind==0&&isD x.d&&!(x.d.head?==some 48)&&!(x.d.getLast?==some 48)&&good x.e)
def sgB (neg:Bool):B:=match neg with | true=>[45] | false=>[]
def printD (x:De):B:=match goodD x with
 | false=>[]
 | true=>match x.kind==2 with
  | true=>[46,110,97,110]
  | false=>match x.kind==1 with
   | true=>sgB x.neg++[46,105,110,102]
   | false=>match x.e.head?==some 45 with
    | true=>sgB x.neg++x.d++[46,101]++x.e
    | false=>sgB x.neg++x.d++[46,101]++[43]++x.e
def isS (c:UInt8):Bool:=c==43 || c==45
def unsign (s:B):Bool × B:=match s with
 | []=>(false,[])
 | c :: l=>match isS c with
  | true=>(c==45,l)
  | false=>(false,c :: l)
def signed (s:B):Bool:=match s with | []=>false | c :: _=>isS c
def value (t:B):B:=match parts t with
 | []=>[]
 | p :: ps=>ps.foldl (fun n q=>mulAddG n 60 (val q)) (norm false p)
def rowB (b:Int) (l:B):Bool:=l.all (fun c=>c==95 || decide (hexD c<b))&&!(noU l==[])
def rowN (neg:Bool) (b form:Int) (l:B):B × Int:=match rowB b l with
 | true=>(norm neg (baseN (noU l) b),form)
 | false=>([],0)
def tailU (t:B):B:=t.dropWhile dgU
def int11 (s:B):B × Int:=match (unsign s).2 with
 | []=>([],0)
 | c :: l=>match c==48 with
  | true=>(match l with
   | []=>([48],4)
   | d :: l'=>match d==98 with
    | true=>rowN (unsign s).1 2 1 l'
    | false=>match d==120 with
     | true=>rowN (unsign s).1 16 2 l'
     | false=>rowN (unsign s).1 8 3 (d :: l'))
  | false=>match dg c with
   | false=>([],0)
   | true=>match tailU l with
    | []=>(norm (unsign s).1 (noU (c :: l)),5)
    | x :: l'=>match sixties (x :: l') with
     | true=>(norm (unsign s).1 (value (noU (c :: l))),6)
     | false=>([],0)
def isInf (t:B):Bool:=t==[46,105,110,102] || t==[46,73,110,102] || t==[46,73,78,70]
def isNan (t:B):Bool:=t==[46,110,97,110] || t==[46,78,97,78] || t==[46,78,65,78]
def odd (t:B) (neg sgn:Bool):Option De:=match isInf t with
 | true=>some ⟨1,neg,[],[]⟩
 | false=>match isNan t&&!sgn with
  | true=>some ⟨2,false,[],[]⟩
  | false=>none
def tailE (loose:Bool) (s:B):Option B:=match s with
 | []=>some [48]
 | c :: l=>match c==101 || c==69 with
  | false=>none
  | true=>match (loose || signed l)&&isD (unsign l).2 with
   | true=>some (norm (unsign l).1 (unsign l).2)
   | false=>none
def valueF (t:B):B:=match parts t with
 | []=>[]
 | p :: []=>p
 | p :: q :: ps=>(q :: ps).foldl (fun n q=>mulAddG n 60 (val q)) (norm false p)
def fl11 (s:B):De × Int:=match odd (unsign s).2 (unsign s).1 (signed s) with
 | some d=>(d,3+d.kind)
 | none=>match dw 46 (unsign s).2 with
  | []=>(noDe,0)
  | _ :: rest=>match tailE false (tailU rest) with
   | none=>(noDe,0)
   | some exp=>match tw 46 (unsign s).2 with
    | []=>(match noU (rest.takeWhile dgU) with
     | []=>(noDe,0)
     | f :: fs=>((makeD (unsign s).1 [] (f :: fs) exp).1,2))
    | c :: w=>match dg c&&sixties (tailU w) with
     | false=>(noDe,0)
     | true=>match tailU w with
      | []=>((makeD (unsign s).1 (noU (c :: w)) (noU (rest.takeWhile dgU)) exp).1,1)
      | _ :: _=>match tailU rest with
       | []=>((makeD (unsign s).1 (valueF (noU (c :: w))) (noU (rest.takeWhile dgU)) exp).1,3)
       | _ :: _=>(noDe,0)
def int12 (s:B):B:=match s with
 | c :: d :: l=>(match c==48&&d==111 with
  | true=>baseN l 8
  | false=>match c==48&&d==120 with
   | true=>baseN l 16
   | false=>norm (unsign (c :: d :: l)).1 (unsign (c :: d :: l)).2)
 | s=>norm (unsign s).1 (unsign s).2
def fl12 (s:B):De × Bool:=match odd (unsign s).2 (unsign s).1 (signed s) with
 | some d=>(d,true)
 | none=>match int12 s with
  | _ :: _=>(noDe,false)
  | []=>match (unsign s).2.dropWhile dg with
   | []=>makeD (unsign s).1 ((unsign s).2.takeWhile dg) [] [48]
   | c :: l=>match c==46 with
    | true=>(match tailE true (l.dropWhile dg) with
     | none=>(noDe,false)
     | some exp=>makeD (unsign s).1 ((unsign s).2.takeWhile dg) (l.takeWhile dg) exp)
    | false=>match tailE true (c :: l) with
     | none=>(noDe,false)
     | some exp=>makeD (unsign s).1 ((unsign s).2.takeWhile dg) [] exp
def yes11:List B:=[[121],[89],[121,101,115],[89,101,115],[89,69,83],[111,110],[79,110],[79,78]]
def no11:List B:=[[110],[78],[110,111],[78,111],[78,79],[111,102,102],[79,102,102],[79,70,70]]
def yes12:List B:=[[116,114,117,101],[84,114,117,101],[84,82,85,69]]
def no12:List B:=[[102,97,108,115,101],[70,97,108,115,101],[70,65,76,83,69]]
def nulls:List B:=[[],[126],[110,117,108,108],[78,117,108,108],[78,85,76,76]]
def boolW (v:Int) (s:B):Bool × Bool:=match yes12.contains s with
 | true=>(true,true)
 | false=>match no12.contains s with
  | true=>(false,true)
  | false=>match v==11 with
   | false=>(false,false)
   | true=>(yes11.contains s,yes11.contains s || no11.contains s)
def boolT (b:Bool):B:=match b with | true=>[116,114,117,101] | false=>[102,97,108,115,101]
def tStr:B:=[116,97,103,58,121,97,109,108,46,111,114,103,44,50,48,48,50,58,115,116,114]
def tNull:B:=[116,97,103,58,121,97,109,108,46,111,114,103,44,50,48,48,50,58,110,117,108,108]
def tBool:B:=[116,97,103,58,121,97,109,108,46,111,114,103,44,50,48,48,50,58,98,111,111,108]
def tInt:B:=[116,97,103,58,121,97,109,108,46,111,114,103,44,50,48,48,50,58,105,110,116]
def tFloat:B:=[116,97,103,58,121,97,109,108,46,111,114,103,44,50,48,48,50,58,102,108,111,97,116]
def tTime:B:=[116,97,103,58,121,97,109,108,46,111,114,103,44,50,48,48,50,58,116,105,109,101,115,116,97,109,112]
def intV (v:Int) (s:B):B × Bool:=match v==11 with
 | true=>((int11 s).1,!((int11 s).2==0))
 | false=>(int12 s,!(int12 s==[]))
def flV (v:Int) (s:B):De × Bool:=match v==11 with
 | true=>((fl11 s).1,!((fl11 s).2==0))
 | false=>fl12 s
def numV (v:Int) (s:B):(B × B) × Bool:=match (intV v s).2 with
 | true=>((tInt,(intV v s).1),true)
 | false=>match (flV v s).2 with
  | true=>((tFloat,printD (flV v s).1),true)
  | false=>match v==11&&(ofT s).2 with
   | true=>((tTime,(ofT s).1),true)
   | false=>(([],[]),false)
def plainV (v:Int) (s:B):B × B:=match nulls.contains s with
 | true=>(tNull,[])
 | false=>match (boolW v s).2 with
  | true=>(tBool,boolT (boolW v s).1)
  | false=>match (numV v s).2 with
   | true=>(numV v s).1
   | false=>(tStr,s)
end Go.Proofs.YtffmgholjdfcnaaGreatDoor.Nu
