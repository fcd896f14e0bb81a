import Derived.Lib.ItoaNum
import Derived.Lib.ItoaMem
import Derived.Lib.Bytealg
import Derived.Lib.TrimByte
namespace Go.Proofs.YtffmgholjdfcnaaGreatDoor.St
open Go
abbrev B:=List UInt8
def dg (c:UInt8):Bool:=decide (48≤c.toNat)&&decide (c.toNat≤57)
def dv (c:UInt8):Int:=(c.toNat:Int) - 48
def digs:Nat→Int→B→Int × B × Nat
 | 0,n,l=>(n,l,0)
 | _+1,n,[]=>(n,[],0)
 | m+1,n,c :: l=>match dg c with
  | true=>((digs m (10 * n+dv c) l).1,(digs m (10 * n+dv c) l).2.1,(digs m (10 * n+dv c) l).2.2+1)
  | false=>(n,c :: l,0)
theorem digs_len:∀ (m:Nat) (n:Int) (l:B),(digs m n l).2.1.length+(digs m n l).2.2=l.length
 | 0,n,l=>by simp [digs]
 | _+1,n,[]=>by simp [digs]
 | m+1,n,c :: l=>by
  unfold digs
  cases dg c with
  | true=>have:=digs_len m (10 * n+dv c) l;simp only [List.length_cons];omega
  | false=>simp
theorem digs_cnt:∀ (m:Nat) (n:Int) (l:B),(digs m n l).2.2≤m
 | 0,n,l=>by simp [digs]
 | _+1,n,[]=>by simp [digs]
 | m+1,n,c :: l=>by
  unfold digs
  cases dg c with
  | true=>have:=digs_cnt m (10 * n+dv c) l;simp only;omega
  | false=>simp
theorem dv_bd {c:UInt8} (h:dg c=true):0≤dv c∧dv c≤9:=by
 unfold dg at h;unfold dv;simp at h;omega
theorem digs_bd:∀ (m:Nat) (n:Int) (l:B),0≤n→0≤(digs m n l).1∧(digs m n l).1<(n+1) * 10 ^ m
 | 0,n,l,h=>by simp [digs];omega
 | m+1,n,[],h=>by
  simp only [digs]
  refine ⟨h,?_⟩
  have:(1:Int)≤10 ^ (m+1):=by exact_mod_cast Nat.one_le_pow _ _ (by decide)
  calc n<n+1:=by omega
   _=(n+1) * 1:=by omega
   _≤(n+1) * 10 ^ (m+1):=Int.mul_le_mul_of_nonneg_left this (by omega)
 | m+1,n,c :: l,h=>by
  unfold digs
  cases hc:dg c with
  | true =>
   have hd:=dv_bd hc
   have ih:=digs_bd m (10 * n+dv c) l (by omega)
   refine ⟨ih.1,Int.lt_of_lt_of_le ih.2 ?_⟩
   have hp:(0:Int)≤10 ^ m:=Int.le_of_lt (Int.pow_pos (by decide))
   calc (10 * n+dv c+1) * 10 ^ m≤(10 * (n+1)) * 10 ^ m:=Int.mul_le_mul_of_nonneg_right (by omega) hp
    _=(n+1) * 10 ^ (m+1):=by rw [Int.pow_succ,Int.mul_comm 10 (n+1),Int.mul_assoc,Int.mul_comm 10]
  | false =>
   simp only
   refine ⟨h,?_⟩
   have:(1:Int)≤10 ^ (m+1):=by exact_mod_cast Nat.one_le_pow _ _ (by decide)
   calc n<n+1:=by omega
    _=(n+1) * 1:=by omega
    _≤(n+1) * 10 ^ (m+1):=Int.mul_le_mul_of_nonneg_left this (by omega)
def sg (of:B):B→Option (UInt8 × B)
 | []=>none
 | c :: l=>match of.contains c with | true=>some (c,l) | false=>none
def num (least most:Nat) (l:B):Option (Int × B):=match decide ((digs most 0 l).2.2<least) with
 | true=>none
 | false=>some ((digs most 0 l).1,(digs most 0 l).2.1)
def behind (of:B):B→B
 | []=>[]
 | c :: l=>match of.contains c with | true=>behind of l | false=>c :: l
theorem behind_len (of:B):∀ l,(behind of l).length≤l.length
 | []=>Nat.le_refl _
 | c :: l=>by
  unfold behind
  cases of.contains c with
  | true=>have:=behind_len of l;simp only [List.length_cons];omega
  | false=>exact Nat.le_refl _
def days (y m:Int):Int:=
 if y<0∨m<1∨m > 12 then 0
 else if m=2 then (if y % 4=0∧(y % 100 ≠ 0∨y % 400=0) then 29 else 28)
 else if m=4∨m=6∨m=9∨m=11 then 30 else 31
structure Mo where
 y:Int
 mo:Int
 d:Int
 h:Int
 mi:Int
 s:Int
 fr:B
 z:Int
def zone (s:B):Option (Int × B):=match num 1 2 s with
 | none=>none
 | some (h,s1)=>match sg [58] s1 with
  | none=>(match decide (h≤23) with | true=>some (60 * h,s1) | false=>none)
  | some (_,s2)=>match num 2 2 s2 with
   | none=>none
   | some (k,s3)=>(match decide (h≤23)&&decide (k≤59) with | true=>some (60 * h+k,s3) | false=>none)
def zoneE (s:B):Option Int:=match s with
 | []=>some 0
 | s=>match sg [90] (behind [32,9] s) with
  | some (_,[])=>some 0
  | some (_,_ :: _)=>none
  | none=>match sg [43,45] (behind [32,9] s) with
   | none=>none
   | some (c,s1)=>match zone s1 with
    | some (z,[])=>some (match c==45 with | true=>- z | false=>z)
    | _=>none
def fracs (s:B):B × B:=match sg [46] s with
 | none=>([],s)
 | some (_,s1)=>(Lib.trimRightB (s1.take (s1.length - (behind [48,49,50,51,52,53,54,55,56,57] s1).length)) 48,behind [48,49,50,51,52,53,54,55,56,57] s1)
def clock (s:B):Option (Int × Int × Int × B × Int):=match num 1 2 s with
 | none=>none
 | some (h,s1)=>match sg [58] s1 with
  | none=>none
  | some (_,s2)=>match num 2 2 s2 with
   | none=>none
   | some (mi,s3)=>match sg [58] s3 with
    | none=>none
    | some (_,s4)=>match num 2 2 s4 with
     | none=>none
     | some (sec,s5)=>match zoneE (fracs s5).2 with
      | none=>none
      | some z=>some (h,mi,sec,(fracs s5).1,z)
def gap (s:B):Option B:=match sg [84,116] s with
 | some (_,l)=>some l
 | none=>match decide ((behind [32,9] s).length=s.length) with
  | true=>none
  | false=>some (behind [32,9] s)
def okMo (m:Mo):Bool:=decide (1≤m.d)&&decide (m.d≤days m.y m.mo)&&decide (m.h<24)&&decide (m.mi<60)&&decide (m.s<60)
def parse (s:B):Option (Mo × Bool):=match num 4 4 s with
 | none=>none
 | some (y,s1)=>match sg [45] s1 with
  | none=>none
  | some (_,s2)=>match num 1 2 s2 with
   | none=>none
   | some (mo,s3)=>match sg [45] s3 with
    | none=>none
    | some (_,s4)=>match num 1 2 s4 with
     | none=>none
     | some (d,s5)=>match s5 with
      | []=>(match decide (s2.length=5) with | true=>some (⟨y,mo,d,0,0,0,[],0⟩,true) | false=>none)
      | _ :: _=>match gap s5 with
       | none=>none
       | some s6=>match clock s6 with
        | none=>none
        | some (h,mi,sec,fr,z)=>some (⟨y,mo,d,h,mi,sec,fr,z⟩,false)
def adj (y mo d k:Int):Int × Int × Int × Int:=
 if d > days y mo then (if mo+1 > 12 then (y+1,1,1,k) else (y,mo+1,1,k))
 else if d<1 then (if mo - 1<1 then (y - 1,12,days (y - 1) 12,k) else (y,mo - 1,days y (mo - 1),k))
 else (y,mo,d,k)
def putM (m:Mo):Int × Int × Int × Int:=
 if 60 * m.h+m.mi - m.z<0 then adj m.y m.mo (m.d - 1) (60 * m.h+m.mi - m.z+1440)
 else if 60 * m.h+m.mi - m.z ≥ 1440 then adj m.y m.mo (m.d+1) (60 * m.h+m.mi - m.z - 1440)
 else adj m.y m.mo m.d (60 * m.h+m.mi - m.z)
def dc (n:Int):UInt8:=UInt8.ofNat (48+n.toNat)
def w2 (n:Int):B:=[dc (n / 10 % 10),dc (n % 10)]
def w4 (n:Int):B:=[dc (n / 1000 % 10),dc (n / 100 % 10),dc (n / 10 % 10),dc (n % 10)]
def tail (s:Int) (fr:B):B:=[58]++w2 s++(match fr with | []=>[] | c :: l=>[46]++(c :: l))++[90]
def text (p:Int × Int × Int × Int) (s:Int) (fr:B):B:=
 w4 p.1++[45]++w2 p.2.1++[45]++w2 p.2.2.1++[84]++w2 (p.2.2.2 / 60)++[58]++w2 (p.2.2.2 % 60)++tail s fr
def ofT (s:B):B × Bool:=match parse s with
 | none=>([],false)
 | some (m,date)=>match okMo m with
  | false=>([],false)
  | true=>match date with
   | true=>(s,true)
   | false=>match decide (0≤(putM m).1)&&decide ((putM m).1≤9999) with
    | true=>(text (putM m) m.s m.fr,true)
    | false=>([],false)
end Go.Proofs.YtffmgholjdfcnaaGreatDoor.St
