import Derived.Test.YtffmgholjdfcnaaGreatDoorYSStF
set_option linter.unusedSimpArgs false
set_option linter.unusedVariables false
namespace Go.Proofs.YtffmgholjdfcnaaGreatDoor
open Go AM St
open Go.IntKind (i64 u8)
variable {C:Nat→Env→(Env→Option Out)→Option Out}
def Pt (s l:B):Int:=((s.length - l.length:Nat):Int)
theorem suf_drop {s l:B} (h:l <:+ s):s.drop (s.length - l.length)=l:=by
 obtain ⟨t,rfl⟩:=h
 simp
theorem digs_suf:∀ (m:Nat) (n:Int) (l:B),(digs m n l).2.1 <:+ l
 | 0,n,l=>List.suffix_refl _
 | _+1,n,[]=>List.suffix_refl _
 | m+1,n,c :: l=>by
  cases h:dg c with
  | true=>rw [digs_yes h];exact (digs_suf m _ l).trans (List.suffix_cons _ _)
  | false=>rw [digs_no h];exact List.suffix_refl _
theorem num_suf {a m:Nat} {s l:B} {n:Int} (h:num a m s=some (n,l)):l <:+ s:=by rw [← (num_some h).2.2];exact digs_suf _ _ _
theorem sg_suf {of s l:B} {c:UInt8} (h:sg of s=some (c,l)):l <:+ s:=by rw [(sg_mem h).2];exact List.suffix_cons _ _
theorem behind_suf (of:B):∀ l,behind of l <:+ l
 | []=>List.suffix_refl _
 | c :: l=>by
  unfold behind
  cases of.contains c with
  | true=>exact (behind_suf of l).trans (List.suffix_cons _ _)
  | false=>exact List.suffix_refl _
theorem Pt_nn (s l:B):0≤Pt s l:=by unfold Pt;omega
theorem Pt_le (s l:B):Pt s l≤s.length:=by unfold Pt;omega
theorem Pt_nat (s l:B):(Pt s l).toNat=s.length - l.length:=by unfold Pt;omega
theorem Pt_drop {s l:B} (h:l <:+ s):s.drop (Pt s l).toNat=l:=by rw [Pt_nat,suf_drop h]
theorem Pt_cons {s l:B} {c:UInt8} (h:c :: l <:+ s):Pt s (c :: l)+1=Pt s l:=by
 have:=h.length_le
 simp at this
 unfold Pt
 simp
 omega
theorem Pt_len {s l:B} (h:l <:+ s):(Pt s l==(s.length:Int))=decide (l=[]):=by
 have:=h.length_le
 rw [Bool.eq_iff_iff]
 cases l with
 | nil=>simp [Pt]
 | cons a b=>simp [Pt] at this ⊢;omega
theorem at_Pt {s l:B} {c:UInt8} (h:c :: l <:+ s):at? s (Pt s (c :: l))=some c:=by
 have h1:=suf_drop h
 have h2:=h.length_le
 unfold at?
 rw [if_pos (Pt_nn _ _),Pt_nat]
 have:(s.drop (s.length - (c :: l).length))[0]?=some c:=by rw [h1];rfl
 rwa [List.getElem?_drop,Nat.add_zero] at this
abbrev numK (s:B) (K:Tk123):Option (Int × B)→Option Out
 | none=>K 0 (-1)
 | some (n,l)=>K n (Pt s l)
theorem A21_at {s l:B} (h:l <:+ s) (hs:s.length≤1099511627776) (a m:Nat) (hm:m≤8) (K:Tk123):A123 s (Pt s l) (a:Int) (m:Int) K=numK s K (num a m l):=by
 unfold A123
 rw [if_pos ⟨Pt_nn _ _,Pt_le _ _,hs,by omega,by omega,by omega⟩,Pt_drop h]
 simp only [Int.toNat_natCast]
 cases num a m l<;>rfl
theorem A23_at {s l:B} (h:l <:+ s) (hs:s.length≤1099511627776) {of:B} (ho:of.length≤1099511627776) (K:Tk126):A126 s (Pt s l) of K=match sg of l with | none=>K (-1) | some (_,l')=>K (Pt s l'):=by
 unfold A126
 rw [if_pos ⟨hs,ho⟩,dT (Pt_nn s l)]
 simp only
 rw [Pt_drop h]
 cases l with
 | nil=>rfl
 | cons c l' =>
  cases hc:of.contains c with
  | true=>rw [sg_in hc];simp only;rw [Pt_cons h]
  | false=>rw [sg_out hc]
def A124:Ty124:=fun s i of least most K=>if s.length≤1099511627776∧of.length≤1099511627776∧0≤least∧0≤most∧most≤8 then
 (match decide (0≤i) with
  | false=>K 0 (-1)
  | true=>match sg of (s.drop i.toNat) with
   | none=>K 0 (-1)
   | some (_,l)=>numK s K (num least.toNat most.toNat l)) else none
theorem eq124 (s:B) (i:Int) (of:B) (least most:Int) (K:Tk124) (r:Out) (h:A124 s i of least most K=some r):run124 C A123 A126 big s i of least most K=some r:=by
 unfold A124 at h
 split at h
 ·rename_i hc
  obtain ⟨hs,ho,l0,m0,m1⟩:=hc
  obtain ⟨a,rfl⟩:∃ p:Nat,least=p:=⟨least.toNat,by omega⟩
  obtain ⟨m,rfl⟩:∃ p:Nat,most=p:=⟨most.toNat,by omega⟩
  rw [run124_eq,← h]
  unfold A126
  rw [if_pos ⟨hs,ho⟩]
  cases hi:decide (0≤i) with
  | false=>rfl
  | true =>
   simp only
   have hi:0≤i:=by simpa using hi
   obtain ⟨p,rfl⟩:∃ p:Nat,i=p:=⟨i.toNat,by omega⟩
   simp only [Int.toNat_natCast]
   have hsuf:=List.drop_suffix p s
   cases hsg:sg of (s.drop p) with
   | none=>rfl
   | some q =>
    obtain ⟨c,l⟩:=q
    have he:=(sg_mem hsg).2
    have hl:l <:+ s:=(sg_suf hsg).trans hsuf
    have hp:p<s.length:=by
     rcases Nat.lt_or_ge p s.length with h' | h'
     ·exact h'
     ·rw [List.drop_eq_nil_of_le h'] at he;cases he
    have e1:(p:Int)+1=Pt s l:=by
     have:=congrArg List.length he
     simp at this
     unfold Pt
     omega
    have e2:¬ (p:Int)+1<0:=by omega
    simp only [e2,decide_false,cond_false]
    rw [e1,A21_at hl hs a m (by omega)]
 ·cases h
theorem A22_at {s l:B} (h:l <:+ s) (hs:s.length≤1099511627776) {of:B} (ho:of.length≤1099511627776) (a m:Nat) (hm:m≤8) (K:Tk124):A124 s (Pt s l) of (a:Int) (m:Int) K=match sg of l with | none=>K 0 (-1) | some (_,l')=>numK s K (num a m l'):=by
 unfold A124
 rw [if_pos ⟨hs,ho,by omega,by omega,by omega⟩,dT (Pt_nn s l)]
 simp only [Int.toNat_natCast]
 rw [Pt_drop h]
theorem Pt_lt0 (s l:B):decide (Pt s l<0)=false:=dF (by have:=Pt_nn s l;omega)
def A178:Ty178:=fun s c K=>if 0≤c∧c≤s.length∧s.length≤1099511627776 then
 (match zoneE (s.drop c.toNat) with
  | none=>K 0 false
  | some z=>K z true) else none
theorem blank_eq (c:UInt8):([32,9]:B).contains c=(((c.toNat:Int)==32) || ((c.toNat:Int)==9)):=by
 have e:∀ k:UInt8,((c.toNat:Int)==(k.toNat:Int))=(c==k):=by
  intro k;rw [Bool.eq_iff_iff];simp [← UInt8.toNat_inj];omega
 have e1:=e 32
 have e2:=e 9
 have f1:((32:UInt8).toNat:Int)=32:=rfl
 have f2:((9:UInt8).toNat:Int)=9:=rfl
 rw [f1] at e1
 rw [f2] at e2
 rw [e1,e2,List.contains_cons,List.contains_cons]
 simp only [List.contains_nil,Bool.or_false]
theorem byte_eq (c k:UInt8):((c.toNat:Int)==(k.toNat:Int))=(c==k):=by
 rw [Bool.eq_iff_iff];simp [← UInt8.toNat_inj];omega
theorem p5_36_ok (hC:∀ key e t,C key e t=t e) {s:B} {K:Tk178} {c:UInt8} {l:B} (h:c :: l <:+ s) (kk:Nat) (hh k:Int) (h0:0≤hh) (h1:hh≤99) (k0:0≤k) (k1:k≤99):p5_178 C A124 kk s (Pt s (c :: l)) hh k K=K (match c==45 with | true=>-(60 * hh+k) | false=>60 * hh+k) true:=by
 rw [p5_178_eq _ _ hC,at_Pt h,oB]
 have e:=byte_eq c 45
 have f:((45:UInt8).toNat:Int)=45:=rfl
 rw [f] at e
 rw [e,i64_in (n:=-60 * hh) (by omega) (by omega),i64_in (n:=-60 * hh - k) (by omega) (by omega),i64_in (n:=60 * hh) (by omega) (by omega),i64_in (n:=60 * hh+k) (by omega) (by omega)]
 cases c==45 with
 | true=>simp only [cond_true];congr 1;omega
 | false=>rfl
section zone
variable (hC:∀ key e t,C key e t=t e) {s:B} (hs:s.length≤1099511627776) {K:Tk178}
include hC hs
theorem p2_36_false {t:B} (h:t <:+ s) (kk:Nat):p2_178 C A124 kk s (Pt s t) false K=match sg [43,45] t with
  | none=>K 0 false
  | some (c,s1)=>match zone s1 with
   | some (z,[])=>K (match c==45 with | true=>- z | false=>z) true
   | _=>K 0 false:=by
 have len0:∀ l:B,l <:+ s→decide (Pt s l<(s.length:Int))=!decide (l=[]):=by
  intro l hl
  have:=Pt_len hl
  have h2:=Pt_le s l
  by_cases e:l=[]
  ·subst e
   have:¬ Pt s []<(s.length:Int):=by unfold Pt;simp
   simp [this]
  ·simp [e] at this
   have h3:Pt s l<(s.length:Int):=by omega
   simp [e,h3]
 rw [p2_178_eq _ _ hC]
 simp only [cond_false]
 have e12:=A22_at h hs (of:=[43,45]) (by decide) 1 2 (by omega)
 have c1:((1:Nat):Int)=1:=rfl
 have c2:((2:Nat):Int)=2:=rfl
 rw [c1,c2] at e12
 rw [e12]
 cases e1:sg [43,45] t with
 | none =>
  have:decide ((-1:Int)<0)=true:=rfl
  simp only [this,cond_true]
  rw [p3_178_eq _ _ hC];rfl
 | some q =>
  obtain ⟨c,s1⟩:=q
  have ht:=(sg_mem e1).2
  subst ht
  have hs1:s1 <:+ s:=(sg_suf e1).trans h
  unfold zone
  simp only
  cases e2:num 1 2 s1 with
  | none =>
   have:decide ((-1:Int)<0)=true:=rfl
   simp only [numK,this,cond_true]
   rw [p3_178_eq _ _ hC];rfl
  | some q =>
   obtain ⟨hh,s2⟩:=q
   have hb:=num_bd2 e2
   have hs2:s2 <:+ s:=(num_suf e2).trans hs1
   simp only [numK,Pt_lt0,cond_false]
   rw [p3_178_eq _ _ hC]
   by_cases h23:hh > 23
   ·have h23':¬ hh≤23:=by omega
    simp only [h23,decide_true,cond_true]
    cases e3:sg [58] s2 with
    | none=>simp [h23']
    | some q =>
     simp only
     cases num 2 2 q.2 with
     | none=>rfl
     | some q2=>simp [h23']
   ·have h23':hh≤23:=by omega
    simp only [h23,decide_false,cond_false]
    rw [len0 s2 hs2]
    cases s2 with
    | nil =>
     have e3:sg [58] ([]:B)=none:=rfl
     have e4:(!decide (([]:B)=[]))=false:=rfl
     rw [e3,e4]
     simp only [cond_false,h23',decide_true]
     rw [p5_36_ok hC h _ _ _ (by omega) (by omega) (by omega) (by omega),Int.add_zero]
    | cons a b =>
     have e4:(!decide ((a :: b)=([]:B)))=true:=by simp
     rw [e4]
     simp only [cond_true]
     have e22:=A22_at hs2 hs (of:=[58]) (by decide) 2 2 (by omega)
     rw [c2] at e22
     rw [e22]
     cases e5:sg [58] (a :: b) with
     | none =>
      have hne:((-1:Int) != (s.length:Int))=true:=by
       have:¬ (-1:Int)=(s.length:Int):=by omega
       rw [bne,beq_eq_false_iff_ne.2 this];rfl
      simp only [hne,cond_true,h23',decide_true]
      rw [p4_178_eq _ _ hC];rfl
     | some q =>
      obtain ⟨c5,s3⟩:=q
      have hs3:s3 <:+ s:=(sg_suf e5).trans hs2
      simp only
      cases e6:num 2 2 s3 with
      | none =>
       have hne:((-1:Int) != (s.length:Int))=true:=by
        have:¬ (-1:Int)=(s.length:Int):=by omega
        rw [bne,beq_eq_false_iff_ne.2 this];rfl
       simp only [numK,hne,cond_true]
       rw [p4_178_eq _ _ hC];rfl
      | some q =>
       obtain ⟨k,s4⟩:=q
       have kb:=num_bd2 e6
       have hs4:s4 <:+ s:=(num_suf e6).trans hs3
       have hlen:(Pt s s4 != (s.length:Int))=!decide (s4=[]):=by simp only [bne,Pt_len hs4]
       simp only [numK,hlen]
       cases s4 with
       | cons a4 b4 =>
        have e7:(!decide ((a4 :: b4)=([]:B)))=true:=by simp
        rw [e7]
        simp only [cond_true]
        rw [p4_178_eq _ _ hC]
        cases decide (hh≤23)&&decide (k≤59)<;>rfl
       | nil =>
        have e7:(!decide (([]:B)=[]))=false:=rfl
        rw [e7]
        simp only [cond_false,h23',decide_true,Bool.true_and]
        rw [p4_178_eq _ _ hC]
        by_cases h59:k > 59
        ·have h59':¬ k≤59:=by omega
         simp only [h59,h59',decide_true,decide_false,cond_true]
        ·have h59':k≤59:=by omega
         simp only [h59,h59',decide_true,decide_false,cond_false]
         rw [p5_36_ok hC h _ _ _ (by omega) (by omega) (by omega) (by omega)]
theorem end36 {t:B} (h:t <:+ s) (hb:∀ c l,t=c :: l→([32,9]:B).contains c=false) (kk j:Nat):l1_178 C A124 kk (j+1) s (Pt s t) K =
  (match sg [90] t with
  | some (_,[])=>K 0 true
  | some (_,_ :: _)=>K 0 false
  | none=>match sg [43,45] t with
   | none=>K 0 false
   | some (c,s1)=>match zone s1 with
    | some (z,[])=>K (match c==45 with | true=>- z | false=>z) true
    | _=>K 0 false):=by
 have hle:=h.length_le
 rw [l1_178_eq _ _ hC]
 cases t with
 | nil =>
  have e1:¬ Pt s []<(s.length:Int):=by unfold Pt;simp
  have e2:(i64.wrap (Pt s []+1)==(s.length:Int))=false:=by
   rw [i64_in (by unfold Pt;simp;omega) (by unfold Pt;simp;omega)]
   have:¬ Pt s []+1=(s.length:Int):=by unfold Pt;simp;omega
   simpa using this
  simp only [e1,e2,decide_false,cond_false]
  rw [p2_36_false hC hs h]
  rfl
 | cons c l =>
  have hbc:=hb c l rfl
  have e1:Pt s (c :: l)<(s.length:Int):=by unfold Pt;simp at hle ⊢;omega
  rw [blank_eq,Bool.or_eq_false_iff] at hbc
  have hl:l <:+ s:=(List.suffix_cons c l).trans h
  have e2:(i64.wrap (Pt s (c :: l)+1)==(s.length:Int))=decide (l=[]):=by
   rw [Pt_cons h,i64_in (by have:=Pt_nn s l;omega) (by have:=Pt_le s l;omega),Pt_len hl]
  simp only [e1,decide_true,cond_true,at_Pt h,oB,hbc.1,hbc.2,cond_false,e2]
  have f:((c.toNat:Int)==90)=(c==90):=byte_eq c 90
  rw [f]
  have hc90:([90]:B).contains c=(c==90):=by rw [List.contains_cons,List.contains_nil,Bool.or_false]
  cases l with
  | nil =>
   simp only [decide_true,cond_true]
   cases h90:c==90 with
   | true =>
    rw [sg_in (by rw [hc90,h90])]
    simp only
    rw [p2_178_eq _ _ hC];rfl
   | false =>
    rw [sg_out (by rw [hc90,h90])]
    simp only
    rw [p2_36_false hC hs h]
  | cons a b =>
   have e3:decide ((a :: b)=([]:B))=false:=by simp
   simp only [e3,cond_false]
   rw [p2_36_false hC hs h]
   cases h90:c==90 with
   | true =>
    have:c=90:=by simpa using h90
    subst this
    rfl
   | false=>rw [sg_out (of:=[90]) (by rw [hc90,h90])]
theorem loop36 (kk:Nat):∀ (l:B) (j:Nat),l <:+ s→l.length<j→l1_178 C A124 kk j s (Pt s l) K =
  (match sg [90] (behind [32,9] l) with
  | some (_,[])=>K 0 true
  | some (_,_ :: _)=>K 0 false
  | none=>match sg [43,45] (behind [32,9] l) with
   | none=>K 0 false
   | some (c,s1)=>match zone s1 with
    | some (z,[])=>K (match c==45 with | true=>- z | false=>z) true
    | _=>K 0 false)
 | [],j,h,hj=>by
  obtain ⟨j,rfl⟩:∃ i,j=i+1:=⟨j - 1,by omega⟩
  exact end36 hC hs h (fun c l e=>by cases e) kk j
 | c :: l,j,h,hj=>by
  obtain ⟨j,rfl⟩:∃ i,j=i+1:=⟨j - 1,by omega⟩
  have hl:l <:+ s:=(List.suffix_cons c l).trans h
  cases hb:([32,9]:B).contains c with
  | false =>
   have:behind [32,9] (c :: l)=c :: l:=by simp only [behind,hb]
   rw [this]
   exact end36 hC hs h (fun c' l' e=>by cases e;exact hb) kk j
  | true =>
   have:behind [32,9] (c :: l)=behind [32,9] l:=by simp only [behind,hb]
   rw [this,← loop36 kk l j hl (by simp at hj;omega),l1_178_eq _ _ hC]
   have hle:=h.length_le
   have e1:Pt s (c :: l)<(s.length:Int):=by unfold Pt;simp at hle ⊢;omega
   simp only [e1,decide_true,cond_true,at_Pt h,oB]
   rw [Pt_cons h,i64_in (by have:=Pt_nn s l;omega) (by have:=Pt_le s l;omega)]
   rw [blank_eq] at hb
   cases h32:((c.toNat:Int)==32) with
   | true=>rfl
   | false =>
    rw [h32,Bool.false_or] at hb
    rw [hb];rfl
end zone
theorem eq178 (hC:∀ key e t,C key e t=t e) (s:B) (c:Int) (K:Tk178) (r:Out) (h:A178 s c K=some r):run178 C A124 big s c K=some r:=by
 unfold A178 at h
 split at h
 ·rename_i hc
  obtain ⟨c0,c1,hs⟩:=hc
  have hsuf:=List.drop_suffix c.toNat s
  have e1:c=Pt s (s.drop c.toNat):=by unfold Pt;simp;omega
  rw [run178_eq,← h]
  generalize s.drop c.toNat=l at hsuf e1
  subst e1
  rw [Pt_len hsuf]
  cases l with
  | nil=>rfl
  | cons a b =>
   have e2:decide ((a :: b)=([]:B))=false:=by simp
   rw [e2,cond_false,loop36 hC hs big (a :: b) big hsuf (big_gt (by have:=hsuf.length_le;omega))]
   unfold zoneE
   simp only
   generalize behind [32,9] (a :: b)=t
   cases e3:sg [90] t with
   | some q =>
    obtain ⟨c3,l3⟩:=q
    cases l3<;>rfl
   | none =>
    simp only
    cases e4:sg [43,45] t with
    | none=>rfl
    | some q =>
     obtain ⟨c4,l4⟩:=q
     simp only
     cases e5:zone l4 with
     | none=>rfl
     | some q =>
      obtain ⟨z,l5⟩:=q
      cases l5<;>rfl
 ·cases h
def mv (y m d n:Int):Int × Int × Int × Int:=if n<0 then adj y m (d - 1) (n+1440) else if n ≥ 1440 then adj y m (d+1) (n - 1440) else adj y m d n
def okY (p:Int × Int × Int × Int):Bool:=decide (0≤p.1)&&decide (p.1≤9999)
def movT (p:Int × Int × Int × Int):B:=dayT p.1 p.2.1 p.2.2.1++[84]++w2 (p.2.2.2 / 60)++[58]++w2 (p.2.2.2 % 60)
def A179:Ty179:=fun y m d n K=>if 0≤y∧y≤9999∧1≤m∧m≤12∧1≤d∧d≤31 ∧ -1440<n∧n<2880 then
 (match okY (mv y m d n) with
  | true=>K (movT (mv y m d n)) true
  | false=>K [] false) else none
theorem A52_ok {y m d:Int} {K:Tk219} (h:0≤y∧y≤9999∧0≤m∧m≤99∧0≤d∧d≤99):A219 y m d K=K (dayT y m d):=if_pos h
theorem p4_37_ok (hC:∀ key e t,C key e t=t e) (kk:Nat) (y m d n:Int) (K:Tk179) (hm:0≤m∧m≤99∧0≤d∧d≤99) (hn:0≤n∧n<1440):p4_179 C A125 A180 A219 kk y m d n K=match okY (y,m,d,n) with
  | true=>K (movT (y,m,d,n)) true
  | false=>K [] false:=by
 rw [p4_179_eq _ _ _ _ hC]
 simp only [p5_179_eq _ _ _ _ hC]
 unfold okY
 by_cases h0:y<0
 ·have h0':¬ 0≤y:=by omega
  simp only [h0,h0',decide_true,decide_false,cond_true,Bool.false_and]
 ·have h0':0≤y:=by omega
  by_cases h1:y > 9999
  ·have h1':¬ y≤9999:=by omega
   simp only [h0,h0',h1,h1',decide_true,decide_false,cond_true,cond_false,Bool.true_and]
  ·have h1':y≤9999:=by omega
   simp only [h0,h0',h1,h1',decide_true,decide_false,cond_true,cond_false,Bool.true_and]
   have hdl:(dayT y m d).length=10:=by simp [dayT,w4_len,w2_len]
   rw [A52_ok ⟨h0',h1',hm⟩,cat_ok (by simp [hdl]),oB,tdiv_nn hn.1,tmod_nn hn.1,i64_in (n:=n / 60) (by omega) (by omega),A38_ok (by omega) (by omega),cat_ok (by simp [hdl,w2_len]),oB,cat_ok (by simp [hdl,w2_len]),oB,
    A38_ok (by omega) (by omega),cat_ok (by simp [hdl,w2_len]),oB]
   rfl
theorem p2_37_ok (hC:∀ key e t,C key e t=t e) (kk:Nat) (y m d n:Int) (K:Tk179) (hy:0≤y∧y≤9999) (hm:1≤m∧m≤12) (hd:0≤d∧d≤32) (hn:0≤n∧n<1440):p2_179 C A125 A180 A219 kk y m d n K=match okY (adj y m d n) with
  | true=>K (movT (adj y m d n)) true
  | false=>K [] false:=by
 have hdb:=days_pos (y:=y) (m:=m) hy.1 hm.1 hm.2
 have k1:=days_bd (y - 1) 12
 have k2:=days_bd y (m - 1)
 rw [p2_179_eq _ _ _ _ hC]
 simp only [p3_179_eq _ _ _ _ hC,A125]
 rw [i64_in (n:=m - 1) (by omega) (by omega),i64_in (n:=m+1) (by omega) (by omega),i64_in (n:=y - 1) (by omega) (by omega),i64_in (n:=y+1) (by omega) (by omega)]
 unfold adj
 by_cases c1:d<1
 ·have c0:¬ d > days y m:=by omega
  by_cases c2:m - 1<1
  ·simp only [c0,c1,c2,decide_true,cond_true,if_true,if_false]
   exact p4_37_ok hC kk _ _ _ _ K (by omega) hn
  ·simp only [c0,c1,c2,decide_true,decide_false,cond_true,cond_false,if_true,if_false]
   exact p4_37_ok hC kk _ _ _ _ K (by omega) hn
 ·by_cases c0:d > days y m
  ·by_cases c2:m+1 > 12
   ·simp only [c0,c1,c2,decide_true,decide_false,cond_true,cond_false,if_true,if_false]
    exact p4_37_ok hC kk _ _ _ _ K (by omega) hn
   ·simp only [c0,c1,c2,decide_true,decide_false,cond_true,cond_false,if_true,if_false]
    exact p4_37_ok hC kk _ _ _ _ K (by omega) hn
  ·simp only [c0,c1,decide_false,cond_false,if_false]
   exact p4_37_ok hC kk _ _ _ _ K (by omega) hn
theorem eq179 (hC:∀ key e t,C key e t=t e) (y m d n:Int) (K:Tk179) (r:Out) (h:A179 y m d n K=some r):run179 C A125 A180 A219 big y m d n K=some r:=by
 unfold A179 at h
 split at h
 ·rename_i hc
  obtain ⟨y0,y1,m0,m1,d0,d1,n0,n1⟩:=hc
  rw [run179_eq,← h]
  simp only [p1_179_eq _ _ _ _ hC]
  rw [i64_in (n:=d - 1) (by omega) (by omega),i64_in (n:=d+1) (by omega) (by omega),i64_in (n:=n+1440) (by omega) (by omega),i64_in (n:=n - 1440) (by omega) (by omega)]
  unfold mv
  by_cases c1:n<0
  ·have c2:¬ n+1440 ≥ 1440:=by omega
   simp only [c1,c2,decide_true,decide_false,cond_true,cond_false,if_true]
   exact p2_37_ok hC big _ _ _ _ K ⟨y0,y1⟩ ⟨m0,m1⟩ (by omega) (by omega)
  ·by_cases c2:n ≥ 1440
   ·simp only [c1,c2,decide_true,decide_false,cond_true,cond_false,if_true,if_false]
    exact p2_37_ok hC big _ _ _ _ K ⟨y0,y1⟩ ⟨m0,m1⟩ (by omega) (by omega)
   ·simp only [c1,c2,decide_true,decide_false,cond_true,cond_false,if_true,if_false]
    exact p2_37_ok hC big _ _ _ _ K ⟨y0,y1⟩ ⟨m0,m1⟩ (by omega) (by omega)
 ·cases h
end Go.Proofs.YtffmgholjdfcnaaGreatDoor
