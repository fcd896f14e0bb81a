import Derived.Test.YtffmgholjdfcnaaGreatDoorYSStP
import Derived.Laws.RangeAny
set_option linter.unusedSimpArgs false
set_option linter.unusedVariables false
namespace Go.Proofs.YtffmgholjdfcnaaGreatDoor
open Go AM St
variable {C:Nat→Env→(Env→Option Out)→Option Out}
def asc (l:B):Bool:=l.all fun c=>decide (c.toNat<128)
def A213:Ty213:=fun s of K=>if asc of=true∧s.length≤1099511627776∧of.length≤1099511627776 then K (behind of s) else none
theorem get_mk (l:B) (p:Nat) (h:p<l.length):(ByteArray.mk ⟨l⟩)[p]'(by simpa [ByteArray.size] using h)=l[p]:=rfl
theorem size_mk (l:B):(ByteArray.mk ⟨l⟩).size=l.length:=rfl
theorem cut_from (l:B) (p:Nat) (h:p≤l.length):cut l (some (p:Int)) none=some (l.drop p):=by
 unfold cut
 rw [if_pos]
 ·simp
 ·simp;omega
theorem drop_cons {l:B} {p:Nat} (h:p<l.length):l.drop p=l[p] :: l.drop (p+1):=List.drop_eq_getElem_cons h
theorem inner40 (hC:∀ key e t,C key e t=t e) (kk:Nat) (s of:B) (ho:asc of=true) (j0:Nat) (v5:Int) (r p:Nat) (K:Tk213):∀ (m j q:Nat) (b:Bool),of.length - q=m→m<j→q≤of.length →
  l2_213 C kk j0 j s of v5 r b s p of q K=match b || (of.drop q).any (fun c=>decide (r=c.toNat)) with
   | true=>l1_213 C kk j0 s of s p K
   | false=>((cut s (some v5) none).bind fun x=>K x):=by
 intro m
 induction m with
 | zero =>
  intro j q b hm hj hq
  obtain ⟨j,rfl⟩:∃ i,j=i+1:=⟨j - 1,by omega⟩
  have h1:¬ q<of.length:=by omega
  have h2:of.drop q=[]:=List.drop_eq_nil_of_le (by omega)
  rw [l2_213_eq _ hC,h2]
  simp only [h1,decide_false,cond_false,List.any_nil,Bool.or_false]
  cases b<;>rfl
 | succ m ih =>
  intro j q b hm hj hq
  obtain ⟨j,rfl⟩:∃ i,j=i+1:=⟨j - 1,by omega⟩
  have h1:q<of.length:=by omega
  have ha:(of[q]).toNat<128:=by
   have:=List.all_eq_true.1 ho (of[q]) (List.getElem_mem h1)
   simpa using this
  have hd:Utf8.decode ⟨⟨of⟩⟩ q=((of[q]).toNat,1):=decode_ascii ⟨⟨of⟩⟩ q h1 ha
  rw [l2_213_eq _ hC]
  simp only [h1,decide_true,cond_true,hd]
  rw [drop_cons h1,List.any_cons]
  cases b with
  | true =>
   simp only [cond_true]
   rw [ih j (q+1) true (by omega) (by omega) (by omega)]
   rfl
  | false =>
   simp only [cond_false]
   rw [ih j (q+1) _ (by omega) (by omega) (by omega)]
   have e:((r:Int)==(((of[q]).toNat:Nat):Int))=decide (r=(of[q]).toNat):=by
    rw [Bool.eq_iff_iff];simp;omega
   rw [e]
   simp only [Bool.false_or]
theorem contains_any (of:B) (c:UInt8):of.contains c=of.any (fun x=>decide (c.toNat=x.toNat)):=by
 induction of with
 | nil=>rfl
 | cons a l ih =>
  rw [List.contains_cons,List.any_cons,ih]
  congr 1
  rw [Bool.eq_iff_iff];simp [← UInt8.toNat_inj]
theorem any_high (of:B) (ho:asc of=true) (r:Nat) (hr:128≤r):of.any (fun x=>decide (r=x.toNat))=false:=by
 rw [List.any_eq_false]
 intro x hx
 have:=List.all_eq_true.1 ho x hx
 simp at this ⊢
 omega
theorem outer40 (hC:∀ key e t,C key e t=t e) (kk:Nat) (s of:B) (ho:asc of=true) (hof:of.length<kk) (K:Tk213):∀ (m j p:Nat),s.length - p=m→m<j→p≤s.length →
  l1_213 C kk j s of s p K=K (behind of (s.drop p)):=by
 intro m
 induction m with
 | zero =>
  intro j p hm hj hp
  obtain ⟨j,rfl⟩:∃ i,j=i+1:=⟨j - 1,by omega⟩
  have h1:¬ p<s.length:=by omega
  have h2:s.drop p=[]:=List.drop_eq_nil_of_le (by omega)
  rw [l1_213_eq _ hC,h2]
  simp [h1,behind]
 | succ m ih =>
  intro j p hm hj hp
  obtain ⟨j,rfl⟩:∃ i,j=i+1:=⟨j - 1,by omega⟩
  have h1:p<s.length:=by omega
  rw [l1_213_eq _ hC]
  simp only [h1,decide_true,cond_true]
  rw [inner40 hC kk s of ho j p (Utf8.decode ⟨⟨s⟩⟩ p).1 (p+(Utf8.decode ⟨⟨s⟩⟩ p).2) K of.length kk 0 false (by omega) hof (by omega)]
  rw [drop_cons h1]
  simp only [List.drop_zero,Bool.false_or]
  unfold behind
  by_cases ha:(s[p]).toNat<128
  ·have hd:Utf8.decode ⟨⟨s⟩⟩ p=((s[p]).toNat,1):=decode_ascii ⟨⟨s⟩⟩ p h1 ha
   rw [hd,contains_any]
   cases (of.any fun x=>decide ((s[p]).toNat=x.toNat)) with
   | true=>simp only;exact ih j (p+1) (by omega) (by omega) (by omega)
   | false=>simp only;rw [cut_from s p hp,drop_cons h1];rfl
  ·have hd:=(decode_high ⟨⟨s⟩⟩ p h1 (by have:=get_mk s p h1;rw [this];omega)).1
   rw [any_high of ho _ hd,contains_any,any_high of ho _ (by omega)]
   simp only
   rw [cut_from s p hp,drop_cons h1]
   rfl
theorem eq213 (hC:∀ key e t,C key e t=t e) (s of:B) (K:Tk213) (r:Out) (h:A213 s of K=some r):run213 C big s of K=some r:=by
 unfold A213 at h
 split at h
 ·rename_i hc
  rw [run213_eq,outer40 hC big s of hc.1 (big_gt hc.2.2) K s.length big 0 rfl (big_gt hc.2.1) (Nat.zero_le _)]
  exact h
 ·cases h
def A167:Ty167:=fun s bad of K=>if asc of=true∧s.length≤1099511627776∧of.length≤1099511627776 then K (s.take (s.length - (behind of s).length)) (behind of s) bad else none
theorem cut_to (l:B) (p:Int) (n:Nat) (e:p=n) (h:n≤l.length):cut l none (some p)=some (l.take n):=by
 subst e
 unfold cut
 rw [if_pos]
 ·simp
 ·simp;omega
theorem eq167 (s:B) (bad:Bool) (of:B) (K:Tk167) (r:Out) (h:A167 s bad of K=some r):run167 C A213 big s bad of K=some r:=by
 unfold A167 at h
 split at h
 ·rename_i hc
  have hb:=behind_len of s
  rw [run167_eq]
  simp only [A213,if_pos hc]
  rw [cut_to s _ (s.length - (behind of s).length) (by rw [i64_in (by omega) (by omega)];omega) (by omega)]
  exact h
 ·cases h
def zoneP (s:B) (bad:Bool):Int × B × Bool:=match sg [58] (digs 2 0 s).2.1 with
 | none=>(60 * (digs 2 0 s).1,(digs 2 0 s).2.1,bad || decide (((digs 2 0 s).2.2:Int)<1) || decide ((digs 2 0 s).1 > 23))
 | some (_,l)=>(60 * (digs 2 0 s).1+(digs 2 0 l).1,(digs 2 0 l).2.1,
   bad || decide (((digs 2 0 s).2.2:Int)<1) || decide (((digs 2 0 l).2.2:Int)<2) || decide ((digs 2 0 s).1 > 23) || decide ((digs 2 0 l).1 > 59))
def A168:Ty168:=fun s bad K=>K (zoneP s bad).1 (zoneP s bad).2.1 (zoneP s bad).2.2
theorem A25_12 (s:B) (bad:Bool) (K:Tk164):A164 s bad 1 2 K=K (digs 2 0 s).1 (digs 2 0 s).2.1 (bad || decide (((digs 2 0 s).2.2:Int)<1)):=if_pos (by decide)
theorem A25_22 (s:B) (bad:Bool) (K:Tk164):A164 s bad 2 2 K=K (digs 2 0 s).1 (digs 2 0 s).2.1 (bad || decide (((digs 2 0 s).2.2:Int)<2)):=if_pos (by decide)
theorem A25_44 (s:B) (bad:Bool) (K:Tk164):A164 s bad 4 4 K=K (digs 4 0 s).1 (digs 4 0 s).2.1 (bad || decide (((digs 4 0 s).2.2:Int)<4)):=if_pos (by decide)
theorem digs2_bd (s:B):0≤(digs 2 0 s).1∧(digs 2 0 s).1≤99:=by have:=digs_bd 2 0 s (by omega);simp at this;omega
theorem digs4_bd (s:B):0≤(digs 4 0 s).1∧(digs 4 0 s).1≤9999:=by have:=digs_bd 4 0 s (by omega);simp at this;omega
theorem eq168 (hC:∀ key e t,C key e t=t e) (s:B) (bad:Bool) (K:Tk168) (r:Out) (h:A168 s bad K=some r):run168 C A164 A166 big s bad K=some r:=by
 rw [run168_eq]
 simp only [p1_168_eq _ _ _ hC,p2_168_eq _ _ _ hC,A25_12,A25_22,A166]
 unfold A168 zoneP at h
 rw [← h]
 clear h
 have hb:=digs2_bd s
 cases hs:sg [58] (digs 2 0 s).2.1 with
 | none =>
  simp only
  rw [i64_in (n:=60 * (digs 2 0 s).1) (by omega) (by omega),i64_in (n:=60 * (digs 2 0 s).1+0) (by omega) (by omega),Int.add_zero]
  cases bad<;>cases decide (((digs 2 0 s).2.2:Int)<1)<;>cases decide ((digs 2 0 s).1 > 23)<;>rfl
 | some q =>
  obtain ⟨c,l⟩:=q
  have hl:=digs2_bd l
  have hz:=sg_pos (of:=[58]) (by decide) hs
  have hz':((c.toNat:Int) != 0)=true:=by simp [bne,hz]
  simp only [hz',cond_true]
  rw [i64_in (n:=60 * (digs 2 0 s).1) (by omega) (by omega),i64_in (n:=60 * (digs 2 0 s).1+(digs 2 0 l).1) (by omega) (by omega)]
  cases bad<;>cases decide (((digs 2 0 s).2.2:Int)<1)<;>cases decide (((digs 2 0 l).2.2:Int)<2)<;>cases decide ((digs 2 0 s).1 > 23)<;>cases decide ((digs 2 0 l).1 > 59)<;>rfl
def A169:Ty169:=fun y mo d h mi s fr z K=>K (okMo ⟨y,mo,d,h,mi,s,fr,z⟩)
theorem eq169 (y mo d h mi s:Int) (fr:B) (z:Int) (K:Tk169):run169 C A170 big y mo d h mi s fr z K=A169 y mo d h mi s fr z K:=by
 rw [run169_eq]
 simp only [A170,A169,okMo,ge_iff_le]
 cases decide (1≤d)<;>cases decide (d≤days y mo)<;>cases decide (h<24)<;>cases decide (mi<60)<;>simp
def A111:Ty111:=fun y mo d h mi s fr z K=>if 0≤y∧y≤9999∧1≤mo∧mo≤12∧1≤d∧d≤31∧0≤h∧h<24∧0≤mi∧mi<60 ∧ -1440<z∧z<1440 then
 K (putM ⟨y,mo,d,h,mi,s,fr,z⟩).1 (putM ⟨y,mo,d,h,mi,s,fr,z⟩).2.1 (putM ⟨y,mo,d,h,mi,s,fr,z⟩).2.2.1 ((putM ⟨y,mo,d,h,mi,s,fr,z⟩).2.2.2 / 60) ((putM ⟨y,mo,d,h,mi,s,fr,z⟩).2.2.2 % 60) s fr z
  (decide (0≤(putM ⟨y,mo,d,h,mi,s,fr,z⟩).1)&&decide ((putM ⟨y,mo,d,h,mi,s,fr,z⟩).1≤9999)) else none
theorem days_bd (y m:Int):0≤days y m∧days y m≤31:=by
 unfold days
 split
 ·omega
 ·split
  ·split<;>omega
  ·split<;>omega
theorem days_pos {y m:Int} (hy:0≤y) (h1:1≤m) (h2:m≤12):28≤days y m:=by
 unfold days
 rw [if_neg (by omega)]
 split
 ·split<;>omega
 ·split<;>omega
theorem put_mid (hC:∀ key e t,C key e t=t e) (kk:Nat) (y mo d k h mi s:Int) (fr:B) (z v0 v1 v2 v3 v4 v5:Int) (v6:B) (v7:Int) (K:Tk111) (hy:0≤y∧y≤9999) (hm:1≤mo∧mo≤12) (hd:0≤d∧d≤32) (hk:0≤k∧k<1440) :
  p1_111 C A170 kk y mo d h mi s fr z v0 v1 v2 v3 v4 v5 v6 v7 k K =
   K (adj y mo d k).1 (adj y mo d k).2.1 (adj y mo d k).2.2.1 ((adj y mo d k).2.2.2 / 60) ((adj y mo d k).2.2.2 % 60) s fr z (decide (0≤(adj y mo d k).1)&&decide ((adj y mo d k).1≤9999)):=by
 unfold adj
 have e:∀ (a:Int) (x y:Option Out),(bif decide (a ≥ 0) then x else y)=bif decide (0≤a) then x else y:=fun a x y=>rfl
 have hdb:=days_pos (y:=y) (m:=mo) hy.1 hm.1 hm.2
 rw [p1_111_eq _ _ hC]
 simp only [p2_111_eq _ _ hC,p3_111_eq _ _ hC,p4_111_eq _ _ hC,p5_111_eq _ _ hC,A170,e]
 rw [tdiv_nn hk.1,tmod_nn hk.1,i64_in (n:=k / 60) (by omega) (by omega),i64_in (n:=mo+1) (by omega) (by omega),i64_in (n:=mo - 1) (by omega) (by omega),i64_in (n:=y+1) (by omega) (by omega),i64_in (n:=y - 1) (by omega) (by omega)]
 have h01:¬ ((1:Int)<1):=by omega
 have h112:¬ ((1:Int) > 12):=by omega
 by_cases c1:d > days y mo
 ·have hdd:¬ d<1:=by omega
  by_cases c2:mo+1 > 12
  ·simp only [c1,c2,decide_true,cond_true,h01,h112,decide_false,cond_false,if_true,hdd,if_false]
   cases decide (0≤y+1)<;>simp
  ·simp only [c1,c2,decide_true,cond_true,h01,h112,decide_false,cond_false,if_true,if_false]
   cases decide (0≤y)<;>simp
 ·have hmo:¬ mo > 12:=by omega
  by_cases c3:d<1
  ·by_cases c2:mo - 1<1
   ·simp only [c1,c2,c3,hmo,decide_true,cond_true,h01,h112,decide_false,cond_false,if_true,if_false]
    cases decide (0≤y - 1)<;>simp
   ·simp only [c1,c2,c3,hmo,decide_true,cond_true,h01,h112,decide_false,cond_false,if_true,if_false]
    cases decide (0≤y)<;>simp
  ·simp only [c1,c3,hmo,decide_true,cond_true,h01,h112,decide_false,cond_false,if_true,if_false]
   cases decide (0≤y)<;>simp
theorem eq111k (hC:∀ key e t,C key e t=t e) (kk:Nat) (y mo d h mi s:Int) (fr:B) (z:Int) (K:Tk111) (r:Out) (hA:A111 y mo d h mi s fr z K=some r):run111 C A170 kk y mo d h mi s fr z K=some r:=by
 unfold A111 at hA
 split at hA
 ·rename_i hc
  obtain ⟨y0,y1,m0,m1,d0,d1,h0,h1,i0,i1,z0,z1⟩:=hc
  rw [run111_eq]
  rw [i64_in (n:=60 * h) (by omega) (by omega),i64_in (n:=60 * h+mi) (by omega) (by omega),i64_in (n:=60 * h+mi - z) (by omega) (by omega),i64_in (n:=60 * h+mi - z+1440) (by omega) (by omega),i64_in (n:=60 * h+mi - z - 1440) (by omega) (by omega),i64_in (n:=d - 1) (by omega) (by omega),i64_in (n:=d+1) (by omega) (by omega)]
  rw [← hA]
  unfold putM
  by_cases c1:60 * h+mi - z<0
  ·simp only [c1,decide_true,cond_true,if_true]
   rw [put_mid hC _ _ _ _ _ _ _ _ _ _ _ _ _ _ _ _ _ _ _ ⟨y0,y1⟩ ⟨m0,m1⟩ (by omega) (by omega)]
  ·by_cases c2:60 * h+mi - z ≥ 1440
   ·simp only [c1,c2,decide_true,decide_false,cond_true,cond_false,if_true,if_false]
    rw [put_mid hC _ _ _ _ _ _ _ _ _ _ _ _ _ _ _ _ _ _ _ ⟨y0,y1⟩ ⟨m0,m1⟩ (by omega) (by omega)]
   ·simp only [c1,c2,decide_true,decide_false,cond_true,cond_false,if_true,if_false]
    rw [put_mid hC _ _ _ _ _ _ _ _ _ _ _ _ _ _ _ _ _ _ _ ⟨y0,y1⟩ ⟨m0,m1⟩ (by omega) (by omega)]
 ·cases hA
theorem eq111 (hC:∀ key e t,C key e t=t e) (y mo d h mi s:Int) (fr:B) (z:Int) (K:Tk111) (r:Out) (hA:A111 y mo d h mi s fr z K=some r):run111 C A170 big y mo d h mi s fr z K=some r:=eq111k hC big y mo d h mi s fr z K r hA
def A112:Ty112:=fun n w K=>if w=2∧0≤n∧n≤99 then K (w2 n) else if w=4∧0≤n∧n≤9999 then K (w4 n) else none
theorem itoa_nat (n:Nat):Lib.itoa (n:Int)=Lib.decDigits n:=Lib.itoa_nonneg n
theorem dec1 {n:Nat} (h:n<10):Lib.decDigits n=[UInt8.ofNat (48+n)]:=Lib.decDigits_one h
theorem dec_step {n:Nat} (h:¬ n<10):Lib.decDigits n=Lib.decDigits (n / 10)++[UInt8.ofNat (48+n % 10)]:=by rw [Lib.decDigits,dif_neg h]
theorem w2_itoa (n:Int) (h0:0≤n) (h1:n≤99):(Lib.itoa n).length≤2∧Lib.repeatL [48] (2 - (Lib.itoa n).length)++Lib.itoa n=w2 n:=by
 obtain ⟨n,rfl⟩:∃ m:Nat,n=m:=⟨n.toNat,by omega⟩
 rw [itoa_nat]
 have e:∀ m:Fin 100,(Lib.decDigits m.val).length≤2∧Lib.repeatL [48] (2 - (Lib.decDigits m.val).length)++Lib.decDigits m.val=w2 (m.val:Int):=by
  intro m
  by_cases h:m.val<10
  ·rw [dec1 h]
   have h1:((m.val:Int) / 10 % 10)=0:=by omega
   have h2:((m.val:Int) % 10)=m.val:=by omega
   simp [w2,dc,h1,h2,Lib.repeatL]
  ·rw [dec_step h,dec1 (by omega)]
   have h1:((m.val:Int) / 10 % 10).toNat=m.val / 10:=by omega
   have h2:((m.val:Int) % 10).toNat=m.val % 10:=by omega
   simp [w2,dc,h1,h2,Lib.repeatL]
 exact e ⟨n,by omega⟩
theorem w4_itoa (n:Int) (h0:0≤n) (h1:n≤9999):(Lib.itoa n).length≤4∧Lib.repeatL [48] (4 - (Lib.itoa n).length)++Lib.itoa n=w4 n:=by
 obtain ⟨n,rfl⟩:∃ m:Nat,n=m:=⟨n.toNat,by omega⟩
 rw [itoa_nat]
 have a1:((n:Int) / 1000 % 10).toNat=n / 1000:=by omega
 have a2:((n:Int) / 100 % 10).toNat=n / 100 % 10:=by omega
 have a3:((n:Int) / 10 % 10).toNat=n / 10 % 10:=by omega
 have a4:((n:Int) % 10).toNat=n % 10:=by omega
 unfold w4 dc
 rw [a1,a2,a3,a4]
 by_cases h:n<10
 ·rw [dec1 h]
  have b1:n / 1000=0:=by omega
  have b2:n / 100 % 10=0:=by omega
  have b3:n / 10 % 10=0:=by omega
  have b4:n % 10=n:=by omega
  simp [b1,b2,b3,b4,Lib.repeatL]
 ·rw [dec_step h]
  by_cases h2:n / 10<10
  ·rw [dec1 h2]
   have b1:n / 1000=0:=by omega
   have b2:n / 100 % 10=0:=by omega
   have b3:n / 10 % 10=n / 10:=by omega
   simp [b1,b2,b3,Lib.repeatL]
  ·rw [dec_step h2]
   by_cases h3:n / 10 / 10<10
   ·rw [dec1 h3]
    have b1:n / 1000=0:=by omega
    have b2:n / 100 % 10=n / 10 / 10:=by omega
    simp [b1,b2,Lib.repeatL]
   ·rw [dec_step h3,dec1 (by omega)]
    have b1:n / 1000=n / 10 / 10 / 10:=by omega
    have b2:n / 100 % 10=n / 10 / 10 % 10:=by omega
    simp [b1,b2,Lib.repeatL]
theorem eq112 (n w:Int) (K:Tk112) (r:Out) (h:A112 n w K=some r):run112 C A171 A172 big n w K=some r:=by
 unfold A112 at h
 rw [run112_eq]
 split at h
 ·rename_i hc
  obtain ⟨rfl,h0,h1⟩:=hc
  obtain ⟨hl,he⟩:=w2_itoa n h0 h1
  simp only [A171,A172]
  rw [if_pos (by omega),i64_in (by omega) (by omega),if_pos (by simp;omega)]
  rw [show ((2:Int) - ((Lib.itoa n).length:Int)).toNat=2 - (Lib.itoa n).length by omega]
  rw [cat_ok (by rw [Lib.repeatL_length];simp;omega),he]
  exact h
 ·split at h
  ·rename_i hc
   obtain ⟨rfl,h0,h1⟩:=hc
   obtain ⟨hl,he⟩:=w4_itoa n h0 h1
   simp only [A171,A172]
   rw [if_pos (by omega),i64_in (by omega) (by omega),if_pos (by simp;omega)]
   rw [show ((4:Int) - ((Lib.itoa n).length:Int)).toNat=4 - (Lib.itoa n).length by omega]
   rw [cat_ok (by rw [Lib.repeatL_length];simp;omega),he]
   exact h
  ·cases h
end Go.Proofs.YtffmgholjdfcnaaGreatDoor
