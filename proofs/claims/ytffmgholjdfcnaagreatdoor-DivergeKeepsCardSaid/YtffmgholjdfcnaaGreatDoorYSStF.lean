import Derived.Test.YtffmgholjdfcnaaGreatDoorYSStO
import Derived.Test.YtffmgholjdfcnaaGreatDoorKSC
set_option linter.unusedSimpArgs false
set_option linter.unusedVariables false
namespace Go.Proofs.YtffmgholjdfcnaaGreatDoor
open Go AM St
open Go.IntKind (i64 u8)
variable {C:Nat→Env→(Env→Option Out)→Option Out}
def A92:Ty92:=fun c K=>K (decide (48≤c)&&decide (c≤57))
theorem eq92 (c:Int) (K:Tk92):run92 C big c K=A92 c K:=by
 rw [run92_eq]
 show (bif decide (48≤c) then K (decide (c≤57)) else K false)=A92 c K
 unfold A92
 cases decide (48≤c)<;>rfl
theorem A35_dg (c:UInt8) (K:Tk92):A92 (c.toNat:Int) K=K (dg c):=by
 unfold A92 dg
 congr 2
 ·exact decide_eq_decide.2 (by omega)
 ·exact decide_eq_decide.2 (by omega)
def A125:Ty125:=fun y m K=>K (days y m)
theorem eq125 (hC:∀ key e t,C key e t=t e) (y m:Int) (K:Tk125):run125 C big y m K=A125 y m K:=by
 rw [run125_eq]
 simp only [p1_125_eq _ hC,p2_125_eq _ hC,p3_125_eq _ hC,A125,days]
 by_cases h:y<0
 ·simp [Bool.cond_eq_ite,h]
 ·have h4:=tmod_nn (a:=y) (b:=4) (by omega)
  have h100:=tmod_nn (a:=y) (b:=100) (by omega)
  have h400:=tmod_nn (a:=y) (b:=400) (by omega)
  rw [h4,h100,h400]
  by_cases h1:m<1
  ·simp [Bool.cond_eq_ite,h,h1]
  ·by_cases h2:m > 12
   ·simp [Bool.cond_eq_ite,h,h1,h2]
   ·by_cases h3:m=2
    ·subst h3
     by_cases a:y % 4=0<;>by_cases b:y % 100=0<;>by_cases c:y % 400=0<;>simp [Bool.cond_eq_ite,h,a,b,c]
    ·by_cases a:m=4
     ·subst a;simp [Bool.cond_eq_ite,h]
     ·by_cases b:m=6
      ·subst b;simp [Bool.cond_eq_ite,h]
      ·by_cases c:m=9
       ·subst c;simp [Bool.cond_eq_ite,h]
       ·by_cases d:m=11
        ·subst d;simp [Bool.cond_eq_ite,h]
        ·simp [Bool.cond_eq_ite,h,h1,h2,h3,a,b,c,d]
def A20:Ty20:=fun n K=>if 0≤n∧n≤9223372036854775807 then K (Lib.decDigits n.toNat) else none
theorem digit_byte (n:Nat):(([u8.wrap (i64.wrap ((48:Int)+((n % 10:Nat):Int)))]:List Int).map fun n=>UInt8.ofNat n.toNat)=[UInt8.ofNat (48+n % 10)]:=by
 rw [i64_in (by omega) (by omega),u8_in (by omega) (by omega)]
 simp only [List.map_cons,List.map_nil]
 congr 2
theorem loop13 (hC:∀ key e t,C key e t=t e) (kk:Nat) (K:Tk20):∀ (d:Nat) (j n:Nat) (acc:B),Lib.nDigits n=d→d<j→n≤9223372036854775807→acc.length+d≤1000 →
  l1_20 C kk j (n:Int) acc K=K (Lib.decDigits n++acc):=by
 intro d
 induction d with
 | zero=>intro j n acc hd;have:=Lib.nDigits_pos n;omega
 | succ d ih =>
  intro j n acc hd hj hn ha
  obtain ⟨j,rfl⟩:∃ i,j=i+1:=⟨j - 1,by omega⟩
  rw [l1_20_eq _ hC,tmod_nn (by omega),tdiv_nn (by omega)]
  have e1:(n:Int) % 10=((n % 10:Nat):Int):=by omega
  have e2:(n:Int) / 10=((n / 10:Nat):Int):=by omega
  rw [e1,e2,digit_byte,i64_in (by omega) (by omega),cat_ok (by simp;omega),oB]
  by_cases h:n<10
  ·have e3:(((n / 10:Nat):Int)==0)=true:=by
    have:n / 10=0:=by omega
    simp [this]
   rw [e3,cond_true,dec1 h]
   have:n % 10=n:=by omega
   rw [this]
  ·have e3:(((n / 10:Nat):Int)==0)=false:=by
    have:¬ ((n / 10:Nat):Int)=0:=by omega
    simpa using this
   rw [e3,cond_false]
   have hb:=Lib.nDigits_big h
   rw [ih j (n / 10) _ (by omega) (by omega) (by omega) (by simp;omega),dec_step h]
   simp
theorem nDigits_le {n : Nat} (h : n ≤ 9223372036854775807) : Lib.nDigits n ≤ 19 := by
  by_cases h0 : n < 10
  · rw [Lib.nDigits_small h0]; omega
  · have h1 := Lib.lt_pow_nDigits (n / 10)
    have key : ∀ k m : Nat, m < 10 ^ (k + 1) → Lib.nDigits m ≤ k + 1 := by
      intro k
      induction k with
      | zero => intro m hm; rw [Lib.nDigits_small (by omega)]; omega
      | succ k ih =>
        intro m hm
        by_cases hs : m < 10
        · rw [Lib.nDigits_small hs]; omega
        · rw [Lib.nDigits_big hs]
          have := ih (m / 10) (by rw [Nat.pow_succ] at hm; omega)
          omega
    exact key 18 n (by have : (10 : Nat) ^ 19 = 10000000000000000000 := by decide
                       omega)
theorem eq20 (hC:∀ key e t,C key e t=t e) (n:Int) (K:Tk20) (r:Out) (h:A20 n K=some r):run20 C big n K=some r:=by
 unfold A20 at h
 split at h
 ·rename_i hc
  obtain ⟨m,rfl⟩:∃ m:Nat,n=m:=⟨n.toNat,by omega⟩
  have hm:=nDigits_le (n:=m) (by omega)
  rw [run20_eq,loop13 hC big K (Lib.nDigits m) big m [] rfl (big_gt (by omega)) (by omega) (by simp;omega)]
  simpa using h
 ·cases h
theorem A13_1 {n:Int} {K:Tk20} (h0:0≤n) (h1:n<10):A20 n K=K [dc n]:=by
 unfold A20
 rw [if_pos (by omega),dec1 (by omega)]
 rfl
def A180:Ty180:=fun n K=>if 0≤n∧n≤99 then K (w2 n) else none
theorem eq180 (n:Int) (K:Tk180) (r:Out) (h:A180 n K=some r):run180 C A20 big n K=some r:=by
 unfold A180 at h
 split at h
 ·rename_i hc
  rw [run180_eq,tdiv_nn hc.1,tmod_nn hc.1,i64_in (by omega) (by omega),A13_1 (by omega) (by omega),A13_1 (by omega) (by omega),cat_ok (by simp),oB,← h]
  have:n / 10 % 10=n / 10:=by omega
  unfold w2
  rw [this]
  rfl
 ·cases h
def dayT (y m d:Int):B:=w4 y++[45]++w2 m++[45]++w2 d
def A219:Ty219:=fun y m d K=>if 0≤y∧y≤9999∧0≤m∧m≤99∧0≤d∧d≤99 then K (dayT y m d) else none
theorem w4_two (y:Int) (h0:0≤y) (h1:y≤9999):w2 (y / 100)++w2 (y % 100)=w4 y:=by
 unfold w2 w4
 have a1:y / 100 / 10 % 10=y / 1000 % 10:=by omega
 have a3:y % 100 / 10 % 10=y / 10 % 10:=by omega
 have a4:y % 100 % 10=y % 10:=by omega
 rw [a1,a3,a4]
 rfl
theorem A38_ok {n:Int} {K:Tk180} (h0:0≤n) (h1:n≤99):A180 n K=K (w2 n):=if_pos ⟨h0,h1⟩
theorem eq219 (y m d:Int) (K:Tk219) (r:Out) (h:A219 y m d K=some r):run219 C A180 big y m d K=some r:=by
 unfold A219 at h
 split at h
 ·rename_i hc
  obtain ⟨y0,y1,m0,m1,d0,d1⟩:=hc
  rw [run219_eq,tdiv_nn y0,tmod_nn y0,i64_in (by omega) (by omega),A38_ok (by omega) (by omega),A38_ok (by omega) (by omega),cat_ok (by simp [w2_len]),oB,w4_two y y0 y1,
   cat_ok (by simp [w4_len]),oB,A38_ok m0 m1,cat_ok (by simp [w4_len,w2_len]),oB,cat_ok (by simp [w4_len,w2_len]),oB,A38_ok d0 d1,cat_ok (by simp [w4_len,w2_len]),oB,← h]
  rfl
 ·cases h
theorem at_ok {s:B} {i:Int} {p:Nat} (e:i=p) (h:p<s.length):at? s i=some s[p]:=by
 subst e
 unfold at?
 rw [if_pos (by omega),Int.toNat_natCast,List.getElem?_eq_getElem h]
def A123:Ty123:=fun s i least most K=>if 0≤i∧i≤s.length∧s.length≤1099511627776∧0≤least∧0≤most∧most≤8 then
 (match num least.toNat most.toNat (s.drop i.toNat) with
  | none=>K 0 (-1)
  | some (n,l)=>K n ((s.length - l.length:Nat):Int)) else none
theorem loop21 (hC:∀ key e t,C key e t=t e) (kk:Nat) (s:B) (i:Nat) (least most:Int) (K:Tk123) (hs:s.length≤1099511627776) (hm:most≤8):∀ (m j t:Nat) (n:Int),m<j→i+t≤s.length→(t:Int)+m=most→0≤n→n<10 ^ t →
  l1_123 C A92 kk j s (i:Int) least most n ((i+t:Nat):Int) K =
   (bif decide (((t+(digs m n (s.drop (i+t))).2.2:Nat):Int)<least) then K 0 (-1) else K (digs m n (s.drop (i+t))).1 ((i+t+(digs m n (s.drop (i+t))).2.2:Nat):Int)):=by
 have fin:∀ (n:Int) (t:Nat),i+t≤s.length→i64.wrap (((i+t:Nat):Int) - (i:Int))=(t:Int):=by
  intro n t h;rw [i64_in (by omega) (by omega)];omega
 intro m
 induction m with
 | zero =>
  intro j t n hj ht htm h0 h1
  obtain ⟨j,rfl⟩:∃ i,j=i+1:=⟨j - 1,by omega⟩
  rw [l1_123_eq _ _ hC,fin n t ht]
  have h2:¬ (t:Int)<most:=by omega
  simp only [h2,decide_false,cond_false,digs,Nat.add_zero]
  cases decide (((i+t:Nat):Int)<(s.length:Int))<;>rfl
 | succ m ih =>
  intro j t n hj ht htm h0 h1
  obtain ⟨j,rfl⟩:∃ i,j=i+1:=⟨j - 1,by omega⟩
  rw [l1_123_eq _ _ hC,fin n t ht]
  have h2:(t:Int)<most:=by omega
  by_cases h3:i+t<s.length
  ·have h4:((i+t:Nat):Int)<(s.length:Int):=by omega
   simp only [h2,h4,decide_true,cond_true]
   rw [at_ok rfl h3]
   simp only [oB]
   rw [A35_dg,drop_cons h3]
   cases hc:dg s[i+t] with
   | false=>rw [digs_no hc];rfl
   | true =>
    have hd:=dv_bd hc
    have hp:(10:Int) ^ t≤10 ^ 7:=by
     have:(10:Nat) ^ t≤10 ^ 7:=Nat.pow_le_pow_right (by decide) (by omega)
     exact_mod_cast this
    have hp':(10:Int) ^ 7=10000000:=by decide
    rw [digs_yes hc,cond_true,digit_step h0 (by omega) hc,i64_in (by omega) (by omega)]
    have e1:((i+t:Nat):Int)+1=((i+(t+1):Nat):Int):=by omega
    rw [e1,ih j (t+1) _ (by omega) (by omega) (by omega) (by omega) (by
     rw [Int.pow_succ]
     have:(0:Int)<10 ^ t:=Int.pow_pos (by decide)
     omega)]
    have e2:i+(t+1)=i+t+1:=rfl
    simp only [e2]
    have e3:∀ x:Nat,t+1+x=t+(x+1):=by intro x;omega
    have e4:∀ x:Nat,i+t+1+x=i+t+(x+1):=by intro x;omega
    rw [e3,e4]
  ·have h4:¬ ((i+t:Nat):Int)<(s.length:Int):=by omega
   have h5:s.drop (i+t)=[]:=List.drop_eq_nil_of_le (by omega)
   simp only [h4,decide_false,cond_false,h5,digs,Nat.add_zero]
theorem eq123 (hC:∀ key e t,C key e t=t e) (s:B) (i least most:Int) (K:Tk123) (r:Out) (h:A123 s i least most K=some r):run123 C A92 big s i least most K=some r:=by
 unfold A123 at h
 split at h
 ·rename_i hc
  obtain ⟨i0,i1,hs,l0,m0,m1⟩:=hc
  obtain ⟨p,rfl⟩:∃ p:Nat,i=p:=⟨i.toNat,by omega⟩
  obtain ⟨a,rfl⟩:∃ p:Nat,least=p:=⟨least.toNat,by omega⟩
  obtain ⟨m,rfl⟩:∃ p:Nat,most=p:=⟨most.toNat,by omega⟩
  rw [run123_eq]
  have e:=loop21 hC big s p a m K hs m1 m big 0 0 (big_gt (by omega)) (by omega) (by omega) (by omega) (by simp)
  rw [Nat.add_zero] at e
  rw [e,← h]
  simp only [Int.toNat_natCast,Nat.zero_add]
  unfold num
  have e1:decide (((digs m 0 (s.drop p)).2.2:Int)<(a:Int))=decide ((digs m 0 (s.drop p)).2.2<a):=decide_eq_decide.2 (by omega)
  rw [e1]
  have hl:=digs_len m 0 (s.drop p)
  rw [List.length_drop] at hl
  cases decide ((digs m 0 (s.drop p)).2.2<a) with
  | true=>rfl
  | false =>
   simp only [cond_false]
   congr 2
   omega
 ·cases h
theorem sg_in {of:B} {c:UInt8} (h:of.contains c=true) (l:B):sg of (c :: l)=some (c,l):=by simp only [sg,h]
theorem sg_out {of:B} {c:UInt8} (h:of.contains c=false) (l:B):sg of (c :: l)=none:=by simp only [sg,h]
def A126:Ty126:=fun s i of K=>if s.length≤1099511627776∧of.length≤1099511627776 then
 (match decide (0≤i) with
  | false=>K (-1)
  | true=>match sg of (s.drop i.toNat) with
   | none=>K (-1)
   | some _=>K (i+1)) else none
theorem loop23 (hC:∀ key e t,C key e t=t e) (kk:Nat) (s of:B) (i:Nat) (hi:i<s.length) (hs:s.length≤1099511627776) (ho:of.length≤1099511627776) (K:Tk126):∀ (m j q:Nat),of.length - q=m→m<j→q≤of.length →
  l2_126 C kk j s (i:Int) of (q:Int) K=match (of.drop q).contains s[i] with | true=>K ((i:Int)+1) | false=>K (-1):=by
 intro m
 induction m with
 | zero =>
  intro j q hm hj hq
  obtain ⟨j,rfl⟩:∃ i,j=i+1:=⟨j - 1,by omega⟩
  have h1:¬ (q:Int)<(of.length:Int):=by omega
  have h2:of.drop q=[]:=List.drop_eq_nil_of_le (by omega)
  rw [l2_126_eq _ hC,h2]
  simp only [h1,decide_false,cond_false]
  rfl
 | succ m ih =>
  intro j q hm hj hq
  obtain ⟨j,rfl⟩:∃ i,j=i+1:=⟨j - 1,by omega⟩
  have h1:(q:Int)<(of.length:Int):=by omega
  have h2:q<of.length:=by omega
  rw [l2_126_eq _ hC]
  simp only [h1,decide_true,cond_true]
  rw [at_ok rfl hi,oB,at_ok rfl h2,oB,i64_in (n:=(i:Int)+1) (by omega) (by omega),i64_in (n:=(q:Int)+1) (by omega) (by omega)]
  have e1:(q:Int)+1=((q+1:Nat):Int):=by omega
  rw [e1,ih j (q+1) (by omega) (by omega) (by omega),drop_cons h2,List.contains_cons]
  have e2:(((s[i]).toNat:Int)==((of[q]).toNat:Int))=(s[i]==of[q]):=by
   rw [Bool.eq_iff_iff];simp [← UInt8.toNat_inj];omega
  rw [e2]
  cases (s[i]==of[q])<;>rfl
theorem eq126 (hC:∀ key e t,C key e t=t e) (s:B) (i:Int) (of:B) (K:Tk126) (r:Out) (h:A126 s i of K=some r):run126 C big s i of K=some r:=by
 unfold A126 at h
 split at h
 ·rename_i hc
  rw [run126_eq,← h]
  simp only [p1_126_eq _ hC]
  by_cases h0:i<0
  ·have h1:¬ 0≤i:=by omega
   simp only [h0,h1,decide_true,decide_false,cond_true]
  ·have h1:0≤i:=by omega
   obtain ⟨p,rfl⟩:∃ p:Nat,i=p:=⟨i.toNat,by omega⟩
   simp only [h0,h1,decide_true,decide_false,cond_false,Int.toNat_natCast]
   by_cases h2:p<s.length
   ·have h3:¬ (p:Int) ≥ (s.length:Int):=by omega
    have e:=loop23 hC big s of p h2 hc.1 hc.2 K of.length big 0 rfl (big_gt hc.2) (by omega)
    have e0:((0:Nat):Int)=0:=rfl
    rw [e0,List.drop_zero] at e
    simp only [h3,decide_false,cond_false]
    rw [e,drop_cons h2]
    cases hcc:of.contains s[p] with
    | true=>rw [sg_in hcc]
    | false=>rw [sg_out hcc]
   ·have h3:(p:Int) ≥ (s.length:Int):=by omega
    have h4:s.drop p=[]:=List.drop_eq_nil_of_le (by omega)
    simp only [h3,decide_true,cond_true,h4]
    rfl
 ·cases h
end Go.Proofs.YtffmgholjdfcnaaGreatDoor
