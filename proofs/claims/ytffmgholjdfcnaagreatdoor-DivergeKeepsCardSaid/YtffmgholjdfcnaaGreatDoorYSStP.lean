import Derived.Test.YtffmgholjdfcnaaGreatDoorKSC
import Derived.Test.YtffmgholjdfcnaaGreatDoorYSStA
import Derived.Test.YtffmgholjdfcnaaGreatDoorKSA
import Derived.Lib.Repeat
import Derived.IntWalk
set_option linter.unusedSimpArgs false
set_option linter.unusedVariables false
namespace Go.Proofs.YtffmgholjdfcnaaGreatDoor
open Go AM St
open Go.IntKind (i64 u8)
variable {C:Nat→Env→(Env→Option Out)→Option Out}
theorem i64_in {n:Int} (h0:-9223372036854775808≤n) (h1:n≤9223372036854775807):i64.wrap n=n:=by rw [IntKind.wrap_i64];omega
theorem u8_in {n:Int} (h0:0≤n) (h1:n≤255):u8.wrap n=n:=by rw [IntKind.wrap_u8];omega
theorem u8_lt (c:UInt8):(c.toNat:Int)≤255:=by have:=c.toNat_lt;omega
theorem at0 (c:UInt8) (l:B):at? (c :: l) 0=some c:=rfl
theorem cut1 (c:UInt8) (l:B):cut (c :: l) (some (1:Int)) none=some l:=by
 unfold cut
 rw [if_pos]
 ·simp
 ·simp;omega
theorem tmod_nn {a b:Int} (h:0≤a):a.tmod b=a % b:=Int.tmod_eq_emod_of_nonneg h
theorem tdiv_nn {a b:Int} (h:0≤a):a.tdiv b=a / b:=Int.tdiv_eq_ediv_of_nonneg h
theorem cat_ok {a b:B} (h:a.length+b.length≤4611686018427387904):cat a b=some (a++b):=if_pos h
def A155:Ty155:=fun s c K=>K (Lib.indexByte s c.toNat.toUInt8)
def A151:Ty151:=fun s c K=>match c with
 | [x]=>if x.toNat<128∧s.length≤4611686018427387904 then K (Lib.trimRightB s x) else none
 | _=>none
def A171:Ty171:=fun n K=>if -9223372036854775808≤n∧n≤9223372036854775807 then K (Lib.itoa n) else none
def A172:Ty172:=fun s n K=>if 0≤n∧n≤1000000∧s.length≤1000 then K (Lib.repeatL s n.toNat) else none
def A68:Ty68:=fun s K=>if s.length≤281474976710656 then K s else none
def A170:Ty170:=fun y m K=>K (days y m)
theorem eq170 (hC:∀ key e t,C key e t=t e) (y m:Int) (K:Tk170):run170 C big y m K=A170 y m K:=by
 rw [run170_eq]
 simp only [p1_170_eq _ hC,p2_170_eq _ hC,p3_170_eq _ hC,A170,days]
 by_cases h:y<0
 ·simp [Bool.cond_eq_ite,h]
 ·have h4:=tmod_nn (a:=y) (b:=4) (by omega)
  have h100:=tmod_nn (a:=y) (b:=100) (by omega)
  have h400:=tmod_nn (a:=y) (b:=400) (by omega)
  rw [h4,h100,h400]
  by_cases h1:m<1
  ·simp [Bool.cond_eq_ite,h,h1]
  ·by_cases h2:m > 12
   ·simp [Bool.cond_eq_ite,h,h1,h2]
   ·by_cases h3:m=2
    ·subst h3
     by_cases a:y % 4=0<;>by_cases b:y % 100=0<;>by_cases c:y % 400=0<;>simp [Bool.cond_eq_ite,h,a,b,c]
    ·by_cases a:m=4
     ·subst a;simp [Bool.cond_eq_ite,h]
     ·by_cases b:m=6
      ·subst b;simp [Bool.cond_eq_ite,h]
      ·by_cases c:m=9
       ·subst c;simp [Bool.cond_eq_ite,h]
       ·by_cases d:m=11
        ·subst d;simp [Bool.cond_eq_ite,h]
        ·simp [Bool.cond_eq_ite,h,h1,h2,h3,a,b,c,d]
def A166:Ty166:=fun s bad of K=>match sg of s with
 | none=>K 0 s bad
 | some (c,l)=>K (c.toNat:Int) l bad
theorem indexByte_lt (of:B) (c:UInt8):decide (Lib.indexByte of c<0)=!of.contains c:=by
 induction of with
 | nil=>rfl
 | cons b l ih =>
  unfold Lib.indexByte
  rw [List.contains_cons]
  by_cases hbc:b=c
  ·subst hbc
   simp
  ·have h:(b==c)=false:=beq_eq_false_iff_ne.2 hbc
   have h':(c==b)=false:=beq_eq_false_iff_ne.2 (Ne.symm hbc)
   have hge:=Lib.indexByte_ge l c
   simp only [h,h',Bool.false_or,Bool.false_eq_true,if_false]
   split
   ·rename_i e
    have e:Lib.indexByte l c = -1:=by simpa using e
    rw [e] at ih
    rw [← ih]
   ·rename_i e
    have e:Lib.indexByte l c ≠ -1:=by simpa using e
    rw [← ih]
    have h1:¬ (Lib.indexByte l c+1<0):=by omega
    have h2:¬ (Lib.indexByte l c<0):=by omega
    simp [h1,h2]
theorem toUInt8_toNat (c:UInt8):((c.toNat:Int)).toNat.toUInt8=c:=by simp
theorem eq166 (hC:∀ key e t,C key e t=t e) (s:B) (bad:Bool) (of:B) (K:Tk166):run166 C A155 big s bad of K=A166 s bad of K:=by
 rw [run166_eq]
 simp only [p1_166_eq _ _ hC,A166,A155]
 cases s with
 | nil=>simp [sg]
 | cons c l =>
  have h:((c :: l)==([]:B))=false:=rfl
  simp only [h,cond_false,at0,cut1,oB,toUInt8_toNat,indexByte_lt,sg]
  cases of.contains c<;>rfl
def A165:Ty165:=fun s bad of K=>match of.contains 0 with
 | true=>none
 | false=>match sg of s with
  | none=>K 0 s true
  | some (c,l)=>K (c.toNat:Int) l bad
theorem sg_mem {of s l:B} {c:UInt8} (h:sg of s=some (c,l)):of.contains c=true∧s=c :: l:=by
 cases s with
 | nil=>cases h
 | cons a r =>
  simp only [sg] at h
  cases hc:of.contains a with
  | true=>rw [hc] at h;cases h;exact ⟨hc,rfl⟩
  | false=>rw [hc] at h;cases h
theorem sg_pos {of s l:B} {c:UInt8} (hz:of.contains 0=false) (h:sg of s=some (c,l)):((c.toNat:Int)==0)=false:=by
 have h1:=(sg_mem h).1
 have:c ≠ 0:=by rintro rfl;rw [hz] at h1;cases h1
 have h2:c.toNat ≠ 0:=fun e=>this (UInt8.toNat_inj.1 (by simpa using e))
 have h3:¬ ((c.toNat:Int)=0):=by omega
 simpa using h3
theorem eq165 (hC:∀ key e t,C key e t=t e) (s:B) (bad:Bool) (of:B) (K:Tk165) (r:Out) (h:A165 s bad of K=some r):run165 C A166 big s bad of K=some r:=by
 rw [run165_eq]
 simp only [p1_165_eq _ _ hC,A166]
 unfold A165 at h
 cases hz:of.contains 0 with
 | true=>rw [hz] at h;cases h
 | false =>
  rw [hz] at h
  dsimp only at h
  cases e:sg of s with
  | none =>
   rw [e] at h
   cases bad<;>simpa using h
  | some p =>
   rw [e] at h
   have:=sg_pos (c:=p.1) (l:=p.2) hz e
   cases bad<;>simpa [this] using h
def A164:Ty164:=fun s bad least most K=>if 0≤least∧0≤most∧most≤8 then
 K (digs most.toNat 0 s).1 (digs most.toNat 0 s).2.1 (bad || decide (((digs most.toNat 0 s).2.2:Int)<least)) else none
theorem digits_contains (c:UInt8):([48,49,50,51,52,53,54,55,56,57]:B).contains c=dg c:=by
 have e:∀ n:Fin 256,([48,49,50,51,52,53,54,55,56,57]:B).contains (UInt8.ofNat n.val)=dg (UInt8.ofNat n.val):=by decide +kernel
 have:=e ⟨c.toNat,c.toNat_lt⟩
 simpa using this
theorem sg_no {c:UInt8} (h:dg c=false) (l:B):sg [48,49,50,51,52,53,54,55,56,57] (c :: l)=none:=by simp only [sg,digits_contains,h]
theorem sg_yes {c:UInt8} (h:dg c=true) (l:B):sg [48,49,50,51,52,53,54,55,56,57] (c :: l)=some (c,l):=by simp only [sg,digits_contains,h]
theorem digs_no {c:UInt8} (h:dg c=false) (m:Nat) (n:Int) (l:B):digs (m+1) n (c :: l)=(n,c :: l,0):=by simp only [digs,h]
theorem digs_yes {c:UInt8} (h:dg c=true) (m:Nat) (n:Int) (l:B):digs (m+1) n (c :: l)=((digs m (10 * n+dv c) l).1,(digs m (10 * n+dv c) l).2.1,(digs m (10 * n+dv c) l).2.2+1):=by simp only [digs,h]
theorem digit_step {n:Int} {c:UInt8} (h0:0≤n) (h1:n<100000000) (hc:dg c=true) :
  i64.wrap (i64.wrap ((10:Int) * n)+i64.wrap (u8.wrap ((c.toNat:Int) - 48)))=10 * n+dv c:=by
 have:=dv_bd hc
 unfold dv at *
 rw [u8_in (by omega) (by omega),i64_in (n:=10 * n) (by omega) (by omega),i64_in (n:=(c.toNat:Int) - 48) (by omega) (by omega),i64_in (by omega) (by omega)]
theorem loop25 (hC:∀ key e t,C key e t=t e) (bad:Bool) (least most:Int) (K:Tk164) (hm:most≤8) (hl:0≤least):∀ (m:Nat) (j:Nat) (s:B) (n k:Int),m<j→0≤k→k+m=most→0≤n→n<10 ^ k.toNat →
  l1_164 C A166 big j s bad least most n k K=K (digs m n s).1 (digs m n s).2.1 (bad || decide (k+((digs m n s).2.2:Int)<least)):=by
 have fin:∀ s n k,p2_164 C A166 big s bad least n k K=K n s (bad || decide (k<least)):=by
  intro s n k
  rw [p2_164_eq _ _ hC]
  simp only [p3_164_eq _ _ hC]
  cases bad<;>rfl
 intro m
 induction m with
 | zero =>
  intro j s n k hj hk hkm h0 h1
  obtain ⟨j,rfl⟩:∃ i,j=i+1:=⟨j - 1,by omega⟩
  have:¬ k<most:=by omega
  rw [l1_164_eq _ _ hC,fin]
  simp [this,digs]
 | succ m ih =>
  intro j s n k hj hk hkm h0 h1
  obtain ⟨j,rfl⟩:∃ i,j=i+1:=⟨j - 1,by omega⟩
  have hlt:k<most:=by omega
  rw [l1_164_eq _ _ hC]
  simp only [fin,hlt,decide_true,cond_true,A166]
  cases s with
  | nil=>simp [sg,digs]
  | cons c l =>
   cases hc:dg c with
   | false=>rw [sg_no hc,digs_no hc];simp
   | true =>
    rw [sg_yes hc,digs_yes hc]
    have hd:=dv_bd hc
    have hz:((c.toNat:Int)==0)=false:=by
     unfold dv at hd
     have:¬ ((c.toNat:Int)=0):=by omega
     simpa using this
    have hp:(10:Int) ^ k.toNat≤10 ^ 7:=by
     have:(10:Nat) ^ k.toNat≤10 ^ 7:=Nat.pow_le_pow_right (by decide) (by omega)
     exact_mod_cast this
    have hp':(10:Int) ^ 7=10000000:=by decide
    simp only [hz,cond_false]
    rw [digit_step h0 (by omega) hc,i64_in (n:=k+1) (by omega) (by omega)]
    rw [ih j l (10 * n+dv c) (k+1) (by omega) (by omega) (by omega) (by omega) (by
     rw [show (k+1).toNat=k.toNat+1 by omega,Int.pow_succ]
     have:(0:Int)<10 ^ k.toNat:=Int.pow_pos (by decide)
     omega)]
    congr 3
    push_cast
    congr 1
    omega
theorem big_gt {n:Nat} (h:n≤1099511627776):n<big:=by
 have:(1099511627776:Nat)<big:=by decide +kernel
 omega
theorem eq164 (hC:∀ key e t,C key e t=t e) (s:B) (bad:Bool) (least most:Int) (K:Tk164) (r:Out) (h:A164 s bad least most K=some r):run164 C A166 big s bad least most K=some r:=by
 unfold A164 at h
 split at h
 ·rename_i hc
  rw [run164_eq,loop25 hC bad least most K hc.2.2 hc.1 most.toNat big s 0 0 (big_gt (by omega)) (by omega) (by omega) (by omega) (by simp)]
  simpa using h
 ·cases h
end Go.Proofs.YtffmgholjdfcnaaGreatDoor
