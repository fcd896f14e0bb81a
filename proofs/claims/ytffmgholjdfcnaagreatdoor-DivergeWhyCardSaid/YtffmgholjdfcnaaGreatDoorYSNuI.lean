import Derived.Test.YtffmgholjdfcnaaGreatDoorYSNuC
set_option linter.unusedSimpArgs false
set_option linter.unusedVariables false
namespace Go.Proofs.YtffmgholjdfcnaaGreatDoor
open Go AM St Nu
open Go.IntKind (i64 u8)
variable {C:Nat→Env→(Env→Option Out)→Option Out}
theorem A146_ok {d:B} {m k:Int} {K:Tk146} (h:isD d=true) (hl:d.length≤1000000000000) (hm:0≤m∧m≤1099511627776) (hk:0≤k∧k≤1099511627776):A146 d m k K=K (mulAdd d m k):=if_pos ⟨h,hl,hm,hk⟩
theorem A173_ok {d:B} {m k:Int} {K:Tk173} (h:isD d=true) (hl:d.length≤1000000000000) (hm:0≤m∧m≤1099511627776) (hk:0≤k∧k≤1099511627776):A173 d m k K=K (mulAdd d m k):=if_pos ⟨h,hl,hm,hk⟩
theorem mulAdd_len {d:B} {m k:Int} (h:isD d=true) (hm:0≤m∧m≤1099511627776) (hk:0≤k∧k≤1099511627776):(mulAdd d m k).length≤d.length+14:=by
 have hb:=mulR_bd hm hk d (isD_all h).1
 have h1:=norm_len false (Lib.itoa (mulR m k d).2++(mulR m k d).1)
 have h2:=itoa_len hb.1 hb.2
 rw [List.length_append,mulR_len] at h1
 unfold mulAdd
 omega
theorem hex_two {b:Int} (hb:b≤16) (c:UInt8):decide (hexV (c.toNat:Int) 16 ≥ b)=decide (hexD c ≥ b)∧(decide (hexD c ≥ b)=false→hexV (c.toNat:Int) 16=hexD c):=by
 unfold hexD hexV
 split
 ·exact ⟨rfl,fun _=>rfl⟩
 ·split
  ·exact ⟨rfl,fun _=>rfl⟩
  ·split
   ·exact ⟨rfl,fun _=>rfl⟩
   ·refine ⟨?_,fun h=>?_⟩
    ·rw [dT (by omega),dT (by omega)]
    ·simp at h;omega
theorem u8_bd (c:UInt8):0≤(c.toNat:Int)∧(c.toNat:Int)≤255:=⟨by omega,u8_lt c⟩
def A95:Ty95:=fun s b K=>if s.length≤1000000 then K (baseN s b) else none
def A113:Ty113:=fun s b K=>if s.length≤1000000 then K (baseN s b) else none
theorem loop95 (hC:∀ key e t,C key e t=t e) {s:B} (hs:s.length≤1000000) {b:Int} (hb:b=2∨b=8∨b=16) {K:Tk95} (kk:Nat):∀ (l acc:B) (j:Nat),l <:+ s→l.length<j→isD acc=true→acc.length+14 * l.length≤100000000 →
  l2_95 C A145 A146 kk j s b acc (s.length:Int) (Pt s l) K=K (baseGo b acc l)
 | [],acc,j,h,hj,ha,hl=>by
  obtain ⟨j,rfl⟩:∃ i,j=i+1:=⟨j - 1,by omega⟩
  rw [l2_95_eq _ _ _ hC,Pt_end,dF (by omega),cond_false]
  rfl
 | c :: l,acc,j,h,hj,ha,hl=>by
  obtain ⟨j,rfl⟩:∃ i,j=i+1:=⟨j - 1,by omega⟩
  have hl':l <:+ s:=(List.suffix_cons c l).trans h
  obtain ⟨x1,x2⟩:=hex_two (b:=b) (by omega) c
  have e145:∀ k,A145 (c.toNat:Int) k=k (hexV (c.toNat:Int) 16):=fun k=>if_pos (u8_bd c)
  rw [l2_95_eq _ _ _ hC,dT (Pt_lt h),cond_true,at_Pt h,oB,e145,x1,Pt_succ h (by omega)]
  unfold baseGo
  cases hd:decide (hexD c ≥ b) with
  | true=>rfl
  | false =>
   have hlt:hexD c<b:=by simpa using hd
   have hnn:=hexD_nn c
   have hk:0≤hexD c∧hexD c≤1099511627776:=by omega
   have hm:0≤b∧b≤1099511627776:=by omega
   have hml:=mulAdd_len (k:=hexD c) ha hm hk
   simp only [List.length_cons] at hl hj
   rw [cond_false,x2 hd,A146_ok ha (by omega) hm hk]
   exact loop95 hC hs hb kk l _ j hl' (by omega) (mulAdd_isD ha hm hk).1 (by omega)
theorem eq95 (hC:∀ key e t,C key e t=t e) (s:B) (b:Int) (K:Tk95) (r:Out) (h:A95 s b K=some r):run95 C A145 A146 big s b K=some r:=by
 unfold A95 at h
 split at h
 ·rename_i hs
  rw [← h,run95_eq]
  have e:∀ x,(bif (b != 2) then (bif (b != 8) then (bif (b != 16) then (p1_95 C A145 A146 big s b true K) else (p1_95 C A145 A146 big s b x K)) else (p1_95 C A145 A146 big s b x K)) else (p1_95 C A145 A146 big s b x K))=p1_95 C A145 A146 big s b (!((b==2 || b==8 || b==16)&&!x)) K:=by
   intro x
   unfold bne
   cases b==2<;>cases b==8<;>cases b==16<;>simp
  rw [e,p1_95_eq _ _ _ hC]
  unfold baseN
  cases hb:(b==2 || b==8 || b==16)&&!(s==[]) with
  | false=>rfl
  | true =>
   rw [Bool.and_eq_true] at hb
   have hb':b=2∨b=8∨b=16:=by have:=hb.1;simp at this;omega
   have:=loop95 hC hs hb' (K:=K) big s [48] big (List.suffix_refl s) (by unfold big;omega) rfl (by simp;omega)
   rw [Pt_zero] at this
   exact this
 ·cases h
theorem loop113 (hC:∀ key e t,C key e t=t e) {s:B} (hs:s.length≤1000000) {b:Int} (hb:b=2∨b=8∨b=16) {K:Tk113} (kk:Nat):∀ (l acc:B) (j:Nat),l <:+ s→l.length<j→isD acc=true→acc.length+14 * l.length≤100000000 →
  l2_113 C A90 A173 kk j s b acc (Pt s l) K=K (baseGo b acc l)
 | [],acc,j,h,hj,ha,hl=>by
  obtain ⟨j,rfl⟩:∃ i,j=i+1:=⟨j - 1,by omega⟩
  rw [l2_113_eq _ _ _ hC,Pt_end,dF (by omega),cond_false]
  rfl
 | c :: l,acc,j,h,hj,ha,hl=>by
  obtain ⟨j,rfl⟩:∃ i,j=i+1:=⟨j - 1,by omega⟩
  have hl':l <:+ s:=(List.suffix_cons c l).trans h
  have e90:∀ k,A90 (c.toNat:Int) k=k (hexD c):=fun k=>if_pos (u8_bd c)
  rw [l2_113_eq _ _ _ hC,dT (Pt_lt h),cond_true,at_Pt h,oB,e90,Pt_succ h (by omega)]
  unfold baseGo
  cases hd:decide (hexD c ≥ b) with
  | true=>rfl
  | false =>
   have hlt:hexD c<b:=by simpa using hd
   have hnn:=hexD_nn c
   have hk:0≤hexD c∧hexD c≤1099511627776:=by omega
   have hm:0≤b∧b≤1099511627776:=by omega
   have hml:=mulAdd_len (k:=hexD c) ha hm hk
   simp only [List.length_cons] at hl hj
   rw [cond_false,A173_ok ha (by omega) hm hk]
   exact loop113 hC hs hb kk l _ j hl' (by omega) (mulAdd_isD ha hm hk).1 (by omega)
theorem eq113 (hC:∀ key e t,C key e t=t e) (s:B) (b:Int) (K:Tk113) (r:Out) (h:A113 s b K=some r):run113 C A90 A173 big s b K=some r:=by
 unfold A113 at h
 split at h
 ·rename_i hs
  rw [← h,run113_eq]
  have e:∀ x,(bif (b != 2) then (bif (b != 8) then (bif (b != 16) then (p1_113 C A90 A173 big s b true K) else (p1_113 C A90 A173 big s b x K)) else (p1_113 C A90 A173 big s b x K)) else (p1_113 C A90 A173 big s b x K))=p1_113 C A90 A173 big s b (!((b==2 || b==8 || b==16)&&!x)) K:=by
   intro x
   unfold bne
   cases b==2<;>cases b==8<;>cases b==16<;>simp
  rw [e,p1_113_eq _ _ _ hC]
  unfold baseN
  cases hb:(b==2 || b==8 || b==16)&&!(s==[]) with
  | false=>rfl
  | true =>
   rw [Bool.and_eq_true] at hb
   have hb':b=2∨b=8∨b=16:=by have:=hb.1;simp at this;omega
   have:=loop113 hC hs hb' (K:=K) big s [48] big (List.suffix_refl s) (by unfold big;omega) rfl (by simp;omega)
   rw [Pt_zero] at this
   exact this
 ·cases h
def A158:Ty158:=fun n K=>K (inStep n)
theorem eq158 (n:Int) (K:Tk158):run158 C big n K=A158 n K:=by
 rw [run158_eq]
 show _=K (decide (0≤n)&&decide (n≤1099511627776))
 by_cases h:n ≥ 0
 ·rw [dT h];rfl
 ·rw [dF h];rfl
theorem good_D {a:B} (h:good a=true) (h2:(a.head?==some 45)=false):isD a=true∧∃ c l,a=c :: l∧((c.toNat:Int)==45)=false:=by
 obtain ⟨neg,c,l,e,ha,hc,-⟩:=good_split h
 cases neg with
 | true=>rw [e] at h2;exact absurd h2 (by simp [sgB])
 | false =>
  have e:a=c :: l:=e
  subst e
  refine ⟨isD_of ha (by simp),c,l,rfl,?_⟩
  unfold dg at hc
  simp at hc ⊢
  omega
theorem good_neg {a : B} (h : good a = true) (h2 : (a.head? == some 45) = true) : ∃ l, a = 45 :: l := by
  cases a with
  | nil => cases h2
  | cons c l => exact ⟨l, by have : c = 45 := by simpa using h2
                             rw [this]⟩
def A104:Ty104:=fun a m k K=>if a.length≤1000000000 then K (mulAddG a m k) else none
theorem eq104 (hC:∀ key e t,C key e t=t e) (a:B) (m k:Int) (K:Tk104) (r:Out) (h:A104 a m k K=some r):run104 C A146 A150 A158 big a m k K=some r:=by
 unfold A104 at h
 split at h
 ·rename_i hl
  have e150:∀ k,A150 a k=k (good a):=fun k=>if_pos (by omega)
  rw [← h,run104_eq,e150]
  unfold mulAddG A158
  simp only [p1_104_eq _ _ _ _ hC]
  cases hg:good a with
  | false=>rfl
  | true =>
   cases h45:a.head?==some 45 with
   | true =>
    obtain ⟨l,rfl⟩:=good_neg hg h45
    rfl
   | false =>
    obtain ⟨hD,c,l,rfl,hc⟩:=good_D hg h45
    simp only [Bool.not_true,cond_false,at0,oB,hc]
    cases hm:inStep m with
    | false=>rfl
    | true =>
     cases hk:inStep k with
     | false=>rfl
     | true =>
      simp only [Bool.not_true,cond_false]
      exact A146_ok hD (by omega) (inStep_iff.1 hm) (inStep_iff.1 hk)
 ·cases h
def A175:Ty175:=fun a m k K=>if a.length≤1000000000 then K (mulAddG a m k) else none
theorem eq175 (hC:∀ key e t,C key e t=t e) (a:B) (m k:Int) (K:Tk175) (r:Out) (h:A175 a m k K=some r):run175 C A173 A176 big a m k K=some r:=by
 unfold A175 at h
 split at h
 ·rename_i hl
  have e176:∀ k,A176 a k=k (good a):=fun k=>if_pos (by omega)
  rw [← h,run175_eq,e176]
  unfold mulAddG
  simp only [p1_175_eq _ _ _ hC]
  cases hg:good a with
  | false=>rfl
  | true =>
   cases h45:a.head?==some 45 with
   | true =>
    obtain ⟨l,rfl⟩:=good_neg hg h45
    rfl
   | false =>
    obtain ⟨hD,c,l,rfl,hc⟩:=good_D hg h45
    simp only [Bool.not_true,cond_false,at0,oB,hc]
    by_cases m0:0≤m
    ·by_cases m1:m≤1099511627776
     ·rw [dF (show ¬ m<0 by omega),dF (show ¬ m > 1099511627776 by omega),inStep_iff.2 ⟨m0,m1⟩]
      by_cases k0:0≤k
      ·by_cases k1:k≤1099511627776
       ·rw [dF (show ¬ k<0 by omega),dF (show ¬ k > 1099511627776 by omega),inStep_iff.2 ⟨k0,k1⟩]
        exact A173_ok hD (by omega) ⟨m0,m1⟩ ⟨k0,k1⟩
       ·have:inStep k=false:=by cases e:inStep k with | false=>rfl | true=>exact absurd (inStep_iff.1 e).2 k1
        rw [dF (show ¬ k<0 by omega),dT (show k > 1099511627776 by omega),this];rfl
      ·have:inStep k=false:=by cases e:inStep k with | false=>rfl | true=>exact absurd (inStep_iff.1 e).1 k0
       rw [dT (show k<0 by omega),this];rfl
     ·have:inStep m=false:=by cases e:inStep m with | false=>rfl | true=>exact absurd (inStep_iff.1 e).2 m1
      rw [dF (show ¬ m<0 by omega),dT (show m > 1099511627776 by omega),this];rfl
    ·have:inStep m=false:=by cases e:inStep m with | false=>rfl | true=>exact absurd (inStep_iff.1 e).1 m0
     rw [dT (show m<0 by omega),this];rfl
 ·cases h
theorem cmp_less:∀ a b:B,a.length=b.length→(Op.bytesLess a b=decide (Lib.compareBytes a b<0))∧((Op.bytesLess a b || a==b)=decide (Lib.compareBytes a b≤0))∧(Lib.compareBytes a b = -1∨Lib.compareBytes a b=0∨Lib.compareBytes a b=1)
 | [],[],_=>⟨rfl,rfl,.inr (.inl rfl)⟩
 | [],_ :: _,h=>by cases h
 | _ :: _,[],h=>by cases h
 | x :: a,y :: b,h=>by
  have ih:=cmp_less a b (by simpa using h)
  unfold Lib.compareBytes Op.bytesLess
  by_cases h1:x<y
  ·rw [if_pos h1,dT h1];exact ⟨rfl,by simp,.inl rfl⟩
  ·rw [if_neg h1,dF h1]
   by_cases h2:y<x
   ·rw [if_pos h2]
    have hne:(x==y)=false:=by
     cases e:x==y with
     | false=>rfl
     | true=>rw [eq_of_beq e] at h2;exact absurd h2 (UInt8.lt_irrefl y)
    have hne2:(x :: a==y :: b)=false:=by
     cases e:x :: a==y :: b with
     | false=>rfl
     | true=>have:=eq_of_beq e;cases this;exact absurd h2 (UInt8.lt_irrefl _)
    rw [hne,hne2]
    exact ⟨rfl,rfl,.inr (.inr rfl)⟩
   ·rw [if_neg h2]
    have hxy:x=y:=UInt8.le_antisymm (UInt8.not_lt.1 h2) (UInt8.not_lt.1 h1)
    subst hxy
    have e2:(x :: a==x :: b)=(a==b):=by rw [List.cons_beq_cons];simp
    rw [e2,beq_self_eq_true,Bool.false_or,Bool.true_and]
    exact ih
def A232:Ty232:=fun a b K=>K (Lib.compareBytes a b)
def A206:Ty206:=fun a b K=>K (cmpD a b)
theorem eq206 (a b:B) (K:Tk206):run206 C A232 big a b K=A206 a b K:=by
 rw [run206_eq]
 unfold A206 cmpD A232
 by_cases h1:a.length<b.length
 ·have e1:((a.length:Int) != (b.length:Int))=true:=by simp;omega
  rw [e1,cond_true,dT (by omega),cond_true,if_pos h1]
 ·rw [if_neg h1]
  by_cases h2:b.length<a.length
  ·have e1:((a.length:Int) != (b.length:Int))=true:=by simp;omega
   rw [e1,cond_true,dF (by omega),cond_false,if_pos h2]
  ·have e1:((a.length:Int) != (b.length:Int))=false:=by simp;omega
   rw [e1,cond_false,if_neg h2]
def A217:Ty217:=fun a b K=>K (cmpD a b)
theorem eq217 (a b:B) (K:Tk217):run217 C big a b K=A217 a b K:=by
 rw [run217_eq]
 unfold A217 cmpD
 by_cases h1:a.length<b.length
 ·rw [dT (by omega),cond_true,if_pos h1]
 ·rw [if_neg h1,dF (by omega),cond_false]
  by_cases h2:b.length<a.length
  ·rw [dT (by omega),cond_true,if_pos h2]
  ·rw [dF (by omega),cond_false,if_neg h2]
   obtain ⟨q1,q2,q3⟩:=cmp_less a b (by omega)
   rw [q2,q1]
   rcases q3 with e | e | e<;>rw [e]<;>rfl
theorem pad_len {n:Nat} {b:B} (h:b.length≤n):(padD n b).length=n:=by unfold padD;simp;omega
theorem pad_at {n:Nat} {b:B} (h:b.length≤n) {p:Nat} (hp:p<n) (hp':p<(padD n b).length):(n - b.length≤p→∃ h:p - (n - b.length)<b.length,(padD n b)[p]=b[p - (n - b.length)])∧(p<n - b.length→(padD n b)[p]=48):=by
 refine ⟨fun hk=>⟨by omega,?_⟩,fun hk=>?_⟩
 ·have hb:p - (n - b.length)<b.length:=by omega
  have:(padD n b)[p]?=b[p - (n - b.length)]?:=by
   unfold padD
   rw [List.getElem?_append_right (by simp;omega)]
   simp
  rw [List.getElem?_eq_getElem hp',List.getElem?_eq_getElem hb] at this
  exact Option.some.inj this
 ·have:(padD n b)[p]?=some 48:=by
   unfold padD
   rw [List.getElem?_append_left (by simp;omega),List.getElem?_replicate,if_pos (by omega)]
  rw [List.getElem?_eq_getElem hp'] at this
  exact Option.some.inj this
theorem subF_drop {a pb:B} {p:Nat} (h1:p<a.length) (h2:p<pb.length):subF (a.drop p) (pb.drop p)=subF (a[p] :: a.drop (p+1)) (pb[p] :: pb.drop (p+1)):=by
 rw [List.drop_eq_getElem_cons h1,List.drop_eq_getElem_cons h2]
theorem subF_cons (c d:UInt8) (a b:B):subF (c :: a) (d :: b)=(match decide (dv c - (subF a b).2 - dv d<0) with
  | true=>(dc (dv c - (subF a b).2 - dv d+10) :: (subF a b).1,1)
  | false=>(dc (dv c - (subF a b).2 - dv d) :: (subF a b).1,0)):=rfl
theorem all_at {a:B} (h:a.all dg=true) {p:Nat} (hp:p<a.length):dg a[p]=true:=List.all_eq_true.1 h _ (List.getElem_mem hp)
theorem all_drop {a:B} (h:a.all dg=true) (p:Nat):(a.drop p).all dg=true:=List.all_eq_true.2 fun x hx=>List.all_eq_true.1 h x ((List.drop_sublist p a).subset hx)
theorem mid_at {X Y:List Int} {v:Int} {p:Nat} (h:X.length=p):(X++v :: Y)[p]?=some v:=by subst h;simp
theorem mid_set {X Y:List Int} {v u:Int} {p:Nat} (h:X.length=p):(X++v :: Y).set p u=X++u :: Y:=by subst h;simp
theorem mid_len {X Y:List Int} {v:Int} {p:Nat} (h:X.length=p):p<(X++v :: Y).length:=by subst h;simp
def A207:Ty207:=fun a b K=>if a.all dg=true∧isD b=true∧b.length≤a.length∧a.length≤1000000000 then K (lessD a b) else none
theorem p2_207_ok (hC:∀ key e t,C key e t=t e) {K:Tk207} (kk j:Nat) (a b:B) {p:Nat} (hp:p≤1000000000) {c:UInt8} (hc:dg c=true) {o:Int} (ho:0≤o∧o≤10) {X Y:List Int} (hX:X.length=p) :
  p2_207 C kk j a b (X++nI c :: Y) o (p:Int) K=(match decide (dv c - o<0) with
   | true=>l1_207 C kk j a b (X++nI (dc (dv c - o+10)) :: Y) 1 ((p:Int) - 1) K
   | false=>l1_207 C kk j a b (X++nI (dc (dv c - o)) :: Y) 0 ((p:Int) - 1) K):=by
 have hd:=dv_bd hc
 have hn:nI c=dv c+48:=by unfold nI dv;omega
 have hlen:=mid_len (Y:=Y) (v:=nI c) hX
 have b1:(decide (0≤(p:Int))&&decide ((p:Int)<((X++nI c :: Y).length:Int)))=true:=by rw [dT (by omega),dT (by omega)];rfl
 rw [p2_207_eq _ hC,b1,cond_true,Int.toNat_natCast,mid_at hX,oB,u8_in (n:=48+o) (by omega) (by omega)]
 by_cases h:dv c - o<0
 ·rw [dT (show nI c<48+o by omega),dT h,cond_true,cond_true,oB,cond_true,dT hlen,cond_true,mid_set hX]
  have hlen2:=mid_len (Y:=Y) (v:=u8.wrap (nI c+10)) hX
  have b2:(decide (0≤(p:Int))&&decide ((p:Int)<((X++u8.wrap (nI c+10) :: Y).length:Int)))=true:=by rw [dT (by omega),dT (by omega)];rfl
  rw [b2,cond_true,mid_at hX,oB,cond_true,dT hlen2,cond_true,mid_set hX,p3_207_eq _ hC,i64_in (by omega) (by omega),u8_in (n:=nI c+10) (by omega) (by omega),u8_in (by omega) (by omega)]
  have:nI (dc (dv c - o+10))=nI c+10 - o:=by have:=dc_nat (n:=dv c - o+10) (by omega) (by omega);unfold nI at *;omega
  rw [this]
 ·rw [dF (show ¬ nI c<48+o by omega),dF h,cond_false,cond_true,oB,cond_true,dT hlen,cond_true,mid_set hX,p3_207_eq _ hC,i64_in (by omega) (by omega),u8_in (by omega) (by omega)]
  have:nI (dc (dv c - o))=nI c - o:=by have:=dc_nat (n:=dv c - o) (by omega) (by omega);unfold nI at *;omega
  rw [this]
theorem loop207 (hC:∀ key e t,C key e t=t e) {a b:B} (ha:a.all dg=true) (hb:isD b=true) (hl:b.length≤a.length) (hn:a.length≤1000000000) {K:Tk207} (kk:Nat):∀ (p j:Nat),p≤a.length→p<j →
  l1_207 C kk j a b ((a.take p).map nI++(subF (a.drop p) ((padD a.length b).drop p)).1.map nI) (subF (a.drop p) ((padD a.length b).drop p)).2 ((p:Int) - 1) K=K (lessD a b)
 | 0,j,_,hj=>by
  obtain ⟨j,rfl⟩:∃ i,j=i+1:=⟨j - 1,by omega⟩
  rw [l1_207_eq _ hC,dF (by simp),cond_false]
  simp only [List.take_zero,List.map_nil,List.nil_append,List.drop_zero]
  rw [map_nI]
  rfl
 | p+1,j,hp,hj=>by
  obtain ⟨j,rfl⟩:∃ i,j=i+1:=⟨j - 1,by omega⟩
  have hpl:p<(padD a.length b).length:=by rw [pad_len hl];omega
  have hpa:p<a.length:=by omega
  obtain ⟨x1,x2⟩:=pad_at hl hpa hpl
  have hpd:=(padD_dg (n:=a.length) hb).1
  obtain ⟨s1,s2⟩:=subF_bd (a.drop (p+1)) ((padD a.length b).drop (p+1)) (all_drop ha _) (all_drop hpd _)
  have hd:=dv_bd (all_at hpd hpl)
  have ih:=loop207 hC ha hb hl hn (K:=K) kk p j (by omega) (by omega)
  have et:(a.take (p+1)).map nI=(a.take p).map nI++[nI a[p]]:=by rw [List.take_succ_eq_append_getElem hpa,List.map_append];rfl
  have e1:((p+1:Nat):Int) - 1=(p:Int):=by omega
  rw [subF_drop hpa hpl,subF_cons] at ih
  generalize subF (a.drop (p+1)) ((padD a.length b).drop (p+1))=S at ih s1 s2 ⊢
  have hX:((a.take p).map nI).length=p:=by simp;omega
  have key:l1_207 C kk (j+1) a b ((a.take p).map nI++nI a[p] :: S.1.map nI) S.2 (p:Int) K=p2_207 C kk j a b ((a.take p).map nI++nI a[p] :: S.1.map nI) (S.2+dv (padD a.length b)[p]) (p:Int) K:=by
   rw [l1_207_eq _ hC,dT (by omega),cond_true,i64_in (n:=(a.length:Int) - (b.length:Int)) (by omega) (by omega),i64_in (by omega) (by omega)]
   by_cases hk:a.length - b.length≤p
   ·obtain ⟨hb1,hb2⟩:=x1 hk
    rw [dT (by omega),cond_true,at_ok (p:=p - (a.length - b.length)) (by omega) hb1,oB,← hb2]
    have e2:((padD a.length b)[p].toNat:Int) - 48=dv (padD a.length b)[p]:=rfl
    rw [e2,u8_in (n:=dv (padD a.length b)[p]) (by omega) (by omega),u8_in (by omega) (by omega)]
   ·have hz:=x2 (by omega)
    rw [dF (by omega),cond_false,hz]
    have:dv 48=0:=by decide
    rw [this,Int.add_zero]
  rw [e1,et,List.append_assoc]
  have key2:=p2_207_ok hC (K:=K) kk j a b (p:=p) (by omega) (all_at ha hpa) (o:=S.2+dv (padD a.length b)[p]) (by omega) (X:=(a.take p).map nI) (Y:=S.1.map nI) hX
  have e3:dv a[p] - (S.2+dv (padD a.length b)[p])=dv a[p] - S.2 - dv (padD a.length b)[p]:=by omega
  rw [e3] at key2
  refine key.trans (key2.trans ?_)
  cases hx:decide (dv a[p] - S.2 - dv (padD a.length b)[p]<0) with
  | true=>rw [hx] at ih;exact ih
  | false=>rw [hx] at ih;exact ih
theorem eq207 (hC:∀ key e t,C key e t=t e) (a b:B) (K:Tk207) (r:Out) (h:A207 a b K=some r):run207 C big a b K=some r:=by
 unfold A207 at h
 split at h
 ·rename_i hc
  obtain ⟨ha,hb,hl,hn⟩:=hc
  have:=loop207 hC ha hb hl hn (K:=K) big a.length big (Nat.le_refl _) (by unfold big;omega)
  have hd:(padD a.length b).drop a.length=[]:=List.drop_eq_nil_of_le (by rw [pad_len hl];exact Nat.le_refl _)
  rw [List.take_length,List.drop_length,hd] at this
  rw [run207_eq,← h,dT (show (0:Int)≤(a.length:Int) by omega),dT (Int.le_refl _),dT (show (a.length:Int)≤1099511627776 by omega),Bool.and_self,Bool.and_self,cond_true,i64_in (by omega) (by omega)]
  have e1:((List.replicate (a.length:Int).toNat (0:Int)).take 0++(a.map fun c=>(c.toNat:Int)).take (min (a.map fun c=>(c.toNat:Int)).length (List.replicate (a.length:Int).toNat (0:Int)).length)++(List.replicate (a.length:Int).toNat (0:Int)).drop (0+(min (a.map fun c=>(c.toNat:Int)).length (List.replicate (a.length:Int).toNat (0:Int)).length)))=a.map nI++[]:=by
   simp only [List.length_map,List.length_replicate,Int.toNat_natCast,Nat.min_self,List.take_zero,List.nil_append,Nat.zero_add]
   rw [List.take_of_length_le (by simp),List.drop_eq_nil_of_le (by simp)]
   rfl
  rw [e1]
  exact this
 ·cases h
def A218:Ty218:=fun a b K=>if a.all dg=true∧isD b=true∧b.length≤a.length∧a.length≤1000000000 then K (norm false (lessD a b)) else none
theorem p2_218_ok (hC:∀ key e t,C key e t=t e) {K:Tk218} (kk j:Nat) (a b:B) {p:Nat} (hp:p<a.length) (hn:a.length≤1000000000) {x:Int} (hx:-10≤x∧x≤9) {X Y:List Int} {v:Int} (hX:X.length=p) :
  p2_218 C A115 kk j a b (X++v :: Y) ((a.length:Int) - 1 - (p:Int)) x K=(match decide (x<0) with
   | true=>l1_218 C A115 kk j a b (X++nI (dc (x+10)) :: Y) 1 ((a.length:Int) - (p:Int)) K
   | false=>l1_218 C A115 kk j a b (X++nI (dc x) :: Y) 0 ((a.length:Int) - (p:Int)) K):=by
 have hlen:=mid_len (Y:=Y) (v:=v) hX
 have ei:i64.wrap (i64.wrap ((a.length:Int) - 1) - ((a.length:Int) - 1 - (p:Int)))=(p:Int):=by rw [i64_in (n:=(a.length:Int) - 1) (by omega) (by omega),i64_in (by omega) (by omega)];omega
 have es:i64.wrap ((a.length:Int) - 1 - (p:Int)+1)=(a.length:Int) - (p:Int):=by rw [i64_in (by omega) (by omega)];omega
 have b1:(decide (0≤(p:Int))&&decide ((p:Int)<((X++v :: Y).length:Int)))=true:=by rw [dT (by omega),dT (by omega)];rfl
 have p3:∀ (y o:Int),0≤y→y≤9→p3_218 C A115 kk j a b (X++v :: Y) o ((a.length:Int) - 1 - (p:Int)) y K=l1_218 C A115 kk j a b (X++nI (dc y) :: Y) o ((a.length:Int) - (p:Int)) K:=by
  intro y o y0 y1
  rw [p3_218_eq _ _ hC,ei,b1,cond_true,Int.toNat_natCast,dT hlen,cond_true,mid_set hX,es,i64_in (by omega) (by omega),u8_in (by omega) (by omega)]
  have:nI (dc y)=48+y:=by have:=dc_nat y0 y1;unfold nI;omega
  rw [this]
 rw [p2_218_eq _ _ hC]
 by_cases h:x<0
 ·rw [dT h,cond_true,i64_in (by omega) (by omega)]
  exact p3 _ _ (by omega) (by omega)
 ·rw [dF h,cond_false]
  exact p3 _ _ (by omega) (by omega)
theorem loop218 (hC:∀ key e t,C key e t=t e) {a b:B} (ha:a.all dg=true) (hb:isD b=true) (hl:b.length≤a.length) (hn:a.length≤1000000000) {K:Tk218} (kk:Nat):∀ (p j:Nat),p≤a.length→p<j →
  l1_218 C A115 kk j a b (List.replicate p 0++(subF (a.drop p) ((padD a.length b).drop p)).1.map nI) (subF (a.drop p) ((padD a.length b).drop p)).2 ((a.length:Int) - (p:Int)) K=K (norm false (lessD a b))
 | 0,j,_,hj=>by
  obtain ⟨j,rfl⟩:∃ i,j=i+1:=⟨j - 1,by omega⟩
  rw [l1_218_eq _ _ hC,dF (by simp),cond_false]
  simp only [List.replicate_zero,List.nil_append,List.drop_zero]
  rw [map_nI]
  have hlen:(lessD a b).length≤a.length:=by
   have:∀ x y:B,(subF x y).1.length≤x.length:=by
    intro x
    induction x with
    | nil=>intro y;exact Nat.le_refl _
    | cons c x ih =>
     intro y
     cases y with
     | nil=>exact Nat.zero_le _
     | cons d y =>
      have:=ih y
      rw [subF_cons]
      split<;>simp<;>omega
   exact this _ _
  exact if_pos (by unfold lessD at hlen;omega)
 | p+1,j,hp,hj=>by
  obtain ⟨j,rfl⟩:∃ i,j=i+1:=⟨j - 1,by omega⟩
  have hpl:p<(padD a.length b).length:=by rw [pad_len hl];omega
  have hpa:p<a.length:=by omega
  obtain ⟨x1,x2⟩:=pad_at hl hpa hpl
  have hpd:=(padD_dg (n:=a.length) hb).1
  obtain ⟨s1,s2⟩:=subF_bd (a.drop (p+1)) ((padD a.length b).drop (p+1)) (all_drop ha _) (all_drop hpd _)
  have hd:=dv_bd (all_at hpd hpl)
  have hc:=dv_bd (all_at ha hpa)
  have ih:=loop218 hC ha hb hl hn (K:=K) kk p j (by omega) (by omega)
  have e1:(a.length:Int) - ((p+1:Nat):Int)=(a.length:Int) - 1 - (p:Int):=by omega
  rw [subF_drop hpa hpl,subF_cons] at ih
  generalize subF (a.drop (p+1)) ((padD a.length b).drop (p+1))=S at ih s1 s2 ⊢
  have er:List.replicate (p+1) (0:Int)++S.1.map nI=List.replicate p 0++0 :: S.1.map nI:=by rw [List.replicate_succ',List.append_assoc];rfl
  have ei:i64.wrap (i64.wrap ((a.length:Int) - 1) - ((a.length:Int) - 1 - (p:Int)))=(p:Int):=by rw [i64_in (n:=(a.length:Int) - 1) (by omega) (by omega),i64_in (by omega) (by omega)];omega
  have ec:i64.wrap (u8.wrap ((a[p].toNat:Int) - 48))=dv a[p]:=by
   have e2:(a[p].toNat:Int) - 48=dv a[p]:=rfl
   rw [e2,u8_in hc.1 (by omega),i64_in (by omega) (by omega)]
  have key:l1_218 C A115 kk (j+1) a b (List.replicate p 0++0 :: S.1.map nI) S.2 ((a.length:Int) - 1 - (p:Int)) K=p2_218 C A115 kk j a b (List.replicate p 0++0 :: S.1.map nI) ((a.length:Int) - 1 - (p:Int)) (dv a[p] - S.2 - dv (padD a.length b)[p]) K:=by
   rw [l1_218_eq _ _ hC,dT (by omega),cond_true,ei,at_ok (p:=p) rfl hpa,oB,ec,i64_in (n:=dv a[p] - S.2) (by omega) (by omega)]
   by_cases hk:a.length - b.length≤p
   ·obtain ⟨hb1,hb2⟩:=x1 hk
    have ej:i64.wrap (i64.wrap ((b.length:Int) - 1) - ((a.length:Int) - 1 - (p:Int)))=((p - (a.length - b.length):Nat):Int):=by rw [i64_in (n:=(b.length:Int) - 1) (by omega) (by omega),i64_in (by omega) (by omega)];omega
    rw [dT (by omega),cond_true,ej,at_ok rfl hb1,oB,← hb2]
    have e2:((padD a.length b)[p].toNat:Int) - 48=dv (padD a.length b)[p]:=rfl
    rw [e2,u8_in (n:=dv (padD a.length b)[p]) (by omega) (by omega),i64_in (n:=dv (padD a.length b)[p]) (by omega) (by omega),i64_in (by omega) (by omega)]
   ·have hz:=x2 (by omega)
    rw [dF (by omega),cond_false,hz]
    have:dv 48=0:=by decide
    rw [this,Int.sub_zero]
  rw [e1,er]
  have key2:=p2_218_ok hC (K:=K) kk j a b (p:=p) hpa hn (x:=dv a[p] - S.2 - dv (padD a.length b)[p]) (by omega) (X:=List.replicate p 0) (Y:=S.1.map nI) (v:=0) (by simp)
  refine key.trans (key2.trans ?_)
  cases hx:decide (dv a[p] - S.2 - dv (padD a.length b)[p]<0) with
  | true=>rw [hx] at ih;exact ih
  | false=>rw [hx] at ih;exact ih
theorem eq218 (hC:∀ key e t,C key e t=t e) (a b:B) (K:Tk218) (r:Out) (h:A218 a b K=some r):run218 C A115 big a b K=some r:=by
 unfold A218 at h
 split at h
 ·rename_i hc
  obtain ⟨ha,hb,hl,hn⟩:=hc
  have:=loop218 hC ha hb hl hn (K:=K) big a.length big (Nat.le_refl _) (by unfold big;omega)
  have hd:(padD a.length b).drop a.length=[]:=List.drop_eq_nil_of_le (by rw [pad_len hl];exact Nat.le_refl _)
  rw [List.drop_length,hd,Int.sub_self] at this
  rw [run218_eq,← h,dT (show (0:Int)≤(a.length:Int) by omega),dT (Int.le_refl _),dT (show (a.length:Int)≤1099511627776 by omega),Bool.and_self,Bool.and_self,cond_true,Int.toNat_natCast,← this]
  congr 1
  exact (List.append_nil _).symm
 ·cases h
end Go.Proofs.YtffmgholjdfcnaaGreatDoor
