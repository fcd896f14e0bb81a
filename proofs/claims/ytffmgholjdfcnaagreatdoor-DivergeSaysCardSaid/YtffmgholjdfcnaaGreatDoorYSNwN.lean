import Derived.Test.YtffmgholjdfcnaaGreatDoorYSNwB
import Derived.Test.YtffmgholjdfcnaaGreatDoorKSC
set_option linter.unusedSimpArgs false
set_option linter.unusedVariables false
namespace Go.Proofs.YtffmgholjdfcnaaGreatDoor
open Go AM St Nu
open Go.IntKind (i64 u8)
variable {C:Nat→Env→(Env→Option Out)→Option Out}
def isScal (c:Int):Bool:=decide (c ≥ 0)&&(decide (c≤1114111)&&(decide (c<55296) || decide (c > 57343)))
def A87:Ty87:=fun c K=>K (isScal c)
theorem eq87 (c:Int) (K:Tk87):run87 C big c K=A87 c K:=by
 rw [run87_eq]
 unfold A87 isScal
 cases decide (c ≥ 0)<;>cases decide (c≤1114111)<;>cases decide (c<55296)<;>rfl
def nxGo (s:B) (i n:Int):Nat→Int→Int→Option Int
 | 0,_,c=>some c
 | r+1,k,c=>if n > (s.length:Int) - i then none else match at? s (i+k) with
  | none=>none
  | some b=>if (b.toNat:Int)<128∨(b.toNat:Int) ≥ 192 then none else nxGo s i n r (k+1) (c * 64+b.toNat - 128)
def nxEnd (n least:Int):Option Int→Int × Int
 | none=>(0,0)
 | some c=>if c<least∨isScal c=false then (0,0) else (c,n)
def nextV (s:B) (i:Int):Int × Int:=match at? s i with
 | none=>(0,0)
 | some b =>
  if (b.toNat:Int)<128 then ((b.toNat:Int),1)
  else if (b.toNat:Int) ≥ 192∧(b.toNat:Int)<224 then nxEnd 2 128 (nxGo s i 2 1 1 (b.toNat - 192))
  else if (b.toNat:Int) ≥ 224∧(b.toNat:Int)<240 then nxEnd 3 2048 (nxGo s i 3 2 1 (b.toNat - 224))
  else if (b.toNat:Int) ≥ 240∧(b.toNat:Int)<248 then nxEnd 4 65536 (nxGo s i 4 3 1 (b.toNat - 240))
  else (0,0)
theorem at_some {s:B} {i:Int} (h0:0≤i) (h1:i<s.length):∃ b,at? s i=some b:=by
 unfold at?
 rw [if_pos h0]
 exact ⟨s[i.toNat]'(by omega),List.getElem?_eq_getElem (by omega)⟩
theorem end51 (hC:∀ key e t,C key e t=t e) (kk j:Nat) (s:B) (i c n least:Int) (K:Tk51):l5_51 C A87 kk (j+1) s i c n least n K=K (nxEnd n least (some c)).1 (nxEnd n least (some c)).2:=by
 rw [l5_51_eq _ _ hC,dF (by omega),cond_false]
 have en:nxEnd n least (some c)=if c<least∨isScal c=false then (0,0) else (c,n):=rfl
 rw [en]
 by_cases h:c<least
 ·rw [dT h,cond_true,p7_51_eq _ _ hC,if_pos (.inl h)];rfl
 ·have e:A87 c=fun k=>k (isScal c):=rfl
  rw [dF h,cond_false,e]
  simp only [p7_51_eq _ _ hC]
  cases hs:isScal c with
  | true=>rw [if_neg (by simp [h])];rfl
  | false=>rw [if_pos (.inr rfl)];rfl
theorem step51 (hC:∀ key e t,C key e t=t e) (kk j:Nat) {s:B} {i c n least k:Int} (hs:s.length≤1000000) (hi:0≤i∧i<s.length) (hk:1≤k∧k<n) (hn:n≤4) (hc:0≤c∧c≤1000000000000) (r:Nat) (K:Tk51)
  (ih:∀ c',0≤c'→c'≤c * 64+64→l5_51 C A87 kk j s i c' n least (k+1) K=K (nxEnd n least (nxGo s i n r (k+1) c')).1 (nxEnd n least (nxGo s i n r (k+1) c')).2) :
  l5_51 C A87 kk (j+1) s i c n least k K=K (nxEnd n least (nxGo s i n (r+1) k c)).1 (nxEnd n least (nxGo s i n (r+1) k c)).2:=by
 have w1:i64.wrap ((s.length:Int) - i)=(s.length:Int) - i:=i64_in (by omega) (by omega)
 have w2:i64.wrap (i+k)=i+k:=i64_in (by omega) (by omega)
 have w3:i64.wrap (k+1)=k+1:=i64_in (by omega) (by omega)
 have w4:i64.wrap (c * 64)=c * 64:=i64_in (by omega) (by omega)
 rw [l5_51_eq _ _ hC,dT hk.2,cond_true,w1,w2,w3,w4]
 unfold nxGo
 by_cases h:n > (s.length:Int) - i
 ·rw [dT h,cond_true,if_pos h];rfl
 ·obtain ⟨b,hb⟩:=at_some (s:=s) (i:=i+k) (by omega) (by omega)
  have hb2:=byte_lt b
  have w5:i64.wrap (b.toNat:Int)=(b.toNat:Int):=i64_in (by omega) (by omega)
  have w6:i64.wrap (c * 64+(b.toNat:Int))=c * 64+(b.toNat:Int):=i64_in (by omega) (by omega)
  have w7:i64.wrap (c * 64+(b.toNat:Int) - 128)=c * 64+(b.toNat:Int) - 128:=i64_in (by omega) (by omega)
  rw [dF h,cond_false,if_neg h,hb,oB]
  simp only [oB]
  rw [w5,w6,w7]
  by_cases h1:(b.toNat:Int)<128
  ·rw [dT h1,cond_true,if_pos (.inl h1)];rfl
  ·by_cases h2:(b.toNat:Int) ≥ 192
   ·rw [dF h1,dT h2,cond_false,cond_true,if_pos (.inr h2)];rfl
   ·rw [dF h1,dF h2,cond_false,cond_false,if_neg (by omega)]
    exact ih _ (by omega) (by omega)
theorem tail51 (hC:∀ key e t,C key e t=t e) (kk:Nat) {s:B} {i n least:Int} (hs:s.length≤1000000) (hi:0≤i∧i<s.length) (hn:n≤4) (K:Tk51):∀ (r j:Nat) (k c:Int),n=k+r→1≤k→r<j→0≤c→c * 64 ^ r≤100000000 - 64 ^ (r+1) →
  l5_51 C A87 kk j s i c n least k K=K (nxEnd n least (nxGo s i n r k c)).1 (nxEnd n least (nxGo s i n r k c)).2
 | 0,j,k,c,h1,h2,h3,h4,h5=>by
  obtain ⟨j,rfl⟩:∃ i,j=i+1:=⟨j - 1,by omega⟩
  have e:n=k:=by omega
  subst e
  exact end51 hC kk j s i c n least K
 | r+1,j,k,c,h1,h2,h3,h4,h5=>by
  obtain ⟨j,rfl⟩:∃ i,j=i+1:=⟨j - 1,by omega⟩
  have hr:r=0∨r=1∨r=2:=by omega
  have hc:c≤1000000000000:=by
   rcases hr with e | e | e<;>subst e<;>simp at h5<;>omega
  refine step51 hC kk j hs hi ⟨h2,by omega⟩ hn ⟨h4,hc⟩ r K fun c' h6 h7=>tail51 hC kk hs hi hn K r j (k+1) c' (by omega) (by omega) (by omega) h6 ?_
  rcases hr with e | e | e<;>subst e<;>simp at h5 ⊢<;>omega
def A51:Ty51:=fun s i K=>if s.length≤1000000∧0≤i∧i<s.length then K (nextV s i).1 (nextV s i).2 else none
theorem eq51 (hC:∀ key e t,C key e t=t e) (s:B) (i:Int) (K:Tk51) (r:Out) (h:A51 s i K=some r):run51 C A87 big s i K=some r:=by
 unfold A51 at h
 split at h
 ·rename_i hc
  obtain ⟨hs,h0,h1⟩:=hc
  obtain ⟨b,hb⟩:=at_some h0 h1
  have hb2:=byte_lt b
  have w5:i64.wrap (b.toNat:Int)=(b.toNat:Int):=i64_in (by omega) (by omega)
  rw [← h,run51_eq,dF (show ¬ i<0 by omega),cond_false,dF (show ¬ i ≥ (s.length:Int) by omega)]
  simp only [p1_51_eq _ _ hC,p2_51_eq _ _ hC,p3_51_eq _ _ hC,p4_51_eq _ _ hC,p6_51_eq _ _ hC,cond_false]
  unfold nextV
  rw [hb,oB,w5]
  simp only
  by_cases c1:(b.toNat:Int)<128
  ·rw [dT c1,cond_true,if_pos c1]
  ·rw [dF c1,cond_false,if_neg c1]
   by_cases c2:(b.toNat:Int) ≥ 192
   ·rw [dT c2,cond_true]
    by_cases c3:(b.toNat:Int)<224
    ·rw [dT c3,cond_true,if_pos ⟨c2,c3⟩,i64_in (by omega) (by omega)]
     exact tail51 hC big hs ⟨h0,h1⟩ (by omega) K 1 big 1 _ rfl (by omega) (by decide) (by omega) (by simp;omega)
    ·rw [dF c3,cond_false,if_neg (by omega),dT (show (b.toNat:Int) ≥ 224 by omega),cond_true]
     by_cases c4:(b.toNat:Int)<240
     ·rw [dT c4,cond_true,if_pos ⟨by omega,c4⟩,i64_in (by omega) (by omega)]
      exact tail51 hC big hs ⟨h0,h1⟩ (by omega) K 2 big 1 _ rfl (by omega) (by decide) (by omega) (by simp;omega)
     ·rw [dF c4,cond_false,if_neg (by omega),dT (show (b.toNat:Int) ≥ 240 by omega),cond_true]
      by_cases c5:(b.toNat:Int)<248
      ·rw [dT c5,cond_true,if_pos ⟨by omega,c5⟩,i64_in (by omega) (by omega)]
       exact tail51 hC big hs ⟨h0,h1⟩ (by omega) K 3 big 1 _ rfl (by omega) (by decide) (by omega) (by simp;omega)
      ·rw [dF c5,cond_false,if_neg (by omega)]
   ·rw [dF c2,dF (show ¬ (b.toNat:Int) ≥ 224 by omega),dF (show ¬ (b.toNat:Int) ≥ 240 by omega),if_neg (by omega),if_neg (by omega),if_neg (by omega)]
    rfl
 ·cases h
theorem nxEnd_n (n least:Int) (o:Option Int) (hn:0≤n∧n≤4):0≤(nxEnd n least o).2∧(nxEnd n least o).2≤4:=by
 unfold nxEnd
 cases o with
 | none=>simp
 | some c=>simp only;split<;>simp only<;>omega
theorem nextV_n (s:B) (i:Int):0≤(nextV s i).2∧(nextV s i).2≤4:=by
 unfold nextV
 cases at? s i with
 | none=>simp
 | some b =>
  simp only
  split
  ·simp
  ·split
   ·exact nxEnd_n _ _ _ (by omega)
   ·split
    ·exact nxEnd_n _ _ _ (by omega)
    ·split
     ·exact nxEnd_n _ _ _ (by omega)
     ·simp
theorem easyC_bdI {c:UInt8} (h:easyC c=true):33≤(c.toNat:Int)∧(c.toNat:Int)≤126∧(c.toNat:Int) ≠ 34∧(c.toNat:Int) ≠ 92:=by
 unfold easyC at h
 simp only [Bool.and_eq_true,decide_eq_true_eq,Bool.not_eq_true',beq_eq_false_iff_ne,ne_eq] at h
 obtain ⟨⟨⟨h1,h2⟩,h3⟩,h4⟩:=h
 refine ⟨by omega,by omega,fun e=>h3 ?_,fun e=>h4 ?_⟩
 ·exact UInt8.toNat_inj.1 (show c.toNat=34 by omega)
 ·exact UInt8.toNat_inj.1 (show c.toNat=92 by omega)
theorem next_easy {s:B} {i:Int} {c:UInt8} (h:at? s i=some c) (hc:easyC c=true):nextV s i=((c.toNat:Int),1):=by
 have:=easyC_bdI hc
 unfold nextV
 rw [h]
 exact if_pos (by omega)
def wellGo (s:B):Nat→Int→Bool
 | 0,_=>true
 | f+1,i=>bif decide (i<s.length) then (bif (nextV s i).2==0 then false else wellGo s f (i+(nextV s i).2)) else true
def wellV (s:B):Bool:=wellGo s (s.length+1) 0
def A35r:Ty35:=fun s K=>if s.length≤1000000 then K (wellV s) else none
theorem loop35 (hC:∀ key e t,C key e t=t e) {s:B} (hs:s.length≤1000000) (K:Tk35) (kk:Nat):∀ (f j:Nat) (i:Int),0≤i→(s.length:Int)<i+f→i≤2000000→f<j→l1_35 C A51 kk j s i K=K (wellGo s f i)
 | 0,j,i,h0,h1,h2,h3=>by
  obtain ⟨j,rfl⟩:∃ i,j=i+1:=⟨j - 1,by omega⟩
  rw [l1_35_eq _ _ hC,dF (by omega)];rfl
 | f+1,j,i,h0,h1,h2,h3=>by
  obtain ⟨j,rfl⟩:∃ i,j=i+1:=⟨j - 1,by omega⟩
  rw [l1_35_eq _ _ hC]
  unfold wellGo
  by_cases hi:i<(s.length:Int)
  ·have e51:∀ k,A51 s i k=k (nextV s i).1 (nextV s i).2:=fun k=>if_pos ⟨hs,h0,hi⟩
   have hn:=nextV_n s i
   rw [dT hi,cond_true,cond_true,e51]
   cases hz:(nextV s i).2==0 with
   | true=>rfl
   | false =>
    have hz':(nextV s i).2 ≠ 0:=by simpa using hz
    rw [cond_false,cond_false,i64_in (by omega) (by omega)]
    exact loop35 hC hs K kk f j _ (by omega) (by omega) (by omega) (by omega)
  ·rw [dF hi];rfl
theorem eq35r (hC:∀ key e t,C key e t=t e) (s:B) (K:Tk35) (r:Out) (h:A35r s K=some r):run35 C A51 big s K=some r:=by
 unfold A35r at h
 split at h
 ·rename_i hs
  rw [← h,run35_eq]
  exact loop35 hC hs K big (s.length+1) big 0 (by omega) (by omega) (by omega) (by unfold big;omega)
 ·cases h
theorem well_go {s:B}:∀ (l:B) (f:Nat),l <:+ s→l.all easyC=true→wellGo s f (Pt s l)=true
 | [],0,_,_=>rfl
 | [],f+1,_,_=>by unfold wellGo;rw [Pt_end,dF (by omega)];rfl
 | c :: l,0,_,_=>rfl
 | c :: l,f+1,h,ha=>by
  rw [List.all_cons,Bool.and_eq_true] at ha
  have hl:l <:+ s:=(List.suffix_cons c l).trans h
  unfold wellGo
  rw [dT (Pt_lt h),cond_true,next_easy (at_Pt h) ha.1]
  simp only
  rw [show ((1:Int)==0)=false from rfl,cond_false,Pt_cons h]
  exact well_go l f hl ha.2
theorem well_easy {s:B} (h:easy s=true):wellV s=true:=by
 have:=well_go (s:=s) s (s.length+1) (List.suffix_refl s) h
 rwa [Pt_zero] at this
def A84:Ty84:=fun s i K=>if s.length≤1000000∧(0≤i∧i<s.length)∧easy s=true then K 1 else none
theorem at_easy {s:B} {i:Int} {c:UInt8} (h:at? s i=some c) (he:easy s=true):easyC c=true:=by
 unfold at? at h
 split at h
 ·unfold easy at he
  exact List.all_eq_true.1 he c (List.mem_of_getElem? h)
 ·cases h
theorem eq84 (hC:∀ key e t,C key e t=t e) (s:B) (i:Int) (K:Tk84) (r:Out) (h:A84 s i K=some r):run84 C A51 big s i K=some r:=by
 unfold A84 at h
 split at h
 ·rename_i hc
  obtain ⟨hs,hi,he⟩:=hc
  obtain ⟨b,hb⟩:=at_some hi.1 hi.2
  have hbe:=easyC_bdI (at_easy hb he)
  have e51:∀ k,A51 s i k=k (b.toNat:Int) 1:=by
   intro k
   have:A51 s i k=k (nextV s i).1 (nextV s i).2:=if_pos ⟨hs,hi⟩
   rw [this,next_easy hb (at_easy hb he)]
  have n9:((b.toNat:Int)==9)=false:=by simp;omega
  have n10:((b.toNat:Int)==10)=false:=by simp;omega
  have n13:((b.toNat:Int)==13)=false:=by simp;omega
  rw [← h,run84_eq,e51,n9,n10,n13,dT (show (b.toNat:Int) ≥ 32 by omega),dT (show (b.toNat:Int)≤126 by omega)]
  simp only [p1_84_eq _ _ hC,cond_true,cond_false]
 ·cases h
def A48:Ty48:=fun s K=>if easy s=true∧s.length≤10000 then K (quoteT s) else none
theorem loop48 (hC:∀ key e t,C key e t=t e) {N85:Ty85} {s:B} (hs:s.length≤10000) (he:easy s=true) (K:Tk48) (kk:Nat):∀ (l acc:B) (j:Nat),l <:+ s→l.length<j→acc.length+l.length≤20000 →
  l1_48 C A35r A51 A84 N85 kk j s acc (Pt s l) K=K (acc++l++[34])
 | [],acc,j,h,hj,ha=>by
  obtain ⟨j,rfl⟩:∃ i,j=i+1:=⟨j - 1,by omega⟩
  simp only [List.length_nil] at ha
  rw [l1_48_eq _ _ _ _ _ hC,Pt_end,dF (by omega),cond_false,cat_ok (by simp;omega),oB,List.append_nil]
 | c :: l,acc,j,h,hj,ha=>by
  obtain ⟨j,rfl⟩:∃ i,j=i+1:=⟨j - 1,by omega⟩
  have hl:l <:+ s:=(List.suffix_cons c l).trans h
  have hp0:=Pt_nn s (c :: l)
  have hp1:=Pt_lt h
  simp only [List.length_cons] at ha hj
  have hc:=at_easy (at_Pt h) he
  have hbe:=easyC_bdI hc
  have e51:∀ k,A51 s (Pt s (c :: l)) k=k (c.toNat:Int) 1:=by
   intro k
   have:A51 s (Pt s (c :: l)) k=k (nextV s (Pt s (c :: l))).1 (nextV s (Pt s (c :: l))).2:=if_pos ⟨by omega,hp0,hp1⟩
   rw [this,next_easy (at_Pt h) hc]
  have e84:∀ k,A84 s (Pt s (c :: l)) k=k 1:=fun k=>if_pos ⟨by omega,⟨hp0,hp1⟩,he⟩
  have hcut:cut s (some (Pt s (c :: l))) (some (Pt s l))=some [c]:=by
   rw [cut_Pt h (List.suffix_cons c l)]
   have:(c :: l).length - l.length=1:=by simp
   rw [this];rfl
  have ih:=loop48 hC (N85:=N85) hs he K kk l (acc++[c]) j hl (by omega) (by simp;omega)
  have n0:((c.toNat:Int)==34)=false:=by simpa using hbe.2.2.1
  have n1:((c.toNat:Int)==92)=false:=by simpa using hbe.2.2.2
  have n2:((c.toNat:Int)==10)=false:=by simp;omega
  have n3:((c.toNat:Int)==9)=false:=by simp;omega
  have n4:((c.toNat:Int)==13)=false:=by simp;omega
  have n5:((c.toNat:Int)==133)=false:=by simp;omega
  have n6:((c.toNat:Int)==8232)=false:=by simp;omega
  have n7:((c.toNat:Int)==8233)=false:=by simp;omega
  rw [l1_48_eq _ _ _ _ _ hC,dT hp1,cond_true,e51,n0,n1,n2,n3,n4,n5,n6,n7]
  simp only [cond_false]
  rw [e84,show decide ((1:Int) > 0)=true from rfl,cond_true,Pt_succ h (by omega),hcut,oB,cat_ok (by simp;omega),oB,ih,List.append_assoc acc [c] l]
  rfl
theorem eq48r (hC:∀ key e t,C key e t=t e) {N85:Ty85} (s:B) (K:Tk48) (r:Out) (h:A48 s K=some r):run48 C A35r A51 A84 N85 big s K=some r:=by
 unfold A48 at h
 split at h
 ·rename_i hc
  obtain ⟨he,hs⟩:=hc
  have e35:∀ k,A35r s k=k true:=by
   intro k
   have:A35r s k=k (wellV s):=if_pos (by omega)
   rw [this,well_easy he]
  have:=loop48 hC (N85:=N85) hs he K big s [34] big (List.suffix_refl s) (by unfold big;omega) (by simp;omega)
  rw [Pt_zero] at this
  rw [← h,run48_eq,e35]
  exact this
 ·cases h
def A49:Ty49:=fun t K=>if t=tTime then K ([33,60]++tTime++[62]) else none
theorem eq49 (t:B) (K:Tk49) (r:Out) (h:A49 t K=some r):run49 C A39 big t K=some r:=by
 unfold A49 at h
 split at h
 ·rename_i e
  subst e
  have hg:goodR tTime=true:=by decide +kernel
  have e39:∀ k,A39 tTime k=k true:=by
   intro k
   have:A39 tTime k=k (goodR tTime):=if_pos (by decide)
   rw [this,hg]
  have c1:cat ([33,60]:B) tTime=some ([33,60]++tTime):=cat_ok (by decide)
  have c2:cat ([33,60]++tTime) ([62]:B)=some ([33,60]++tTime++[62]):=cat_ok (by decide)
  rw [← h,run49_eq,e39,c1,oB,c2]
  rfl
 ·cases h
def A50:Ty50:=fun t x K=>if t=tBool∨t=tInt∨t=tFloat then K x else none
theorem eq50 {N48:Ty48} {N49:Ty49} {N86:Ty86} (hC:∀ key e t,C key e t=t e) (t x:B) (K:Tk50) (r:Out) (h:A50 t x K=some r):run50 C N48 N49 N86 big t x K=some r:=by
 unfold A50 at h
 split at h
 ·rename_i hc
  rw [← h,run50_eq]
  simp only [p1_50_eq _ _ _ _ hC]
  rcases hc with e | e | e<;>subst e<;>rfl
 ·cases h
def A33:Ty33:=fun plain tag s K=>if s.length≤10000∧tag.length≤10000 then K (decideV plain tag s).1.1 (decideV plain tag s).1.2 (decideV plain tag s).2 else none
theorem A33_ok {plain:Bool} {tag s:B} (hs:s.length≤10000) (ht:tag.length≤10000) (K:Tk33):A33 plain tag s K=K (decideV plain tag s).1.1 (decideV plain tag s).1.2 (decideV plain tag s).2:=if_pos ⟨hs,ht⟩
theorem eq33 (hC:∀ key e t,C key e t=t e) (plain:Bool) (tag s:B) (K:Tk33) (r:Out) (h:A33 plain tag s K=some r):run33 C A26 A48 A49 A50 big plain tag s K=some r:=by
 unfold A33 at h
 split at h
 ·rename_i hc
  obtain ⟨hs,ht⟩:=hc
  have hbare:tag=[]→((buildV 12 tag s plain).2&&((buildV 11 tag s plain).1==(buildV 12 tag s plain).1))=false →
    ((buildV 11 tag s plain).1.1=tStr∧easy s=true)∨(buildV 11 tag s plain).1.1=tTime∨((buildV 11 tag s plain).1.1=tBool∨(buildV 11 tag s plain).1.1=tInt∨(buildV 11 tag s plain).1.1=tFloat):=by
   intro e hne
   subst e
   cases plain with
   | false =>
    have e1:∀ v,buildV v [] s false=((tStr,s),true):=fun v=>rfl
    rw [e1,e1] at hne
    simp at hne
   | true =>
    have e1:∀ v,buildV v [] s true=(plainV v s,true):=fun v=>rfl
    rw [e1 11,e1 12] at hne
    rw [e1 11]
    have hne':plainV 11 s ≠ plainV 12 s:=by
     intro e
     rw [e] at hne
     simp at hne
    rcases bare_case hne' with ⟨e,he⟩ | e
    ·exact .inl ⟨by rw [e],he⟩
    ·exact .inr e
  have hcat:cat ([33,60]++tTime++[62]) [32]=some tagT:=by decide +kernel
  have e49:∀ k,A49 tTime k=k ([33,60]++tTime++[62]):=fun k=>if_pos rfl
  rw [run33_eq,← h,A26_ok (by omega) (by omega),A26_ok (by omega) (by omega)]
  simp only [p1_33_eq _ _ _ _ _ hC,p2_33_eq _ _ _ _ _ hC]
  unfold decideV
  generalize buildV 12 tag s plain=Y at *
  generalize buildV 11 tag s plain=X at *
  obtain ⟨⟨a,b⟩,c⟩:=X
  obtain ⟨⟨a',b'⟩,c'⟩:=Y
  have ep:((a,b)==(a',b'))=((a==a')&&((b==b')&&true)):=by rw [Bool.and_true];rfl
  simp only at hbare ⊢
  rw [ep] at hbare ⊢
  cases c with
  | false=>rfl
  | true =>
   simp only [Bool.not_true,cond_false]
   cases hcc:c'&&((a==a')&&((b==b')&&true)) with
   | true =>
    rw [Bool.and_eq_true] at hcc
    rw [hcc.1,hcc.2];rfl
   | false =>
    have hk:∀ X Y:Option Out,(bif c' then (bif (a==a')&&((b==b')&&true) then X else Y) else Y)=Y:=by
     intro X Y
     cases hc':c' with
     | false=>rfl
     | true =>
      rw [hc',Bool.true_and] at hcc
      rw [hcc];rfl
    rw [hk]
    cases ht0:tag==[] with
    | false =>
     simp only [cond_false,Bool.not_false,cond_true]
     show (bif a==tNull then K 3 [110,117,108,108] true else K 3 b true)=_
     cases a==tNull<;>rfl
    | true =>
     have hb:=hbare (eq_of_beq ht0) hcc
     simp only [cond_true,cond_false,Bool.not_true]
     rcases hb with ⟨e,he⟩ | e | e
     ·subst e
      have e48:∀ k,A48 s k=k (quoteT s):=fun k=>if_pos ⟨he,hs⟩
      rw [e48];rfl
     ·subst e
      show A49 tTime (fun r8=>(cat r8 [32]).bind fun s9=>K 2 s9 true)=_
      rw [e49,hcat];rfl
     ·have e50:∀ k,A50 a b k=k b:=fun k=>if_pos e
      rw [e50]
      rcases e with e | e | e<;>subst e<;>rfl
 ·cases h
def names30:List B:=[[],[33],tStr,tNull,tBool,tInt,tFloat,tTime,tBin,tMap,[],[],[],[],[33,120],tValue]
def name30 (k:Int):B:=names30.getD (k.toNat % 16) []
def A30:Ty30:=fun k K=>if 0≤k∧k≤255 then K (name30 k) else none
theorem eq30 (k:Int) (K:Tk30) (r:Out) (h:A30 k K=some r):run30 C big k K=some r:=by
 unfold A30 at h
 split at h
 ·rename_i hk
  rw [run30_eq,← h,tmod_nn hk.1]
  have hb2:(decide (0≤k % 16)&&decide (k % 16<16))=true:=by rw [dT (by omega),dT (by omega)];rfl
  rw [hb2,cond_true]
  have hw:names30[0+(k % 16).toNat]?=some (name30 k):=by
   have e:0+(k % 16).toNat=k.toNat % 16:=by omega
   have hlt:k.toNat % 16<names30.length:=by show _<16;omega
   unfold name30
   rw [e,List.getD_eq_getElem?_getD,List.getElem?_eq_getElem hlt]
   rfl
  have:=congrArg (fun x:Option B=>x.bind fun x1=>K x1) hw
  exact this
 ·cases h
theorem name30_mem (k:Int):name30 k ∈ names30:=by
 have hlt:k.toNat % 16<names30.length:=by show _<16;omega
 unfold name30
 rw [List.getD_eq_getElem?_getD,List.getElem?_eq_getElem hlt]
 exact List.getElem_mem hlt
theorem name30_len (k:Int):(name30 k).length≤40:=by
 have:∀ x ∈ names30,x.length≤40:=by decide +kernel
 exact this _ (name30_mem k)
def A10:Ty10:=fun plain tag s k seed K=>if (0≤k∧k≤255)∧(∀ x,x ∈ seed→0≤x∧x≤255) then K true else none
noncomputable abbrev M2 (C:Nat→Env→(Env→Option Out)→Option Out):=l2_10 C A29 A30 A31 A32 A33 A34
noncomputable abbrev M3 (C:Nat→Env→(Env→Option Out)→Option Out):=l3_10 C A29 A30 A31 A32 A33 A34
theorem step10 (hC:∀ key e t,C key e t=t e) {s t x:B} {plain:Bool} {seed:List Int} {T:List B} {n i:Int} {X:List B} {p p':Int} {K:Tk10} (kk j0 j1:Nat)
  (ht:t.length≤10000) (hx:x.length≤10000) (hX:X.length=2) (hp:0≤p∧p<2) (hw:X[p.toNat]?=some x) (hp':p'=p+1) :
  M3 C kk j0 (j1+1) plain s seed t T n i X 2 p K=M3 C kk j0 j1 plain s seed t T n i X 2 p' K:=by
 subst hp'
 have hb:(decide (0≤p)&&decide (p<(X.length:Int)))=true:=by rw [hX,dT hp.1,dT (show p<((2:Nat):Int) by omega)];rfl
 show l3_10 C A29 A30 A31 A32 A33 A34 kk j0 (j1+1) plain s seed t T n i X 2 p K=_
 rw [l3_10_eq _ _ _ _ _ _ _ hC,dT hp.2,cond_true,hb,cond_true,hw,oB,A32_ok hx ht,A33_ok hx ht,A34_ok hx ht]
 have e1:((decideV plain t x).1.1 != (decideV plain t x).1.1)=false:=by simp
 have hs:survV plain t x=((decideV plain t x).2&&((decideV plain t x).1.1==0)):=rfl
 rw [e1,hs,i64_in (by omega) (by omega)]
 simp only [beq_self_eq_true,Bool.not_true,cond_false]
 cases (decideV plain t x).2 with
 | true=>simp only [Bool.true_and,beq_self_eq_true,Bool.not_true,cond_true,cond_false]
 | false=>rfl
theorem run3M (hC:∀ key e t,C key e t=t e) {s t a b:B} {plain:Bool} {seed:List Int} {T:List B} {n i:Int} {K:Tk10} (kk j0 q:Nat)
  (ht:t.length≤10000) (ha:a.length≤10000) (hb:b.length≤10000) :
  M3 C kk j0 (q+3) plain s seed t T n i [a,b] 2 0 K=M2 C kk j0 plain s seed T n (i64.wrap (i+1)) K:=by
 rw [step10 hC kk j0 (q+2) ht ha rfl ⟨by omega,by omega⟩ rfl (p':=1) rfl,step10 hC kk j0 (q+1) ht hb rfl ⟨by omega,by omega⟩ rfl (p':=2) rfl]
 show l3_10 C A29 A30 A31 A32 A33 A34 kk j0 (q+1) plain s seed t T n i [a,b] 2 2 K=_
 rw [l3_10_eq _ _ _ _ _ _ _ hC,dF (by decide),cond_false]
theorem step2M (hC:∀ key e t,C key e t=t e) {s t:B} {plain:Bool} {seed:List Int} {T:List B} {p p':Int} {K:Tk10} (kk j0 m:Nat) (hm:kk=m+3)
  (hs:s.length≤10000) (hseed:(∀ x,x ∈ seed→0≤x∧x≤255)∧seed.length≤100) (ht:t.length≤10000) (hT:T.length=2) (hp:0≤p∧p<2) (hw:T[p.toNat]?=some t) (hp':p'=p+1) :
  M2 C kk (j0+1) plain s seed T 2 p K=M2 C kk j0 plain s seed T 2 p' K:=by
 subst hp'
 have hsl:=someB_len seed
 have hb:(decide (0≤p)&&decide (p<(T.length:Int)))=true:=by rw [hT,dT hp.1,dT (show p<((2:Nat):Int) by omega)];rfl
 have e31:∀ k,A31 seed k=k (someB seed):=fun k=>if_pos ⟨hseed.1,by omega⟩
 have r3:=run3M hC (s:=s) (t:=t) (a:=s) (b:=someB seed) (plain:=plain) (seed:=seed) (T:=T) (n:=2) (i:=p) (K:=K) kk j0 m ht hs (by omega)
 rw [← hm] at r3
 show l2_10 C A29 A30 A31 A32 A33 A34 kk (j0+1) plain s seed T 2 p K=_
 rw [l2_10_eq _ _ _ _ _ _ _ hC,dT hp.2,cond_true,hb,cond_true,hw,oB,e31]
 refine r3.trans ?_
 rw [i64_in (by omega) (by omega)]
theorem eq10 (hC:∀ key e t,C key e t=t e) (plain:Bool) (tag s:B) (k:Int) (seed:List Int) (K:Tk10) (r:Out) (h:A10 plain tag s k seed K=some r):run10 C A29 A30 A31 A32 A33 A34 big plain tag s k seed K=some r:=by
 unfold A10 at h
 split at h
 ·rename_i hc
  obtain ⟨hk,hb⟩:=hc
  have e29:∀ k,A29 k=k true:=fun k=>rfl
  rw [← h,run10_eq,e29]
  simp only [p1_10_eq _ _ _ _ _ _ _ hC,Bool.not_true,cond_false]
  by_cases h1:(s.length:Int) > 60
  ·rw [dT h1];rfl
  ·by_cases h2:(tag.length:Int) > 60
   ·rw [dF h1,dT h2];rfl
   ·by_cases h3:(seed.length:Int) > 8
    ·rw [dF h1,dF h2,dT h3];rfl
    ·have e30:∀ k',A30 k k'=k' (name30 k):=fun k'=>if_pos hk
     have hnl:=name30_len k
     rw [dF h1,dF h2,dF h3,cond_false,cond_false,cond_false,e30]
     obtain ⟨m,hm⟩:∃ m,big=m+3:=⟨big - 3,by unfold big;omega⟩
     have key:∀ kk,kk=m+3→M2 C kk (m+3) plain s seed [tag,name30 k] 2 0 K=K true:=by
      intro kk hkk
      rw [step2M hC kk (m+2) m hkk (t:=tag) (by omega) ⟨hb,by omega⟩ (by omega) rfl ⟨by omega,by omega⟩ rfl (p':=1) rfl,step2M hC kk (m+1) m hkk (t:=name30 k) (by omega) ⟨hb,by omega⟩ (by omega) rfl ⟨by omega,by omega⟩ rfl (p':=2) rfl]
      show l2_10 C A29 A30 A31 A32 A33 A34 kk (m+1) plain s seed [tag,name30 k] 2 2 K=_
      rw [l2_10_eq _ _ _ _ _ _ _ hC,dF (by decide),cond_false]
     have:=key (m+3) rfl
     rw [← hm] at this
     exact this
 ·cases h
end Go.Proofs.YtffmgholjdfcnaaGreatDoor
