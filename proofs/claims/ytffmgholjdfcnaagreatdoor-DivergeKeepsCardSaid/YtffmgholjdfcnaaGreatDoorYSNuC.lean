import Derived.Test.YtffmgholjdfcnaaGreatDoorYSNuB
set_option linter.unusedSimpArgs false
set_option linter.unusedVariables false
namespace Go.Proofs.YtffmgholjdfcnaaGreatDoor
open Go AM St Nu
open Go.IntKind (i64 u8)
variable {C:Nat→Env→(Env→Option Out)→Option Out}
def nI (c:UInt8):Int:=(c.toNat:Int)
theorem ofNat_nI (c:UInt8):UInt8.ofNat (nI c).toNat=c:=by unfold nI;simp
theorem map_nI (l:B):(l.map nI).map (fun n=>UInt8.ofNat n.toNat)=l:=by
 rw [List.map_map]
 conv=>rhs;rw [← List.map_id l]
 exact List.map_congr_left fun c _=>ofNat_nI c
def dgs (u:Nat):B:=if u=0 then [] else Lib.decDigits u
theorem dgs_step {u:Nat} (h:0<u):dgs (u / 10)++[dc ((u:Int) % 10)]=dgs u:=by
 have e:dc ((u:Int) % 10)=UInt8.ofNat (48+u % 10):=by
  unfold dc
  have:48+((u:Int) % 10).toNat=48+u % 10:=by omega
  rw [this]
 have hu:dgs u=Lib.decDigits u:=if_neg (by omega)
 rw [e,hu]
 by_cases h1:u<10
 ·have h2:dgs (u / 10)=[]:=if_pos (by omega)
  rw [h2,Lib.decDigits_one h1,Nat.mod_eq_of_lt h1];rfl
 ·have h2:dgs (u / 10)=Lib.decDigits (u / 10):=if_neg (by omega)
  rw [h2]
  conv=>rhs;rw [Lib.decDigits,dif_neg h1]
theorem nDig_le:∀ (k u:Nat),u<10 ^ (k+1)→Lib.nDigits u≤k+1
 | 0,u,h=>by rw [Lib.nDigits_small (by simpa using h)];exact Nat.le_refl _
 | k+1,u,h=>by
  by_cases h1:u<10
  ·rw [Lib.nDigits_small h1];omega
  ·rw [Lib.nDigits_big h1]
   have:=nDig_le k (u / 10) (by rw [Nat.pow_succ] at h;omega)
   omega
theorem dgs_len {u:Nat} (h:u<10000000000000):(dgs u).length≤13:=by
 unfold dgs
 split
 ·simp
 ·rw [Lib.decDigits_length];exact nDig_le 12 u (by simpa using h)
theorem step_eq {m cy:Int} {c:UInt8} (hc:dg c=true) (hm:0≤m∧m≤1099511627776) (hy:0≤cy∧cy≤1099511627776) :
  (i64.wrap (cy+i64.wrap (i64.wrap (u8.wrap ((c.toNat:Int) - 48)) * m)))=cy+dv c * m ∧
  i64.wrap ((cy+dv c * m).tdiv 10)=(cy+dv c * m) / 10∧u8.wrap (i64.wrap (48+(cy+dv c * m).tmod 10))=nI (dc ((cy+dv c * m) % 10)):=by
 have hd:=dv_bd hc
 have h1:dv c * m≤9 * 1099511627776:=by
  calc dv c * m≤9 * m:=Int.mul_le_mul_of_nonneg_right hd.2 hm.1
   _≤9 * 1099511627776:=by omega
 have h0:0≤dv c * m:=Int.mul_nonneg hd.1 hm.1
 have e0:(c.toNat:Int) - 48=dv c:=rfl
 have hr0:0≤(cy+dv c * m) % 10:=Int.emod_nonneg _ (by decide)
 have hr1:(cy+dv c * m) % 10<10:=Int.emod_lt_of_pos _ (by decide)
 refine ⟨?_,?_,?_⟩
 ·rw [e0,u8_in hd.1 (by omega),i64_in (n:=dv c) (by omega) (by omega),i64_in (n:=dv c * m) (by omega) (by omega),i64_in (by omega) (by omega)]
 ·rw [tdiv_nn (by omega),i64_in (by omega) (by omega)]
 ·rw [tmod_nn (by omega),i64_in (by omega) (by omega),u8_in (by omega) (by omega)]
  exact (dc_nat hr0 (by omega)).symm
theorem at_mid {r t:B} {c:UInt8}:at? ((c :: r).reverse++t) (r.length:Int)=some c:=by
 have e:(c :: r).reverse++t=r.reverse++c :: t:=by simp
 rw [e,at_ok (p:=r.length) rfl (by simp)]
 congr 1
 rw [List.getElem_append_right (by simp)]
 simp
theorem set_mid (n:Nat) (v:Int) (X:List Int):(List.replicate (n+1) (0:Int)++X).set n v=List.replicate n 0++(v :: X):=by
 rw [List.replicate_succ',List.append_assoc,List.set_append,if_neg (by simp)]
 simp
def A173:Ty173:=fun d m k K=>if isD d=true∧d.length≤1000000000000∧(0≤m∧m≤1099511627776)∧0≤k∧k≤1099511627776 then K (mulAdd d m k) else none
theorem loop173 (hC:∀ key e t,C key e t=t e) {d:B} (hd:d.all dg=true) (hl:d.length≤1000000000000) {m k:Int} (hm:0≤m∧m≤1099511627776) (hk:0≤k∧k≤1099511627776) {K:Tk173} (kk:Nat):∀ (r t:B) (j:Nat),d=r.reverse++t→r.length<j →
  l1_173 C A115 kk j d m (List.replicate r.length 0++(mulR m k t).1.map nI) (mulR m k t).2 ((r.length:Int) - 1) K=l2_173 C A115 kk kk ((mulR m k d).1.map nI) (mulR m k d).2 [] K
 | [],t,j,e,hj=>by
  obtain ⟨j,rfl⟩:∃ i,j=i+1:=⟨j - 1,by omega⟩
  rw [l1_173_eq _ _ hC,dF (by simp),cond_false,e]
  rfl
 | c :: r,t,j,e,hj=>by
  obtain ⟨j,rfl⟩:∃ i,j=i+1:=⟨j - 1,by omega⟩
  have hrl:r.length<1000000000000:=by rw [e] at hl;simp at hl;omega
  have hdt:(c :: t).all dg=true:=by
   rw [e,List.reverse_cons,List.append_assoc,List.all_append,Bool.and_eq_true] at hd
   exact hd.2
  have hdt':=hdt
  rw [List.all_cons,Bool.and_eq_true] at hdt'
  have hb:=mulR_bd hm hk t hdt'.2
  obtain ⟨s1,s2,s3⟩:=step_eq (c:=c) hdt'.1 hm hb
  have ih:=loop173 hC hd hl hm hk (K:=K) kk r (c :: t) j (by rw [e];simp) (by simp at hj;omega)
  have e1:(((c :: r).length:Nat):Int) - 1=(r.length:Int):=by simp
  rw [e1,l1_173_eq _ _ hC,dT (by omega),cond_true]
  conv=>lhs;rw [e]
  rw [at_mid,oB]
  have hX:(List.replicate (c :: r).length (0:Int)++(mulR m k t).1.map nI).length=r.length+1+t.length:=by simp [mulR_len]
  rw [dT (show (r.length:Int)<((List.replicate (c :: r).length (0:Int)++(mulR m k t).1.map nI).length:Int) by rw [hX];omega),Bool.and_self,cond_true,
   Int.toNat_natCast,dT (show r.length<(List.replicate (c :: r).length (0:Int)++(mulR m k t).1.map nI).length by rw [hX];omega),cond_true,s1,s2,s3,List.length_cons,set_mid,i64_in (n:=(r.length:Int) - 1) (by omega) (by omega),← e]
  exact ih
theorem dgs_cons {u:Nat} (h:u ≠ 0):dgs u=Lib.decDigits u:=if_neg h
theorem carry173 (hC:∀ key e t,C key e t=t e) {K:Tk173} (kk:Nat) (X:B) (hX:X.length≤1000000000000):∀ (j u:Nat) (acc:B),u<j→u<10000000000000→acc.length+(dgs u).length≤100 →
  l2_173 C A115 kk j (X.map nI) (u:Int) acc K=K (norm false (dgs u++acc++X))
 | 0,u,acc,hj,_,_=>by omega
 | j+1,u,acc,hj,hu,ha=>by
  rw [l2_173_eq _ _ hC]
  by_cases h0:u=0
  ·subst h0
   rw [dF (by omega),cond_false,map_nI,cat_ok (by omega),oB]
   exact if_pos (by rw [List.length_append];omega)
  ·rw [dT (by omega),cond_true]
   have e1:i64.wrap ((u:Int).tdiv 10)=((u / 10:Nat):Int):=by rw [tdiv_nn (by omega),i64_in (by omega) (by omega)];omega
   have e2:([(u8.wrap (i64.wrap ((48:Int)+((u:Int).tmod 10))))]:List Int).map (fun n=>UInt8.ofNat n.toNat)=[dc ((u:Int) % 10)]:=by
    rw [tmod_nn (by omega),i64_in (by omega) (by omega),u8_in (by omega) (by omega)]
    show [UInt8.ofNat (48+(u:Int) % 10).toNat]=[UInt8.ofNat (48+((u:Int) % 10).toNat)]
    congr 2
   have hs:=dgs_step (u:=u) (by omega)
   have hl:=congrArg List.length hs
   simp only [List.length_append,List.length_cons,List.length_nil] at hl
   rw [e1,e2,cat_ok (by simp;omega),oB,carry173 hC kk X hX j (u / 10) _ (by omega) (by omega) (by simp;omega),← hs]
   simp
theorem norm_itoa {u:Int} {X:B} (h0:0≤u) (hX:X ≠ []):norm false (Lib.itoa u++X)=norm false (dgs u.toNat++X):=by
 unfold Lib.itoa
 rw [if_neg (by omega)]
 by_cases h:u.toNat=0
 ·rw [h]
  have e:Lib.decDigits 0=[48]:=by rw [Lib.decDigits,dif_pos (by decide)];rfl
  rw [e]
  exact norm_zero hX
 ·rw [dgs_cons h]
theorem eq173 (hC:∀ key e t,C key e t=t e) (d:B) (m k:Int) (K:Tk173) (r:Out) (h:A173 d m k K=some r):run173 C A115 big d m k K=some r:=by
 unfold A173 at h
 split at h
 ·rename_i hc
  obtain ⟨hd,hl,hm,hk⟩:=hc
  obtain ⟨h1,h2⟩:=isD_all hd
  have hb:=mulR_bd hm hk d h1
  have:=loop173 hC h1 hl hm hk (K:=K) big d.reverse [] big (by simp) (by unfold big;simp;omega)
  have e0:(mulR m k []).1.map nI=[]:=rfl
  have e00:(mulR m k []).2=k:=rfl
  rw [e0,e00,List.append_nil,List.length_reverse] at this
  rw [run173_eq,← h,dT (show (0:Int)≤(d.length:Int) by omega),dT (Int.le_refl _),dT (show (d.length:Int)≤1099511627776 by omega),Bool.and_self,Bool.and_self,cond_true,i64_in (by omega) (by omega),Int.toNat_natCast,this]
  obtain ⟨u,hu⟩:∃ u:Nat,(mulR m k d).2=(u:Int):=⟨(mulR m k d).2.toNat,by omega⟩
  have hdl:=dgs_len (u:=u) (by omega)
  rw [hu,carry173 hC big (mulR m k d).1 (by rw [mulR_len];exact hl) big u [] (by unfold big;omega) (by omega) (by simp;omega),List.append_nil]
  unfold mulAdd
  rw [norm_itoa hb.1 (by intro e;have:=mulR_len m k d;rw [e] at this;exact h2 (List.length_eq_zero_iff.1 this.symm)),hu,Int.toNat_natCast]
 ·cases h
def A197:TyO197:=fun x n b K=>if x=[]∧b=10∧0≤n∧n≤1099511627776 then K ((Lib.itoa n).map nI) else none
def A146:Ty146:=fun d m k K=>if isD d=true∧d.length≤1000000000000∧(0≤m∧m≤1099511627776)∧0≤k∧k≤1099511627776 then K (mulAdd d m k) else none
theorem itoa_len {n:Int} (h0:0≤n) (h1:n≤1099511627776):(Lib.itoa n).length≤13:=by
 unfold Lib.itoa
 rw [if_neg (by omega),Lib.decDigits_length]
 exact nDig_le 12 _ (by omega)
theorem cutN_two {n a b:Nat} (h1:a≤b) (h2:b≤n):cutN n (some (a:Int)) (some (b:Int))=some (a,b - a):=by
 unfold cutN
 rw [if_pos (by simp;omega)]
 simp
theorem cutN_from {n a:Nat} (h1:a≤n):cutN n (some (a:Int)) none=some (a,n - a):=by
 unfold cutN
 rw [if_pos (by simp;omega)]
 simp
theorem end146 (hC:∀ key e t,C key e t=t e) {K:Tk146} (kk j:Nat) (d:B) (m u:Int) (X:B) (h0:0≤u) (h1:u≤1099511627776) (hX:X.length≤1000000000000) :
  l1_146 C A96 A197 kk (j+1) d m u (List.replicate 16 (0:Int)) (List.replicate 16 (0:Int)++X.map nI) 16 (-1) K=K (norm false (Lib.itoa u++X)):=by
 have hi:=itoa_len h0 h1
 have e1:A197 ((((List.replicate 16 (0:Int)).drop 0).take 0)) u 10=fun k=>k ((Lib.itoa u).map nI):=by
  funext k
  exact if_pos ⟨rfl,rfl,h0,h1⟩
 rw [l1_146_eq _ _ _ hC,dF (by decide),cond_false,dT (by simp),cond_true,e1]
 simp only [List.length_map]
 obtain ⟨L,hL⟩:∃ L,(Lib.itoa u).length=L:=⟨_,rfl⟩
 have hlen:(List.replicate 16 (0:Int)++X.map nI).length=16+X.length:=by rw [List.length_append,List.length_replicate,List.length_map]
 have e2:i64.wrap (16 - (L:Int))=((16 - L:Nat):Int):=by rw [i64_in (by omega) (by omega)];omega
 have e16:(16:Int)=((16:Nat):Int):=rfl
 rw [hL] at hi ⊢
 rw [e2,e16,hlen,cutN_two (by omega) (by omega),oB]
 have e3:16 - (16 - L)=L:=by omega
 simp only [e3,Nat.min_self]
 have e4:i64.wrap (((16:Nat):Int) - (L:Int))=((16 - L:Nat):Int):=e2
 have hrow:(List.replicate 16 (0:Int)++X.map nI).take (16 - L)++((Lib.itoa u).map nI).take L++(List.replicate 16 (0:Int)++X.map nI).drop (16 - L+L)=List.replicate (16 - L) 0++(Lib.itoa u++X).map nI:=by
  have a1:(List.replicate 16 (0:Int)++X.map nI).take (16 - L)=List.replicate (16 - L) 0:=by
   rw [List.take_append_of_le_length (by simp),List.take_replicate]
   congr 1
   omega
  have a2:((Lib.itoa u).map nI).take L=(Lib.itoa u).map nI:=List.take_of_length_le (by simp;omega)
  have a3:(List.replicate 16 (0:Int)++X.map nI).drop (16 - L+L)=X.map nI:=by
   have:16 - L+L=(List.replicate 16 (0:Int)).length:=by simp;omega
   rw [this,List.drop_left]
  rw [a1,a2,a3,List.map_append,List.append_assoc]
 rw [e4,hrow]
 have hlen2:(List.replicate (16 - L) (0:Int)++(Lib.itoa u++X).map nI).length=16 - L+(L+X.length):=by simp [hL]
 rw [hlen2,cutN_from (by omega),oB]
 have e5:((List.replicate (16 - L) (0:Int)++(Lib.itoa u++X).map nI).drop (16 - L))=(Lib.itoa u++X).map nI:=by
  have:16 - L=(List.replicate (16 - L) (0:Int)).length:=by simp
  conv=>lhs;rw [this];rw [List.length_replicate]
  exact List.drop_left' (by simp)
 simp only
 rw [e5,List.take_of_length_le (by simp [hL]),map_nI]
 exact if_pos (by simp [hL];omega)
theorem loop146 (hC:∀ key e t,C key e t=t e) {d:B} (hd:d.all dg=true) (hl:d.length≤1000000000000) {m k:Int} (hm:0≤m∧m≤1099511627776) (hk:0≤k∧k≤1099511627776) {K:Tk146} (kk:Nat):∀ (r t:B) (j:Nat),d=r.reverse++t→r.length<j →
  l1_146 C A96 A197 kk j d m (mulR m k t).2 (List.replicate 16 (0:Int)) (List.replicate (r.length+16) 0++(mulR m k t).1.map nI) (((r.length+16:Nat)):Int) ((r.length:Int) - 1) K=K (norm false (Lib.itoa (mulR m k d).2++(mulR m k d).1))
 | [],t,j,e,hj=>by
  obtain ⟨j,rfl⟩:∃ i,j=i+1:=⟨j - 1,by omega⟩
  have e':d=t:=e
  subst e'
  have hb:=mulR_bd hm hk d hd
  exact end146 hC kk j d m _ _ hb.1 hb.2 (by rw [mulR_len];exact hl)
 | c :: r,t,j,e,hj=>by
  obtain ⟨j,rfl⟩:∃ i,j=i+1:=⟨j - 1,by omega⟩
  have hrl:r.length<1000000000000:=by rw [e] at hl;simp at hl;omega
  have hdt:(c :: t).all dg=true:=by
   rw [e,List.reverse_cons,List.append_assoc,List.all_append,Bool.and_eq_true] at hd
   exact hd.2
  have hdt':=hdt
  rw [List.all_cons,Bool.and_eq_true] at hdt'
  have hb:=mulR_bd hm hk t hdt'.2
  obtain ⟨s1,s2,s3⟩:=step_eq (c:=c) hdt'.1 hm hb
  have ih:=loop146 hC hd hl hm hk (K:=K) kk r (c :: t) j (by rw [e];simp) (by simp at hj;omega)
  have e1:(((c :: r).length:Nat):Int) - 1=(r.length:Int):=by simp
  rw [e1,l1_146_eq _ _ _ hC,dT (by omega),cond_true]
  conv=>lhs;rw [e]
  rw [at_mid,oB]
  have hX:(List.replicate ((c :: r).length+16) (0:Int)++(mulR m k t).1.map nI).length=r.length+17+t.length:=by rw [List.length_append,List.length_replicate,List.length_map,mulR_len,List.length_cons]
  have e2:i64.wrap ((((c :: r).length+16:Nat):Int) - 1)=((r.length+16:Nat):Int):=by rw [i64_in (by simp;omega) (by simp;omega)];simp;omega
  rw [e2,dT (show (0:Int)≤((r.length+16:Nat):Int) by omega),dT (show ((r.length+16:Nat):Int)<((List.replicate ((c :: r).length+16) (0:Int)++(mulR m k t).1.map nI).length:Int) by rw [hX];omega),Bool.and_self,cond_true,
   Int.toNat_natCast,dT (show r.length+16<(List.replicate ((c :: r).length+16) (0:Int)++(mulR m k t).1.map nI).length by rw [hX];omega),cond_true,s1,s2,s3]
  have e3:(c :: r).length+16=(r.length+16)+1:=rfl
  rw [e3,set_mid,i64_in (n:=(r.length:Int) - 1) (by omega) (by omega),← e]
  exact ih
theorem eq146 (hC:∀ key e t,C key e t=t e) (d:B) (m k:Int) (K:Tk146) (r:Out) (h:A146 d m k K=some r):run146 C A96 A197 big d m k K=some r:=by
 unfold A146 at h
 split at h
 ·rename_i hc
  obtain ⟨hd,hl,hm,hk⟩:=hc
  obtain ⟨h1,h2⟩:=isD_all hd
  have:=loop146 hC h1 hl hm hk (K:=K) big d.reverse [] big (by simp) (by unfold big;simp;omega)
  have e0:(mulR m k []).1.map nI=[]:=rfl
  have e00:(mulR m k []).2=k:=rfl
  rw [e0,e00,List.append_nil,List.length_reverse] at this
  have ew:i64.wrap ((d.length:Int)+16)=((d.length+16:Nat):Int):=by rw [i64_in (by omega) (by omega)];omega
  rw [run146_eq,← h,ew,dT (show (0:Int)≤((d.length+16:Nat):Int) by omega),dT (Int.le_refl _),dT (show ((d.length+16:Nat):Int)≤1099511627776 by omega),Bool.and_self,Bool.and_self,cond_true,i64_in (by omega) (by omega),Int.toNat_natCast,List.length_replicate,this]
  rfl
 ·cases h
end Go.Proofs.YtffmgholjdfcnaaGreatDoor
