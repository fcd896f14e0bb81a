import Derived.Test.YtffmgholjdfcnaaGreatDoorYSNvF
import Derived.Test.YtffmgholjdfcnaaGreatDoorYSNvD
set_option linter.unusedSimpArgs false
set_option linter.unusedVariables false
namespace Go.Proofs.YtffmgholjdfcnaaGreatDoor
open Go AM St Nu
variable {C:Nat→Env→(Env→Option Out)→Option Out}
def A9:Ty9:=fun old s seed k K=>if (0≤k∧k≤255)∧(∀ x,x ∈ seed→0≤x∧x≤255) then K true else none
theorem step9 (hC:∀ key e t,C key e t=t e) (kk j:Nat) {k i i':Int} {old:Bool} {X:List B} {x:B} {K:Tk9} (hk:0≤k∧k≤255) (hx:x.length≤100) (hX:X.length=2) (hi:0≤i∧i<2) (hw:X[i.toNat]?=some x) (hi':i'=i+1) :
  l2_9 C A16 A19 A22 A24 A25 kk (j+1) old k (if old then 11 else 12) forms5 X 2 i K=l2_9 C A16 A19 A22 A24 A25 kk j old k (if old then 11 else 12) forms5 X 2 i' K:=by
 subst hi'
 have hV:(if old then (11:Int) else 12)=11∨(if old then (11:Int) else 12)=12:=by cases old<;>decide
 have hV12:(if old then (11:Int) else 12)=12 ↔ old=false:=by cases old<;>decide
 generalize (if old then (11:Int) else 12)=V at *
 have hb:(decide (0≤i)&&decide (i<(X.length:Int)))=true:=by rw [hX,dT hi.1,dT (show i<((2:Nat):Int) by omega)];rfl
 have hs:x.length≤10000:=by omega
 have e16:∀ k,A16 V x k=k (plainV V x).1 (plainV V x).2:=fun k=>if_pos hs
 have htl:=plain_tag_len V x
 have e25:∀ k',A25 V (plainV V x).1 x true k'=k' (plainV V x).1 (plainV V x).2 true:=by
  intro k'
  rw [A25_ok hs (by omega),plain_build]
 have hb5:(decide (0≤k.tmod 5)&&decide (k.tmod 5<5))=true:=by rw [tmod_nn hk.1,dT (by omega),dT (by omega)];rfl
 obtain ⟨t,ht,htm⟩:∃ t,forms5[0+(k.tmod 5).toNat]?=some t∧t ∈ forms5:=by
  have hlt:0+(k.tmod 5).toNat<forms5.length:=by show _<5;rw [tmod_nn hk.1];omega
  exact ⟨_,List.getElem?_eq_getElem hlt,List.getElem_mem hlt⟩
 have htl2:t.length≤10000:=by
  have:∀ x ∈ forms5,x.length≤10000:=by decide
  exact this t htm
 have e25t:∀ k',A25 V t x true k'=k' (buildV V t x true).1.1 (buildV V t x true).1.2 (typedB V t x).2:=by
  intro k'
  have hnt:needs t=true:=by
   have:∀ x ∈ forms5,needs x=true:=by decide
   exact this t htm
  have:(buildV V t x true).2=(typedB V t x).2:=by
   rw [buildV_needs hnt]
   cases (typedB V t x).2<;>rfl
  rw [A25_ok hs htl2,this]
 rw [l2_9_eq _ _ _ _ _ _ hC,dT hi.2,cond_true,hb,cond_true,hw,oB,e16,e25,hb5,cond_true,ht]
 simp only [oB,beq_self_eq_true,Bool.and_self,Bool.and_true,Bool.not_true,cond_false,e25t]
 rw [i64_in (by omega) (by omega)]
 by_cases hx2:t=tTime∧V=12
 ·obtain ⟨h1,h2⟩:=hx2
  have ho:=hV12.1 h2
  subst h1 ho
  cases (typedB V tTime x).2==(tTime==(plainV V x).1)<;>rfl
 ·rw [only_one hV htm hx2,beq_self_eq_true]
  rfl
theorem eq9 (hC:∀ key e t,C key e t=t e) (old:Bool) (s:B) (seed:List Int) (k:Int) (K:Tk9) (r:Out) (h:A9 old s seed k K=some r):run9 C A16 A19 A22 A24 A25 big old s seed k K=some r:=by
 unfold A9 at h
 split at h
 ·rename_i hc
  obtain ⟨hk,hb⟩:=hc
  have e22:∀ k,A22 k=k true:=fun k=>rfl
  have e19:∀ k,A19 old k=k (if old then 11 else 12):=fun k=>rfl
  rw [← h,run9_eq,e22]
  simp only [p1_9_eq _ _ _ _ _ _ hC,Bool.not_true,cond_false]
  by_cases h1:(s.length:Int) > 60
  ·rw [dT h1];rfl
  ·by_cases h3:(seed.length:Int) > 8
   ·rw [dF h1,dT h3];rfl
   ·have hsl:=someB_len seed
    have e24:∀ k,A24 seed k=k (someB seed):=fun k=>if_pos ⟨hb,by omega⟩
    rw [dF h1,dF h3,cond_false,cond_false,e19,e24]
    obtain ⟨m,hm⟩:∃ m,big=m+3:=⟨big - 3,by unfold big;omega⟩
    have key:∀ kk,l2_9 C A16 A19 A22 A24 A25 kk (m+3) old k (if old then 11 else 12) forms5 [s,someB seed] 2 0 K=K true:=by
     intro kk
     rw [step9 hC kk (m+2) (i':=1) (x:=s) hk (by omega) rfl ⟨by omega,by omega⟩ rfl rfl,step9 hC kk (m+1) (i':=2) (x:=someB seed) hk (by omega) rfl ⟨by omega,by omega⟩ rfl rfl,l2_9_eq _ _ _ _ _ _ hC,dF (by decide),cond_false]
    rw [← hm] at key
    exact key big
 ·cases h
end Go.Proofs.YtffmgholjdfcnaaGreatDoor
