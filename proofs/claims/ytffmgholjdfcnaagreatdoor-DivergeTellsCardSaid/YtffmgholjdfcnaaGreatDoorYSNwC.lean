import Derived.Test.YtffmgholjdfcnaaGreatDoorYSNwB
import Derived.Test.YtffmgholjdfcnaaGreatDoorYSNvH
set_option linter.unusedSimpArgs false
set_option linter.unusedVariables false
namespace Go.Proofs.YtffmgholjdfcnaaGreatDoor
open Go AM St Nu
variable {C:Nat→Env→(Env→Option Out)→Option Out}
theorem surv_same {p:Bool} {t s:B} {a:B × B} (h11:buildV 11 t s p=(a,true)) (h12:buildV 12 t s p=(a,true)):survV p t s=true:=by
 unfold survV decideV
 rw [h11,h12]
 simp
theorem surv_plain (s:B):survV true [] s=(plainV 11 s==plainV 12 s):=by
 have e1:∀ v,buildV v [] s true=(plainV v s,true):=fun v=>rfl
 unfold survV decideV
 rw [e1 11,e1 12]
 simp only [Bool.not_true,cond_false,Bool.true_and,List.beq_nil_eq,List.isEmpty_nil]
 cases plainV 11 s==plainV 12 s with
 | true=>rfl
 | false =>
  show (true&&((bareV (plainV 11 s).1 (plainV 11 s).2 s).1==0))=false
  unfold bareV
  cases (plainV 11 s).1==tStr<;>cases (plainV 11 s).1==tTime<;>rfl
theorem bang_tag (x:UInt8) (r:B):needs (33 :: x :: r)=false∧isColl (33 :: x :: r)=false∧((33 :: x :: r)==([]:B))=false∧((33 :: x :: r)==([33]:B))=false∧((33 :: x :: r)==tStr)=false:=by
 have h:∀ (c:UInt8) (l:B),c ≠ 33→((33 :: x :: r)==c :: l)=false:=by
  intro c l hc
  cases e:(33 :: x :: r)==c :: l with
  | false=>rfl
  | true =>
   have:=eq_of_beq e
   injection this with h1 h2
   exact absurd h1.symm hc
 refine ⟨?_,?_,rfl,?_,h _ _ (by decide)⟩
 ·unfold needs
  rw [show tNull=116 :: tNull.tail from rfl,show tBool=116 :: tBool.tail from rfl,show tInt=116 :: tInt.tail from rfl,show tFloat=116 :: tFloat.tail from rfl,show tTime=116 :: tTime.tail from rfl,show tBin=116 :: tBin.tail from rfl]
  rw [h _ _ (by decide),h _ _ (by decide),h _ _ (by decide),h _ _ (by decide),h _ _ (by decide),h _ _ (by decide)]
  rfl
 ·unfold isColl
  rw [show tMap=116 :: tMap.tail from rfl,show tSeq=116 :: tSeq.tail from rfl,show tSet=116 :: tSet.tail from rfl,show tOmap=116 :: tOmap.tail from rfl,show tPairs=116 :: tPairs.tail from rfl]
  rw [h _ _ (by decide),h _ _ (by decide),h _ _ (by decide),h _ _ (by decide),h _ _ (by decide)]
  rfl
 ·cases e:(33 :: x :: r)==([33]:B) with
  | false=>rfl
  | true =>
   have:=congrArg List.length (eq_of_beq e)
   simp at this
theorem build_bang (v:Int) (x:UInt8) (r s:B) (p:Bool):buildV v (33 :: x :: r) s p=((33 :: x :: r,s),true):=by
 obtain ⟨h1,h2,h3,h4,h5⟩:=bang_tag x r
 unfold buildV
 rw [h1,h2,h3,h4,h5]
 rfl
def A12:Ty12:=fun plain s own seed K=>if (∀ x,x ∈ seed→0≤x∧x≤255) then K true else none
theorem step12 (hC:∀ key e t,C key e t=t e) (kk j:Nat) {i i':Int} {plain:Bool} {own:B} {X:List B} {x:B} {K:Tk12} (ho:own.length≤40) (hx:x.length≤100) (hX:X.length=2) (hi:0≤i∧i<2) (hw:X[i.toNat]?=some x) (hi':i'=i+1) :
  l2_12 C A17 A29 A31 A34 A39 kk (j+1) plain own X 2 i K=l2_12 C A17 A29 A31 A34 A39 kk j plain own X 2 i' K:=by
 subst hi'
 have hb:(decide (0≤i)&&decide (i<(X.length:Int)))=true:=by rw [hX,dT hi.1,dT (show i<((2:Nat):Int) by omega)];rfl
 have hs:x.length≤10000:=by omega
 have c1:cat ([33,121]:B) own=some ([33,121]++own):=cat_ok (by simp;omega)
 have c2:cat x x=some (x++x):=cat_ok (by omega)
 have htl:([33,121]++own:B).length≤10000:=by simp;omega
 have b1:∀ k,A34 false [] x k=k true:=by
  intro k;rw [A34_ok hs (by simp),surv_same (a:=(tStr,x)) rfl rfl]
 have b2:∀ k,A34 plain [33] x k=k true:=by
  intro k;rw [A34_ok hs (by simp),surv_same (a:=(tStr,x)) (by cases plain<;>rfl) (by cases plain<;>rfl)]
 have b3:∀ k,A34 plain tStr x k=k true:=by
  intro k;rw [A34_ok hs (by decide),surv_same (a:=(tStr,x)) (build_str _ _ _) (build_str _ _ _)]
 have b3':∀ k,A34 plain [116,97,103,58,121,97,109,108,46,111,114,103,44,50,48,48,50,58,115,116,114] x k=k true:=b3
 have b4:∀ k,A34 plain ([33,121]++own) x k=k true:=by
  intro k;rw [A34_ok hs htl,surv_same (a:=([33,121]++own,x)) (build_bang _ _ _ _ _) (build_bang _ _ _ _ _)]
 have b5:∀ k,A34 true [] x k=k (plainV 11 x==plainV 12 x):=by
  intro k;rw [A34_ok hs (by simp),surv_plain]
 have b6:∀ k,A34 plain ([33,121]++own) (x++x) k=k true:=by
  intro k;rw [A34_ok (by rw [List.length_append];omega) htl,surv_same (a:=([33,121]++own,x++x)) (build_bang _ _ _ _ _) (build_bang _ _ _ _ _)]
 have e17:∀ v k,A17 v x k=k (plainV v x).1 (plainV v x).2:=fun v k=>A17_ok (by omega) k
 have e39:∀ k,A39 ([33,121]++own) k=k (goodR ([33,121]++own)):=fun k=>if_pos (by omega)
 have ep:(plainV 11 x==plainV 12 x)=(((plainV 11 x).1==(plainV 12 x).1)&&(((plainV 11 x).2==(plainV 12 x).2)&&true)):=by rw [Bool.and_true];rfl
 rw [l2_12_eq _ _ _ _ _ _ hC,dT hi.2,cond_true,hb,cond_true,hw,oB]
 simp only [b1,b2,b3',b4,b5,b6,c1,c2,e17,e39,ep,oB,Bool.not_true,cond_false,beq_self_eq_true]
 rw [i64_in (by omega) (by omega)]
 cases goodR ([33,121]++own)<;>rfl
theorem eq12 (hC:∀ key e t,C key e t=t e) (plain:Bool) (s own:B) (seed:List Int) (K:Tk12) (r:Out) (h:A12 plain s own seed K=some r):run12 C A17 A29 A31 A34 A39 big plain s own seed K=some r:=by
 unfold A12 at h
 split at h
 ·rename_i hb
  have e29:∀ k,A29 k=k true:=fun k=>rfl
  rw [← h,run12_eq,e29]
  simp only [p1_12_eq _ _ _ _ _ _ hC,Bool.not_true,cond_false]
  by_cases h1:(s.length:Int) > 60
  ·rw [dT h1];rfl
  ·by_cases h2:(own.length:Int) > 40
   ·rw [dF h1,dT h2];rfl
   ·by_cases h3:(seed.length:Int) > 8
    ·rw [dF h1,dF h2,dT h3];rfl
    ·have hsl:=someB_len seed
     have e31:∀ k,A31 seed k=k (someB seed):=fun k=>if_pos ⟨hb,by omega⟩
     rw [dF h1,dF h2,dF h3,cond_false,cond_false,cond_false,e31]
     obtain ⟨m,hm⟩:∃ m,big=m+3:=⟨big - 3,by unfold big;omega⟩
     have n1:survV true [] [60,60]=true:=by decide +kernel
     have n2:survV true [] [61]=true:=by decide +kernel
     have n3:survV plain tNull [126]=true:=by cases plain<;>decide +kernel
     have f1:∀ k,A34 true [] [60,60] k=k true:=by intro k;rw [A34_ok (by decide) (by decide),n1]
     have f2:∀ k,A34 true [] [61] k=k true:=by intro k;rw [A34_ok (by decide) (by decide),n2]
     have f3:∀ k,A34 plain [116,97,103,58,121,97,109,108,46,111,114,103,44,50,48,48,50,58,110,117,108,108] [126] k=k true:=by
      intro k
      have:=A34_ok (plain:=plain) (tag:=tNull) (s:=[126]) (by decide) (by decide) k
      rw [n3] at this
      exact this
     have key:∀ kk,l2_12 C A17 A29 A31 A34 A39 kk (m+3) plain own [s,someB seed] 2 0 K=K true:=by
      intro kk
      rw [step12 hC kk (m+2) (i':=1) (x:=s) (by omega) (by omega) rfl ⟨by omega,by omega⟩ rfl rfl,step12 hC kk (m+1) (i':=2) (x:=someB seed) (by omega) (by omega) rfl ⟨by omega,by omega⟩ rfl rfl,l2_12_eq _ _ _ _ _ _ hC,dF (by decide),cond_false,f1,cond_true,f2,cond_true,f3]
     rw [← hm] at key
     exact key big
 ·cases h
end Go.Proofs.YtffmgholjdfcnaaGreatDoor
