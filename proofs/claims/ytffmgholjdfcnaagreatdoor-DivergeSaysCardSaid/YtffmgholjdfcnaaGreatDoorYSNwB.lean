import Derived.Test.YtffmgholjdfcnaaGreatDoorYSNwA
import Derived.Test.YtffmgholjdfcnaaGreatDoorYSNvD
import Derived.Test.YtffmgholjdfcnaaGreatDoorKSD
set_option linter.unusedSimpArgs false
set_option linter.unusedVariables false
namespace Go.Proofs.YtffmgholjdfcnaaGreatDoor
open Go AM St Nu
open Go.IntKind (i64 u8)
variable {C:Nat→Env→(Env→Option Out)→Option Out}
def letR (c:Int):Bool:=(decide (c ≥ 97)&&decide (c≤122)) || (decide (c ≥ 65)&&decide (c≤90))
def A91:Ty91:=fun c K=>K (letR c)
theorem eq91 (c:Int) (K:Tk91):run91 C big c K=A91 c K:=by
 rw [run91_eq]
 unfold A91 letR
 cases decide (c ≥ 97)<;>cases decide (c≤122)<;>cases decide (c ≥ 65)<;>rfl
def o19:B:=[45,95,46,126,42,39,40,41,59,47,63,58,64,38,61,43,36,35,37]
def shortR (c:UInt8):Bool:=letR (nI c) || (dg c || o19.contains c)
def A61:Ty61:=fun c K=>if 0≤c∧c≤255 then K (shortR (UInt8.ofNat c.toNat)) else none
theorem l2_61_eq' {N91:Ty91} {N92:Ty92} (hC:∀ key e t,C key e t=t e) (k j0:Nat) (v0 v3:Int) (Kt:Tk61):l2_61 C N91 N92 k (j0+1) v0 v3 Kt =
  (bif (decide (v3<(o19.length:Int))) then ((at? o19 v3).bind fun b3=>(bif ((b3.toNat:Int)==v0) then (Kt true) else (l2_61 C N91 N92 k j0 v0 (i64.wrap (v3+1)) Kt))) else (Kt false)):=l2_61_eq _ _ _ hC ..
theorem loop61 {N91:Ty91} {N92:Ty92} (hC:∀ key e t,C key e t=t e) (c:UInt8) {K:Tk61} (kk:Nat):∀ (l:B) (j:Nat),l <:+ o19→l.length<j→l2_61 C N91 N92 kk j (nI c) (Pt o19 l) K=K (l.contains c)
 | [],j,h,hj=>by
  obtain ⟨j,rfl⟩:∃ i,j=i+1:=⟨j - 1,by omega⟩
  rw [l2_61_eq' hC,Pt_end,dF (by omega),cond_false];rfl
 | x :: l,j,h,hj=>by
  obtain ⟨j,rfl⟩:∃ i,j=i+1:=⟨j - 1,by omega⟩
  have hl:l <:+ o19:=(List.suffix_cons x l).trans h
  have ih:=loop61 (N91:=N91) (N92:=N92) hC c (K:=K) kk l j hl (by simp at hj;omega)
  have e:((x.toNat:Int)==nI c)=(x==c):=eqB c rfl x
  have e2:(x==c)=(c==x):=Bool.beq_comm
  rw [l2_61_eq' hC,dT (Pt_lt h),cond_true,at_Pt h,oB,Pt_succ h (by decide),ih,e,e2,List.contains_cons]
  cases c==x<;>rfl
theorem eq61 (hC:∀ key e t,C key e t=t e) (c:Int) (K:Tk61) (r:Out) (h:A61 c K=some r):run61 C A91 A92 big c K=some r:=by
 unfold A61 at h
 split at h
 ·rename_i hs
  have e:nI (UInt8.ofNat c.toNat)=c:=by
   unfold nI
   rw [UInt8.toNat_ofNat_of_lt' (by show c.toNat<256;omega)]
   omega
  have lp:=loop61 (N91:=A91) (N92:=A92) hC (UInt8.ofNat c.toNat) (K:=K) big o19 big (List.suffix_refl _) (by decide)
  rw [Pt_zero,e] at lp
  have e91:∀ k,A91 c k=k (letR c):=fun k=>rfl
  have e92:∀ k,A92 c k=k (dg (UInt8.ofNat c.toNat)):=by
   intro k
   have:=A35_dg (UInt8.ofNat c.toNat) k
   have e':((UInt8.ofNat c.toNat).toNat:Int)=c:=e
   rw [e'] at this
   exact this
  rw [run61_eq,← h,e91,e92]
  simp only [p1_61_eq _ _ _ hC,lp]
  unfold shortR
  rw [e]
  cases letR c<;>cases dg (UInt8.ofNat c.toNat)<;>rfl
 ·cases h
def signR (c:UInt8):Bool:=shortR c || (c==33 || (c==44 || (c==91 || c==93)))
def A59:Ty59:=fun c K=>if 0≤c∧c≤255 then K (signR (UInt8.ofNat c.toNat)) else none
theorem eq59 (c:Int) (K:Tk59) (r:Out) (h:A59 c K=some r):run59 C A61 big c K=some r:=by
 unfold A59 at h
 split at h
 ·rename_i hs
  have e61:∀ k,A61 c k=k (shortR (UInt8.ofNat c.toNat)):=fun k=>if_pos hs
  have e:((UInt8.ofNat c.toNat).toNat:Int)=c:=by
   rw [UInt8.toNat_ofNat_of_lt' (by show c.toNat<256;omega)]
   omega
  have b33:=eqB 33 (n:=33) rfl (UInt8.ofNat c.toNat)
  have b44:=eqB 44 (n:=44) rfl (UInt8.ofNat c.toNat)
  have b91:=eqB 91 (n:=91) rfl (UInt8.ofNat c.toNat)
  have b93:=eqB 93 (n:=93) rfl (UInt8.ofNat c.toNat)
  rw [e] at b33 b44 b91 b93
  rw [run59_eq,← h,e61,b33,b44,b91,b93]
  unfold signR
  cases shortR (UInt8.ofNat c.toNat)<;>cases (UInt8.ofNat c.toNat)==33<;>cases (UInt8.ofNat c.toNat)==44<;>cases (UInt8.ofNat c.toNat)==91<;>rfl
 ·cases h
theorem A59_ok (c:UInt8) (K:Tk59):A59 (nI c) K=K (signR c):=by
 unfold A59
 rw [if_pos (by have:=byte_lt c;unfold nI;omega),ofNat_nI]
def goodR (s:B):Bool:=s.all signR&&!(s==[])
def A39:Ty39:=fun s K=>if s.length≤1000000 then K (goodR s) else none
theorem loop39 (hC:∀ key e t,C key e t=t e) {s:B} (hs:s.length≤1000000) {K:Tk39} (kk:Nat):∀ (l:B) (j:Nat),l <:+ s→l.length<j→l1_39 C A59 kk j s (Pt s l) K=K (l.all signR&&!(s==[]))
 | [],j,h,hj=>by
  obtain ⟨j,rfl⟩:∃ i,j=i+1:=⟨j - 1,by omega⟩
  have e:decide ((s.length:Int) > 0)=!(s==[]):=by
   cases s with
   | nil=>rfl
   | cons a b=>simp only [List.length_cons];exact dT (by omega)
  rw [l1_39_eq _ _ hC,Pt_end,dF (by omega),cond_false,List.all_nil,Bool.true_and,e]
 | c :: l,j,h,hj=>by
  obtain ⟨j,rfl⟩:∃ i,j=i+1:=⟨j - 1,by omega⟩
  have hl:l <:+ s:=(List.suffix_cons c l).trans h
  have ih:=loop39 hC hs (K:=K) kk l j hl (by simp at hj;omega)
  have e:(c.toNat:Int)=nI c:=rfl
  rw [l1_39_eq _ _ hC,dT (Pt_lt h),cond_true,at_Pt h,oB,e,A59_ok,Pt_succ h (by omega),ih,List.all_cons]
  cases signR c<;>rfl
theorem eq39 (hC:∀ key e t,C key e t=t e) (s:B) (K:Tk39) (r:Out) (h:A39 s K=some r):run39 C A59 big s K=some r:=by
 unfold A39 at h
 split at h
 ·rename_i hs
  rw [run39_eq,← h]
  have:=loop39 hC hs (K:=K) big s big (List.suffix_refl s) (by unfold big;omega)
  rw [Pt_zero] at this
  exact this
 ·cases h
def A31:Ty31:=fun l K=>if (∀ x,x ∈ l→0≤x∧x≤255)∧l.length≤1000000 then K (someB l) else none
theorem loop31 (hC:∀ key e t,C key e t=t e) (kk:Nat) (l:List Int) (hl:∀ x,x ∈ l→0≤x∧x≤255) (hn:l.length≤1000000) (K:Tk31):∀ (m j p:Nat) (acc:B),l.length - p=m→m<j→p≤l.length→acc.length≤10 * p →
  l1_31 C kk j l wordsB acc (p:Int) K=K (acc++someB (l.drop p)):=by
 intro m
 induction m with
 | zero =>
  intro j p acc hm hj hp ha
  obtain ⟨j,rfl⟩:∃ i,j=i+1:=⟨j - 1,by omega⟩
  have h2:l.drop p=[]:=List.drop_eq_nil_of_le (by omega)
  rw [l1_31_eq _ hC,h2,dF (by omega),cond_false]
  simp [someB]
 | succ m ih =>
  intro j p acc hm hj hp ha
  obtain ⟨j,rfl⟩:∃ i,j=i+1:=⟨j - 1,by omega⟩
  have hp':p<l.length:=by omega
  have hg:l[(p:Int).toNat]?=some l[p]:=by rw [Int.toNat_natCast];exact List.getElem?_eq_getElem hp'
  obtain ⟨x0,x1⟩:=hl l[p] (List.getElem_mem hp')
  have hb:(decide (0≤(p:Int))&&decide ((p:Int)<(l.length:Int)))=true:=by rw [dT (by omega),dT (by omega)];rfl
  have hb2:(decide (0≤l[p] % 24)&&decide (l[p] % 24<24))=true:=by rw [dT (by omega),dT (by omega)];rfl
  have hw:wordsB[0+(l[p] % 24).toNat]?=some (wordsB.getD (l[p].toNat % 24) []):=by
   have e:0+(l[p] % 24).toNat=l[p].toNat % 24:=by omega
   have hlt:l[p].toNat % 24<wordsB.length:=by show _<24;omega
   rw [e,List.getD_eq_getElem?_getD,List.getElem?_eq_getElem hlt]
   rfl
  have hwl:=wordsB_len (l[p].toNat % 24)
  have e4:i64.wrap ((p:Int)+1)=((p+1:Nat):Int):=by rw [i64_in (by omega) (by omega)];omega
  rw [l1_31_eq _ hC,hb,dT (by omega),cond_true,cond_true,hg,oB,tmod_nn x0,hb2,cond_true,hw,oB,cat_ok (by omega),oB,e4,ih j (p+1) _ (by omega) (by omega) (by omega) (by rw [List.length_append];omega),List.append_assoc]
  have e5:l.drop p=l[p] :: l.drop (p+1):=List.drop_eq_getElem_cons hp'
  rw [e5]
  rfl
theorem eq31 (hC:∀ key e t,C key e t=t e) (l:List Int) (K:Tk31) (r:Out) (h:A31 l K=some r):run31 C big l K=some r:=by
 unfold A31 at h
 split at h
 ·rename_i hc
  have:=loop31 hC big l hc.1 hc.2 K l.length big 0 [] rfl (by unfold big;omega) (by omega) (by simp)
  rw [run31_eq,← h]
  exact this
 ·cases h
def A81:Ty81:=fun s K=>if easy s=true∧s.length≤10000 then K (quoteT s) else none
def A82:Ty82:=fun t K=>if t=tTime then K ([33,60]++tTime++[62]) else none
def A83:Ty83:=fun t x K=>if (t=tBool∨t=tInt∨t=tFloat)∧x.length≤1000000 then K x else none
theorem eq83 {N81:Ty81} {N82:Ty82} {N142:Ty142} (hC:∀ key e t,C key e t=t e) (t x:B) (K:Tk83) (r:Out) (h:A83 t x K=some r):run83 C A43 N81 N82 N142 big t x K=some r:=by
 unfold A83 at h
 split at h
 ·rename_i hc
  obtain ⟨ht,hx⟩:=hc
  have e43:∀ k,A43 x k=k x:=fun k=>if_pos (by omega)
  rw [run83_eq,← h]
  simp only [p1_83_eq _ _ _ _ _ hC,p2_83_eq _ _ _ _ _ hC,e43]
  rcases ht with e | e | e<;>subst e<;>rfl
 ·cases h
def A47:Ty47:=fun t x s K=>if ((t=tStr∧easy s=true)∨t=tTime∨(t=tBool∨t=tInt∨t=tFloat))∧s.length≤10000∧x.length≤1000000 then K (bareV t x s).1 (bareV t x s).2 else none
theorem eq47 (t x s:B) (K:Tk47) (r:Out) (h:A47 t x s K=some r):run47 C A81 A82 A83 big t x s K=some r:=by
 unfold A47 at h
 split at h
 ·rename_i hc
  obtain ⟨ht,hs,hx⟩:=hc
  have hcat:cat ([33,60]++tTime++[62]) [32]=some tagT:=by decide +kernel
  have e82:∀ k,A82 tTime k=k ([33,60]++tTime++[62]):=fun k=>if_pos rfl
  rw [run47_eq,← h]
  rcases ht with ⟨e,he⟩ | e | e
  ·subst e
   have e81:∀ k,A81 s k=k (quoteT s):=fun k=>if_pos ⟨he,hs⟩
   rw [e81];rfl
  ·subst e
   show A82 tTime (fun r2=>(cat r2 [32]).bind fun s3=>K 2 s3)=_
   rw [e82,hcat];rfl
  ·have e83:∀ k,A83 t x k=k x:=fun k=>if_pos ⟨e,hx⟩
   rw [e83]
   rcases e with e | e | e<;>subst e<;>rfl
 ·cases h
def A32:Ty32:=fun plain tag s K=>if s.length≤10000∧tag.length≤10000 then K (decideV plain tag s).1.1 (decideV plain tag s).1.2 (decideV plain tag s).2 else none
theorem A32_ok {plain:Bool} {tag s:B} (hs:s.length≤10000) (ht:tag.length≤10000) (K:Tk32):A32 plain tag s K=K (decideV plain tag s).1.1 (decideV plain tag s).1.2 (decideV plain tag s).2:=if_pos ⟨hs,ht⟩
theorem eq32 (hC:∀ key e t,C key e t=t e) (plain:Bool) (tag s:B) (K:Tk32) (r:Out) (h:A32 plain tag s K=some r):run32 C A25 A43 A47 big plain tag s K=some r:=by
 unfold A32 at h
 split at h
 ·rename_i hc
  obtain ⟨hs,ht⟩:=hc
  obtain ⟨l1,l2⟩:=build_len2 (v:=11) (p:=plain) ht hs
  have hbare:tag=[]→((buildV 12 tag s plain).2&&((buildV 11 tag s plain).1==(buildV 12 tag s plain).1))=false →
    ((buildV 11 tag s plain).1.1=tStr∧easy s=true)∨(buildV 11 tag s plain).1.1=tTime∨((buildV 11 tag s plain).1.1=tBool∨(buildV 11 tag s plain).1.1=tInt∨(buildV 11 tag s plain).1.1=tFloat):=by
   intro e hne
   subst e
   cases plain with
   | false =>
    have e1:∀ v,buildV v [] s false=((tStr,s),true):=fun v=>rfl
    rw [e1,e1] at hne
    simp at hne
   | true =>
    have e1:∀ v,buildV v [] s true=(plainV v s,true):=fun v=>rfl
    rw [e1 11,e1 12] at hne
    rw [e1 11]
    have hne':plainV 11 s ≠ plainV 12 s:=by
     intro e
     rw [e] at hne
     simp at hne
    rcases bare_case hne' with ⟨e,he⟩ | e
    ·exact .inl ⟨by rw [e],he⟩
    ·exact .inr e
  rw [run32_eq,← h,A25_ok (by omega) (by omega),A25_ok (by omega) (by omega)]
  simp only [p1_32_eq _ _ _ _ hC,p2_32_eq _ _ _ _ hC]
  unfold decideV
  generalize buildV 12 tag s plain=Y at *
  generalize buildV 11 tag s plain=X at *
  obtain ⟨⟨a,b⟩,c⟩:=X
  obtain ⟨⟨a',b'⟩,c'⟩:=Y
  have e43:∀ k,A43 b k=k b:=fun k=>if_pos (by simp only at l2;omega)
  have ep:((a,b)==(a',b'))=((a==a')&&((b==b')&&true)):=by rw [Bool.and_true];rfl
  simp only [e43] at hbare ⊢
  rw [ep] at hbare ⊢
  cases c with
  | false=>rfl
  | true =>
   simp only [Bool.not_true,cond_false]
   cases hcc:c'&&((a==a')&&((b==b')&&true)) with
   | true =>
    rw [Bool.and_eq_true] at hcc
    rw [hcc.1,hcc.2];rfl
   | false =>
    have hk:∀ X Y:Option Out,(bif c' then (bif (a==a')&&((b==b')&&true) then X else Y) else Y)=Y:=by
     intro X Y
     cases hc':c' with
     | false=>rfl
     | true =>
      rw [hc',Bool.true_and] at hcc
      rw [hcc];rfl
    rw [hk]
    cases ht0:tag==[] with
    | false =>
     simp only [cond_false]
     show (bif a==tNull then K 3 [110,117,108,108] true else K 3 b true)=_
     cases a==tNull<;>rfl
    | true =>
     have hb:=hbare (eq_of_beq ht0) hcc
     have e47:∀ k,A47 a b s k=k (bareV a b s).1 (bareV a b s).2:=fun k=>if_pos ⟨hb,by omega,by simp only at l2;omega⟩
     simp only [cond_true,cond_false,e47]
 ·cases h
def survV (plain:Bool) (tag s:B):Bool:=(decideV plain tag s).2&&((decideV plain tag s).1.1==0)
def A34:Ty34:=fun plain tag s K=>if s.length≤10000∧tag.length≤10000 then K (survV plain tag s) else none
theorem eq34 (plain:Bool) (tag s:B) (K:Tk34) (r:Out) (h:A34 plain tag s K=some r):run34 C A32 big plain tag s K=some r:=by
 unfold A34 at h
 split at h
 ·rename_i hc
  rw [run34_eq,← h,A32_ok hc.1 hc.2]
  unfold survV
  cases (decideV plain tag s).2<;>rfl
 ·cases h
theorem A34_ok {plain:Bool} {tag s:B} (hs:s.length≤10000) (ht:tag.length≤10000) (K:Tk34):A34 plain tag s K=K (survV plain tag s):=if_pos ⟨hs,ht⟩
def A29:Ty29:=fun K=>K true
theorem eq29 (K:Tk29):run29 C A32 A34 big K=K true:=by
 have k1:decideV true [] [121,101,115]=((3,[116,114,117,101]),true):=by decide +kernel
 have k2:decideV true [] [48,111,55]=((1,[34,48,111,55,34]),true):=by decide +kernel
 have k3:decideV false tInt [48,49,48]=((3,[56]),true):=by decide +kernel
 have k4:decideV true [] [50,48,48,49,45,48,49,45,48,49]=((2,tagT),true):=by decide +kernel
 have k5:decideV true tInt [120]=((0,[]),false):=by decide +kernel
 have k6:survV true [] [60,60]=true:=by decide +kernel
 have k7:survV false tBool [111,110]=false:=by decide +kernel
 have e1:=A32_ok (plain:=true) (tag:=[]) (s:=[121,101,115]) (by decide) (by decide)
 have e2:=A32_ok (plain:=true) (tag:=[]) (s:=[48,111,55]) (by decide) (by decide)
 have e3:=A32_ok (plain:=false) (tag:=tInt) (s:=[48,49,48]) (by decide) (by decide)
 have e4:=A32_ok (plain:=true) (tag:=[]) (s:=[50,48,48,49,45,48,49,45,48,49]) (by decide) (by decide)
 have e5:=A32_ok (plain:=true) (tag:=tInt) (s:=[120]) (by decide) (by decide)
 have e6:=A34_ok (plain:=true) (tag:=[]) (s:=[60,60]) (by decide) (by decide)
 have e7:=A34_ok (plain:=false) (tag:=tBool) (s:=[111,110]) (by decide) (by decide)
 rw [k1] at e1
 rw [k2] at e2
 rw [k3] at e3
 rw [k4] at e4
 rw [k5] at e5
 rw [k6] at e6
 rw [k7] at e7
 rw [run29_eq]
 refine (e1 _).trans ?_
 refine (e2 _).trans ?_
 refine (e3 _).trans ?_
 refine (e4 _).trans ?_
 refine (e5 _).trans ?_
 refine (e6 _).trans ?_
 rfl
end Go.Proofs.YtffmgholjdfcnaaGreatDoor
