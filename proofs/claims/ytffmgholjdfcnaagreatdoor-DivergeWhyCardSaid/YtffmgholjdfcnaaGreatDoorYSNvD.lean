import Derived.Test.YtffmgholjdfcnaaGreatDoorYSNvB
import Derived.Test.YtffmgholjdfcnaaGreatDoorYSNuR
import Derived.Test.YtffmgholjdfcnaaGreatDoorKSD
set_option linter.unusedSimpArgs false
set_option linter.unusedVariables false
namespace Go.Proofs.YtffmgholjdfcnaaGreatDoor
open Go AM St Nu
open Go.IntKind (i64 u8)
variable {C:Nat→Env→(Env→Option Out)→Option Out}
def tMap:B:=[116,97,103,58,121,97,109,108,46,111,114,103,44,50,48,48,50,58,109,97,112]
def tSeq:B:=[116,97,103,58,121,97,109,108,46,111,114,103,44,50,48,48,50,58,115,101,113]
def tSet:B:=[116,97,103,58,121,97,109,108,46,111,114,103,44,50,48,48,50,58,115,101,116]
def tOmap:B:=[116,97,103,58,121,97,109,108,46,111,114,103,44,50,48,48,50,58,111,109,97,112]
def tPairs:B:=[116,97,103,58,121,97,109,108,46,111,114,103,44,50,48,48,50,58,112,97,105,114,115]
def tValue:B:=[116,97,103,58,121,97,109,108,46,111,114,103,44,50,48,48,50,58,118,97,108,117,101]
def needs (tag:B):Bool:=tag==tNull || tag==tBool || tag==tInt || tag==tFloat || tag==tTime || tag==tBin
def isColl (tag:B):Bool:=tag==tMap || tag==tSeq || tag==tSet || tag==tOmap || tag==tPairs
def typedB (v:Int) (tag s:B):B × Bool:=if tag=tBin then binT s else typedV v tag s
def needV (v:Int) (tag s:B):B × Bool:=
 bif tag==tNull then ([],nulls.contains s) else bif tag==tBool then (bif (boolW v s).2 then (boolT (boolW v s).1,true) else ([],false))
 else bif tag==tFloat then (printD (flV v s).1,(flV v s).2) else bif tag==tTime then ofT s else bif tag==tBin then binT s else intV v s
def buildV (v:Int) (tag s:B) (plain:Bool):(B × B) × Bool:=
 bif tag==[]&&plain then (plainV v s,true)
 else bif tag==[] || tag==[33] || tag==tStr then ((tStr,s),true)
 else bif isColl tag then (([],[]),false)
 else bif needs tag then (bif (typedB v tag s).2 then ((tag,(typedB v tag s).1),true) else (([],[]),false))
 else ((tag,s),true)
theorem ty_null (v:Int) (s:B):typedB v tNull s=([],nulls.contains s):=by unfold typedB typedV;rw [if_neg (by decide),if_pos rfl]
theorem ty_bool (v:Int) (s:B):typedB v tBool s=(bif (boolW v s).2 then (boolT (boolW v s).1,true) else ([],false)):=by
 unfold typedB typedV;rw [if_neg (by decide),if_neg (by decide),if_pos rfl];cases (boolW v s).2<;>rfl
theorem ty_int (v:Int) (s:B):typedB v tInt s=intV v s:=by unfold typedB typedV;rw [if_neg (by decide),if_neg (by decide),if_neg (by decide),if_pos rfl]
theorem ty_float (v:Int) (s:B):typedB v tFloat s=(bif (flV v s).2 then (printD (flV v s).1,true) else ([],false)):=by
 unfold typedB typedV;rw [if_neg (by decide),if_neg (by decide),if_neg (by decide),if_neg (by decide),if_pos rfl];cases (flV v s).2<;>rfl
theorem ty_time (v:Int) (s:B):typedB v tTime s=ofT s:=by unfold typedB typedV;rw [if_neg (by decide),if_neg (by decide),if_neg (by decide),if_neg (by decide),if_neg (by decide),if_pos rfl]
theorem ty_bin (v:Int) (s:B):typedB v tBin s=binT s:=if_pos rfl
theorem needs_cases {tag:B} (h:needs tag=true):tag=tNull∨tag=tBool∨tag=tInt∨tag=tFloat∨tag=tTime∨tag=tBin:=by
 unfold needs at h
 simpa [or_assoc] using h
theorem need_typed {v:Int} {tag s:B} (h:needs tag=true):(needV v tag s).2=(typedB v tag s).2∧((typedB v tag s).2=true→(needV v tag s).1=(typedB v tag s).1):=by
 rcases needs_cases h with rfl | rfl | rfl | rfl | rfl | rfl
 ·rw [ty_null];exact ⟨rfl,fun _=>rfl⟩
 ·rw [ty_bool];exact ⟨rfl,fun _=>rfl⟩
 ·rw [ty_int];exact ⟨rfl,fun _=>rfl⟩
 ·rw [ty_float]
  show (flV v s).2=_∧(_→printD (flV v s).1=_)
  cases (flV v s).2
  ·exact ⟨rfl,fun h=>by cases h⟩
  ·exact ⟨rfl,fun _=>rfl⟩
 ·rw [ty_time];exact ⟨rfl,fun _=>rfl⟩
 ·rw [ty_bin];exact ⟨rfl,fun _=>rfl⟩
def A183:Ty183:=fun b K=>K (boolT b)
theorem eq183 (b:Bool) (K:Tk183):run183 C big b K=A183 b K:=by rw [run183_eq];cases b<;>rfl
def A130:Ty130:=fun b K=>K (boolT b)
theorem eq130 (b:Bool) (K:Tk130):run130 C A183 big b K=A130 b K:=by rw [run130_eq];rfl
def A78:Ty78:=fun v s K=>bif (boolW v s).2 then K (boolT (boolW v s).1) true else K [] false
theorem eq78 (v:Int) (s:B) (K:Tk78):run78 C A40 A130 big v s K=A78 v s K:=by
 have e40:∀ k,A40 v s k=k (boolW v s).1 (boolW v s).2:=fun k=>rfl
 have e130:∀ b k,A130 b k=k (boolT b):=fun b k=>rfl
 rw [run78_eq,e40,e130]
 unfold A78
 cases (boolW v s).2<;>rfl
def A79:Ty79:=fun v s K=>if s.length≤10000 then K (printD (flV v s).1) (flV v s).2 else none
theorem eq79 (v:Int) (s:B) (K:Tk79) (r:Out) (h:A79 v s K=some r):run79 C A63 A65 A66 big v s K=some r:=by
 unfold A79 at h
 split at h
 ·rename_i hs
  have e63:∀ k,A63 s k=k (fl12 s).1.kind (fl12 s).1.neg (fl12 s).1.d (fl12 s).1.e (fl12 s).2:=fun k=>if_pos hs
  have e65:∀ k,A65 s k=k (fl11 s).1.kind (fl11 s).1.neg (fl11 s).1.d (fl11 s).1.e (!((fl11 s).2==0)):=fun k=>if_pos hs
  rw [run79_eq,← h,e63,e65,A66_ok (fl12_len hs),A66_ok (fl11_len hs)]
  unfold flV
  cases v==11<;>rfl
 ·cases h
def A46:Ty46:=fun v tag s K=>if s.length≤10000 then K (needV v tag s).1 (needV v tag s).2 else none
theorem eq46 (v:Int) (tag s:B) (K:Tk46) (r:Out) (h:A46 v tag s K=some r):run46 C A42 A62 A64 A67 A78 A79 A80 big v tag s K=some r:=by
 unfold A46 at h
 split at h
 ·rename_i hs
  have e42:∀ k,A42 s k=k (nulls.contains s):=fun k=>rfl
  have e62:∀ k,A62 s k=k (int12 s) (!(int12 s==[])):=fun k=>if_pos (by omega)
  have e64:∀ k,A64 s k=k (int11 s).1 (!((int11 s).2==0)):=fun k=>if_pos (by omega)
  have e67:∀ k,A67 s k=k (ofT s).1 (ofT s).2:=fun k=>if_pos (by omega)
  have e78:∀ k,A78 v s k=(bif (boolW v s).2 then k (boolT (boolW v s).1) true else k [] false):=fun k=>rfl
  have e79:∀ k,A79 v s k=k (printD (flV v s).1) (flV v s).2:=fun k=>if_pos hs
  have e80:∀ k,A80 s k=k (binT s).1 (binT s).2:=fun k=>if_pos hs
  rw [run46_eq,← h,e42,e62,e64,e67,e78,e79,e80]
  show (bif tag==tNull then K [] (nulls.contains s) else bif tag==tBool then (bif (boolW v s).2 then K (boolT (boolW v s).1) true else K [] false) else bif tag==tFloat then K (printD (flV v s).1) (flV v s).2 else bif tag==tTime then K (ofT s).1 (ofT s).2 else bif tag==tBin then K (binT s).1 (binT s).2 else bif v==11 then K (int11 s).1 (!((int11 s).2==0)) else K (int12 s) (!(int12 s==[])))=_
  unfold needV intV
  cases tag==tNull<;>cases tag==tBool<;>cases (boolW v s).2<;>cases tag==tFloat<;>cases tag==tTime<;>cases tag==tBin<;>cases v==11<;>rfl
 ·cases h
theorem needs_def (tag:B) (K:Bool→Option Out):(bif tag==tNull then (bif tag==tNull then K true else K false) else bif tag==tBool then (bif tag==tBool then K true else K false) else bif tag==tInt then (bif tag==tInt then K true else K false) else bif tag==tFloat then (bif tag==tFloat then K true else K false) else bif tag==tTime then (bif tag==tTime then K true else K false) else (bif tag==tBin then K true else K false))=K (needs tag):=by
 unfold needs
 cases tag==tNull<;>cases tag==tBool<;>cases tag==tInt<;>cases tag==tFloat<;>cases tag==tTime<;>cases tag==tBin<;>rfl
def A27:Ty27:=fun t K=>K (needs t)
theorem eq27 (hC:∀ key e t,C key e t=t e) (t:B) (K:Tk27):run27 C big t K=A27 t K:=by
 rw [run27_eq]
 simp only [p1_27_eq _ hC]
 exact needs_def t K
def A28:Ty28:=fun t K=>K (needs t)
theorem eq28 (hC:∀ key e t,C key e t=t e) (t:B) (K:Tk28):run28 C big t K=A28 t K:=by
 rw [run28_eq]
 simp only [p1_28_eq _ hC]
 exact needs_def t K
def A25:Ty25:=fun v tag s plain K=>if s.length≤10000∧tag.length≤10000 then K (buildV v tag s plain).1.1 (buildV v tag s plain).1.2 (buildV v tag s plain).2 else none
theorem build_alt (v:Int) (tag s:B) (plain:Bool) (K:B→B→Bool→Option Out) :
  (bif tag==[] then (bif plain then K (plainV v s).1 (plainV v s).2 true else K tStr s true) else bif tag==[33] then K tStr s true else bif tag==tStr then K tag s true
   else bif isColl tag then K [] [] false else bif needs tag then (bif (typedB v tag s).2 then K tag (typedB v tag s).1 true else K [] [] false) else K tag s true)
  = K (buildV v tag s plain).1.1 (buildV v tag s plain).1.2 (buildV v tag s plain).2:=by
 unfold buildV
 cases h3:tag==tStr with
 | true =>
  have:=eq_of_beq h3
  subst this
  cases plain<;>rfl
 | false =>
  cases tag==[]<;>cases plain<;>cases tag==[33]<;>cases isColl tag<;>cases needs tag<;>cases (typedB v tag s).2<;>rfl
theorem coll_alt (tag:B) (X Y:Option Out) :
  (bif tag==tMap then (bif tag==tMap then X else Y) else bif tag==tSeq then (bif tag==tSeq then X else Y) else bif tag==tSet then (bif tag==tSet then X else Y) else bif tag==tOmap then (bif tag==tOmap then X else Y) else (bif tag==tPairs then X else Y))=bif isColl tag then X else Y:=by
 unfold isColl
 cases tag==tMap<;>cases tag==tSeq<;>cases tag==tSet<;>cases tag==tOmap<;>cases tag==tPairs<;>rfl
theorem eq25 (hC:∀ key e t,C key e t=t e) (v:Int) (tag s:B) (plain:Bool) (K:Tk25) (r:Out) (h:A25 v tag s plain K=some r):run25 C A16 A27 A43 A46 big v tag s plain K=some r:=by
 unfold A25 at h
 split at h
 ·rename_i hc
  obtain ⟨hs,ht⟩:=hc
  have e16:∀ k,A16 v s k=k (plainV v s).1 (plainV v s).2:=fun k=>if_pos hs
  have e27:∀ k,A27 tag k=k (needs tag):=fun k=>rfl
  have e43:∀ x:B,x.length≤281474976710656→∀ k,A43 x k=k x:=fun x hx k=>if_pos hx
  have e43s:=e43 s (by omega)
  have e43t:=e43 tag (by omega)
  have e46:∀ k,A46 v tag s k=k (needV v tag s).1 (needV v tag s).2:=fun k=>if_pos hs
  have hn:∀ v8_0 v8_1,p4_25 C A16 A27 A43 A46 big v tag s v8_0 v8_1 K=(bif needs tag then (bif (typedB v tag s).2 then K tag (typedB v tag s).1 true else K [] [] false) else K tag s true):=by
   intro v8_0 v8_1
   rw [p4_25_eq _ _ _ _ _ hC,e27]
   simp only [p5_25_eq _ _ _ _ _ hC,e46,e43t]
   rw [e43s]
   cases hnd:needs tag with
   | false=>rfl
   | true =>
    obtain ⟨h1,h2⟩:=need_typed (v:=v) (s:=s) hnd
    rw [h1]
    cases hok:(typedB v tag s).2 with
    | false=>rfl
    | true =>
     rw [h2 hok]
     simp only [Bool.not_true,cond_false,cond_true]
     refine e43 _ ?_ _
     have hl:(typedB v tag s).1.length≤281474976710656:=by
      rcases needs_cases hnd with e | e | e | e | e | e<;>subst e
      ·rw [ty_null];simp
      ·rw [ty_bool];cases (boolW v s).2<;>simp;cases (boolW v s).1<;>simp [boolT]
      ·rw [ty_int]
       unfold intV
       have:=int11_len s
       have:=int12_len s
       cases v==11<;>simp only<;>omega
      ·rw [ty_float]
       have hf:DeLen (17 * s.length+60) (flV v s).1:=by
        unfold flV
        cases v==11 with
        | true=>exact fl11_len2 s
        | false=>exact fl12_len2 s
       have:=printD_len (flV v s).1
       have h1:=hf.1
       have h2:=hf.2
       cases (flV v s).2<;>simp;omega
      ·rw [ty_time]
       have:=ofT_len s
       omega
      ·rw [ty_bin]
       unfold binT
       have:=clean_len s
       cases dec64 (clean s)<;>simp;omega
     exact hl
  rw [run25_eq,← h,e16]
  simp only [p1_25_eq _ _ _ _ _ hC,p2_25_eq _ _ _ _ _ hC,p3_25_eq _ _ _ _ _ hC,e43s,hn]
  rw [← build_alt v tag s plain K]
  have hcoll:=coll_alt tag (K [] [] false) (bif needs tag then (bif (typedB v tag s).2 then K tag (typedB v tag s).1 true else K [] [] false) else K tag s true)
  rw [← hcoll]
  rfl
 ·cases h
def A45b:Ty45:=fun v tag s K=>if s.length≤10000 then K (typedB v tag s).1 (typedB v tag s).2 else none
theorem eq45b (v:Int) (tag s:B) (K:Tk45) (r:Out) (h:A45b v tag s K=some r):run45 C A44 A69 A70 A71 A72 A73 A74 A75 A76 A77 big v tag s K=some r:=by
 unfold A45b at h
 split at h
 ·rename_i hs
  by_cases hb:tag=tBin
  ·subst hb
   have e77:∀ k,A77 s k=k (binT s).1 (binT s).2:=fun k=>if_pos hs
   rw [ty_bin] at h
   rw [run45_eq,← h,e77]
   rfl
  ·refine eq45 v tag s K r ?_
   unfold A45
   rw [if_pos ⟨hs,hb⟩]
   have:typedB v tag s=typedV v tag s:=if_neg hb
   rw [this] at h
   exact h
 ·cases h
def A26:Ty26:=fun v tag s plain K=>if s.length≤10000∧tag.length≤10000 then K (buildV v tag s plain).1.1 (buildV v tag s plain).1.2 (buildV v tag s plain).2 else none
theorem eq26 (hC:∀ key e t,C key e t=t e) (v:Int) (tag s:B) (plain:Bool) (K:Tk26) (r:Out) (h:A26 v tag s plain K=some r):run26 C A17 A28 A45b big v tag s plain K=some r:=by
 unfold A26 at h
 split at h
 ·rename_i hc
  obtain ⟨hs,ht⟩:=hc
  have e17:∀ k,A17 v s k=k (plainV v s).1 (plainV v s).2:=fun k=>if_pos hs
  have e28:∀ k,A28 tag k=k (needs tag):=fun k=>rfl
  have e45:∀ k,A45b v tag s k=k (typedB v tag s).1 (typedB v tag s).2:=fun k=>if_pos hs
  rw [run26_eq,← h,e17]
  simp only [p1_26_eq _ _ _ _ hC,p2_26_eq _ _ _ _ hC,e28,e45]
  rw [← build_alt v tag s plain K]
  have hcoll:=coll_alt tag (K [] [] false) (bif needs tag then (bif (typedB v tag s).2 then K tag (typedB v tag s).1 true else K [] [] false) else K tag s true)
  rw [← hcoll]
  have e1:∀ b c:Bool,∀ X Y Z:Option Out,(bif !b then X else bif !c then Y else Z)=(bif b then (bif c then Z else Y) else X):=by intro b c X Y Z;cases b<;>cases c<;>rfl
  simp only [e1]
  cases h3:tag==tStr with
  | true =>
   have:=eq_of_beq h3
   subst this
   rfl
  | false =>
   have h3':(tag==([116,97,103,58,121,97,109,108,46,111,114,103,44,50,48,48,50,58,115,116,114]:B))=false:=h3
   rw [h3']
   cases tag==[] with
   | true=>rfl
   | false =>
    cases tag==[33] with
    | true=>rfl
    | false=>rfl
 ·cases h
theorem A25_ok {v:Int} {tag s:B} {plain:Bool} (hs:s.length≤10000) (ht:tag.length≤10000) (K:Tk25):A25 v tag s plain K=K (buildV v tag s plain).1.1 (buildV v tag s plain).1.2 (buildV v tag s plain).2:=if_pos ⟨hs,ht⟩
theorem A26_ok {v:Int} {tag s:B} {plain:Bool} (hs:s.length≤10000) (ht:tag.length≤10000) (K:Tk26):A26 v tag s plain K=K (buildV v tag s plain).1.1 (buildV v tag s plain).1.2 (buildV v tag s plain).2:=if_pos ⟨hs,ht⟩
def A22:Ty22:=fun K=>K true
theorem eq22 (K:Tk22):run22 C A25 A27 big K=K true:=by
 have k1:buildV 11 tInt [48,49,48] false=((tInt,[56]),true):=by decide +kernel
 have k2:buildV 12 tBool [121,101,115] true=(([],[]),false):=by decide +kernel
 have k3:buildV 12 [33,120] [97] true=(([33,120],[97]),true):=by decide +kernel
 have k4:buildV 11 [] [121,101,115] false=((tStr,[121,101,115]),true):=by decide +kernel
 have k5:buildV 11 tSet [97] false=(([],[]),false):=by decide +kernel
 have e1:=A25_ok (v:=11) (tag:=tInt) (s:=[48,49,48]) (plain:=false) (by decide) (by decide)
 have e2:=A25_ok (v:=12) (tag:=tBool) (s:=[121,101,115]) (plain:=true) (by decide) (by decide)
 have e3:=A25_ok (v:=12) (tag:=[33,120]) (s:=[97]) (plain:=true) (by decide) (by decide)
 have e4:=A25_ok (v:=11) (tag:=[]) (s:=[121,101,115]) (plain:=false) (by decide) (by decide)
 have e5:=A25_ok (v:=11) (tag:=tSet) (s:=[97]) (plain:=false) (by decide) (by decide)
 rw [k1] at e1
 rw [k2] at e2
 rw [k3] at e3
 rw [k4] at e4
 rw [k5] at e5
 rw [run22_eq]
 refine (e1 _).trans ?_
 refine (e2 _).trans ?_
 refine (e3 _).trans ?_
 refine (e4 _).trans ?_
 refine (e5 _).trans ?_
 rfl
def wordsB:List B:=[[121,101,115],[110,111],[48],[49],[56],[48,120],[48,111],[48,98],[95],[58],[46],[101],[69],[43],[45],[105,110,102],[110,97,110],[50,48,48,49,45,48,49,45,48,49],[32],[84],[116,114,117,101],[126],[65,81,61,61],[120]]
def someB (l:List Int):B:=l.flatMap fun x=>wordsB.getD (x.toNat % 24) []
theorem wordsB_len (n:Nat):(wordsB.getD n []).length≤10:=by
 rcases Nat.lt_or_ge n wordsB.length with h | h
 ·have:∀ x ∈ wordsB,x.length≤10:=by decide
  rw [List.getD_eq_getElem?_getD,List.getElem?_eq_getElem h]
  exact this _ (List.getElem_mem h)
 ·rw [List.getD_eq_getElem?_getD,List.getElem?_eq_none h];simp
theorem someB_len (l:List Int):(someB l).length≤10 * l.length:=by
 induction l with
 | nil=>simp [someB]
 | cons x l ih =>
  unfold someB at ih ⊢
  rw [List.flatMap_cons,List.length_append,List.length_cons]
  have:=wordsB_len (x.toNat % 24)
  omega
def A24:Ty24:=fun l K=>if (∀ x,x ∈ l→0≤x∧x≤255)∧l.length≤1000000 then K (someB l) else none
theorem loop24 (hC:∀ key e t,C key e t=t e) (kk:Nat) (l:List Int) (hl:∀ x,x ∈ l→0≤x∧x≤255) (hn:l.length≤1000000) (K:Tk24):∀ (m j p:Nat) (acc:B),l.length - p=m→m<j→p≤l.length→acc.length≤10 * p →
  l1_24 C kk j l wordsB acc (p:Int) K=K (acc++someB (l.drop p)):=by
 intro m
 induction m with
 | zero =>
  intro j p acc hm hj hp ha
  obtain ⟨j,rfl⟩:∃ i,j=i+1:=⟨j - 1,by omega⟩
  have h2:l.drop p=[]:=List.drop_eq_nil_of_le (by omega)
  rw [l1_24_eq _ hC,h2,dF (by omega),cond_false]
  simp [someB]
 | succ m ih =>
  intro j p acc hm hj hp ha
  obtain ⟨j,rfl⟩:∃ i,j=i+1:=⟨j - 1,by omega⟩
  have hp':p<l.length:=by omega
  have hg:l[(p:Int).toNat]?=some l[p]:=by rw [Int.toNat_natCast];exact List.getElem?_eq_getElem hp'
  obtain ⟨x0,x1⟩:=hl l[p] (List.getElem_mem hp')
  have hb:(decide (0≤(p:Int))&&decide ((p:Int)<(l.length:Int)))=true:=by rw [dT (by omega),dT (by omega)];rfl
  have hb2:(decide (0≤l[p] % 24)&&decide (l[p] % 24<24))=true:=by rw [dT (by omega),dT (by omega)];rfl
  have hw:wordsB[0+(l[p] % 24).toNat]?=some (wordsB.getD (l[p].toNat % 24) []):=by
   have e:0+(l[p] % 24).toNat=l[p].toNat % 24:=by omega
   have hlt:l[p].toNat % 24<wordsB.length:=by show _<24;omega
   rw [e,List.getD_eq_getElem?_getD,List.getElem?_eq_getElem hlt]
   rfl
  have hwl:=wordsB_len (l[p].toNat % 24)
  have e4:i64.wrap ((p:Int)+1)=((p+1:Nat):Int):=by rw [i64_in (by omega) (by omega)];omega
  rw [l1_24_eq _ hC,hb,dT (by omega),cond_true,cond_true,hg,oB,tmod_nn x0,hb2,cond_true,hw,oB,cat_ok (by omega),oB,e4,ih j (p+1) _ (by omega) (by omega) (by omega) (by rw [List.length_append];omega),List.append_assoc]
  have e5:l.drop p=l[p] :: l.drop (p+1):=List.drop_eq_getElem_cons hp'
  rw [e5]
  rfl
theorem eq24 (hC:∀ key e t,C key e t=t e) (l:List Int) (K:Tk24) (r:Out) (h:A24 l K=some r):run24 C big l K=some r:=by
 unfold A24 at h
 split at h
 ·rename_i hc
  have:=loop24 hC big l hc.1 hc.2 K l.length big 0 [] rfl (by unfold big;omega) (by omega) (by simp)
  rw [run24_eq,← h]
  exact this
 ·cases h
end Go.Proofs.YtffmgholjdfcnaaGreatDoor
