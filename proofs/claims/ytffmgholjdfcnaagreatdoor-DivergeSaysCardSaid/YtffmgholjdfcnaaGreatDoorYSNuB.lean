import Derived.Test.YtffmgholjdfcnaaGreatDoorYSStH
import Derived.Test.YtffmgholjdfcnaaGreatDoorYSStO
import Derived.Test.YtffmgholjdfcnaaGreatDoorKSC
import Derived.Test.YtffmgholjdfcnaaGreatDoorKSD
import Derived.Test.YtffmgholjdfcnaaGreatDoorYSNuH
import Derived.Lib.SlTrimSet
set_option linter.unusedSimpArgs false
set_option linter.unusedVariables false
namespace Go.Proofs.YtffmgholjdfcnaaGreatDoor
open Go AM St Nu
open Go.IntKind (i64 u8)
variable {C:Nat→Env→(Env→Option Out)→Option Out}
theorem Pt_zero (s:B):Pt s s=0:=by unfold Pt;simp
theorem Pt_lt {s l:B} {c:UInt8} (h:c :: l <:+ s):Pt s (c :: l)<(s.length:Int):=by
 have:=h.length_le
 unfold Pt;simp at this ⊢;omega
theorem Pt_end (s:B):Pt s []=(s.length:Int):=by unfold Pt;simp
theorem Pt_succ {s l:B} {c:UInt8} (h:c :: l <:+ s) (hs:s.length≤1099511627776):i64.wrap (Pt s (c :: l)+1)=Pt s l:=by
 rw [Pt_cons h]
 exact i64_in (by have:=Pt_nn s l;omega) (by have:=Pt_le s l;omega)
theorem lo_hi (c:UInt8):dg c=(!decide ((c.toNat:Int)<48)&&!decide ((c.toNat:Int) > 57)):=by
 unfold dg
 have a:decide (48≤c.toNat)=!decide ((c.toNat:Int)<48):=by rw [← decide_not];exact decide_eq_decide.2 (by omega)
 have b:decide (c.toNat≤57)=!decide ((c.toNat:Int) > 57):=by rw [← decide_not];exact decide_eq_decide.2 (by omega)
 rw [a,b]
def A147:Ty147:=fun s K=>if s.length≤1099511627776 then K (isD s) else none
theorem loop147 (hC:∀ key e t,C key e t=t e) {s:B} (hs:s.length≤1099511627776) {K:Tk147} (kk:Nat):∀ (l:B) (j:Nat),l <:+ s→l.length<j→l1_147 C kk j s (s.length:Int) (Pt s l) K=K (!(s==[])&&l.all dg)
 | [],j,h,hj=>by
  obtain ⟨j,rfl⟩:∃ i,j=i+1:=⟨j - 1,by omega⟩
  rw [l1_147_eq _ hC,Pt_end,dF (by omega),cond_false,List.all_nil,Bool.and_true]
 | c :: l,j,h,hj=>by
  obtain ⟨j,rfl⟩:∃ i,j=i+1:=⟨j - 1,by omega⟩
  have hl:l <:+ s:=(List.suffix_cons c l).trans h
  have ih:=loop147 hC hs (K:=K) kk l j hl (by simp at hj;omega)
  have hn:(s==([]:B))=false:=by
   cases s with
   | nil=>simp at h
   | cons=>rfl
  rw [l1_147_eq _ hC,dT (Pt_lt h),cond_true,at_Pt h,oB,oB,Pt_succ h hs,ih,List.all_cons,lo_hi,hn]
  cases decide ((c.toNat:Int)<48)<;>cases decide ((c.toNat:Int) > 57)<;>simp
theorem eq147 (hC:∀ key e t,C key e t=t e) (s:B) (K:Tk147) (r:Out) (h:A147 s K=some r):run147 C big s K=some r:=by
 unfold A147 at h
 split at h
 ·rename_i hs
  rw [run147_eq,← h]
  have:=loop147 hC hs (K:=K) big s big (List.suffix_refl s) (by unfold big;omega)
  rw [Pt_zero] at this
  exact this
 ·cases h
def A174:Ty174:=fun s K=>if s.length≤1099511627776 then K (isD s) else none
theorem loop174 (hC:∀ key e t,C key e t=t e) {s:B} (hs:s.length≤1099511627776) {K:Tk174} (kk:Nat):∀ (l:B) (j:Nat),l <:+ s→l.length<j→l1_174 C A92 kk j s (Pt s l) K=K (!(s==[])&&l.all dg)
 | [],j,h,hj=>by
  obtain ⟨j,rfl⟩:∃ i,j=i+1:=⟨j - 1,by omega⟩
  have e:decide ((s.length:Int) > 0)=!(s==[]):=by
   cases s with
   | nil=>rfl
   | cons a b=>simp only [List.length_cons];exact dT (by omega)
  rw [l1_174_eq _ _ hC,Pt_end,dF (by omega),cond_false,List.all_nil,Bool.and_true,e]
 | c :: l,j,h,hj=>by
  obtain ⟨j,rfl⟩:∃ i,j=i+1:=⟨j - 1,by omega⟩
  have hl:l <:+ s:=(List.suffix_cons c l).trans h
  have ih:=loop174 hC hs (K:=K) kk l j hl (by simp at hj;omega)
  have hn:(s==([]:B))=false:=by
   cases s with
   | nil=>simp at h
   | cons=>rfl
  rw [l1_174_eq _ _ hC,dT (Pt_lt h),cond_true,at_Pt h,oB,Pt_succ h hs,ih,List.all_cons,A35_dg,hn]
  cases dg c<;>simp
theorem eq174 (hC:∀ key e t,C key e t=t e) (s:B) (K:Tk174) (r:Out) (h:A174 s K=some r):run174 C A92 big s K=some r:=by
 unfold A174 at h
 split at h
 ·rename_i hs
  rw [run174_eq,← h]
  have:=loop174 hC hs (K:=K) big s big (List.suffix_refl s) (by unfold big;omega)
  rw [Pt_zero] at this
  exact this
 ·cases h
def A148:Ty148:=fun s c K=>match c with
 | [x]=>if x.toNat<128∧s.length≤1099511627776 then K (Lib.trimLeftB s x) else none
 | c=>if c.length=10∧(c.all fun x=>decide (x.toNat<128))=true∧s.length≤1099511627776 then K (Lib.trimLeftS s c) else none
theorem trimLeft_dropZ:∀ s:B,Lib.trimLeftB s 48=dropZ s
 | []=>rfl
 | c :: l=>by
  unfold Lib.trimLeftB dropZ
  rw [List.dropWhile_cons]
  have ih:=trimLeft_dropZ l
  unfold Lib.trimLeftB at ih
  cases c==48 with
  | true=>simpa using ih
  | false=>rfl
theorem A148_0 {s:B} {K:Tk148} (h:s.length≤1099511627776):A148 s [48] K=K (dropZ s):=by
 rw [← trimLeft_dropZ];exact if_pos ⟨by decide,h⟩
def A96:Ty96:=fun neg s K=>if s.length≤1099511627776 then K (norm neg s) else none
theorem eq96 (neg:Bool) (s:B) (K:Tk96) (r:Out) (h:A96 neg s K=some r):run96 C A43 A147 A148 big neg s K=some r:=by
 unfold A96 at h
 split at h
 ·rename_i hs
  have e1:∀ k,A147 s k=k (isD s):=fun k=>if_pos hs
  rw [← h,run96_eq,e1]
  unfold norm
  cases hd:isD s with
  | false=>rfl
  | true =>
   have hl:=dropZ_len s
   simp only [Bool.not_true,cond_false]
   rw [A148_0 hs]
   cases hz:dropZ s with
   | nil=>rfl
   | cons c l =>
    rw [hz] at hl
    have hn:((c :: l)==([]:B))=false:=rfl
    rw [hn]
    cases neg with
    | true =>
     simp only [cond_false,cond_true]
     rw [cat_ok (by simp at hl ⊢;omega),oB]
     rfl
    | false =>
     simp only [cond_false]
     exact if_pos (by omega)
 ·cases h
def A115:Ty115:=fun neg s K=>if s.length≤1099511627776 then K (norm neg s) else none
theorem cut_tail {s l:B} (h:l <:+ s):cut s (some (Pt s l)) none=some l:=by
 have h1:=Pt_nn s l
 have h2:=Pt_le s l
 unfold cut
 rw [if_pos (by simp;omega)]
 simp only [Option.getD_some,Option.getD_none]
 rw [Int.toNat_natCast,List.take_length,Pt_drop h]
def sgn (neg:Bool) (l:B):B:=match dropZ l with
 | []=>[48]
 | c :: l=>match neg with | true=>45 :: c :: l | false=>c :: l
theorem end115 (hC:∀ key e t,C key e t=t e) (neg:Bool) {c:UInt8} {l:B} {K:Tk115} (kk:Nat) (hl:(c :: l).length≤1099511627776) (hz:dropZ (c :: l)=c :: l∨(c=48∧l=[])) :
  (bif neg then (p2_115 C A174 kk (c :: l) (!((c :: l)==([48]:BY))) K) else (p2_115 C A174 kk (c :: l) false K))=K (sgn neg (c :: l)):=by
 unfold sgn
 rcases hz with hz | ⟨rfl,rfl⟩
 ·rw [hz]
  have hne:((c :: l)==([48]:B))=false:=by
   cases he:((c :: l)==([48]:B)) with
   | false=>rfl
   | true =>
    have:=eq_of_beq he
    rw [this] at hz
    cases hz
  cases neg with
  | true =>
   rw [cond_true,hne,p2_115_eq _ _ hC,Bool.not_false,cond_true,cat_ok (by simp at hl ⊢;omega),oB]
   rfl
  | false=>rw [cond_false,p2_115_eq _ _ hC,cond_false]
 ·cases neg with
  | true=>rw [cond_true,p2_115_eq _ _ hC];rfl
  | false=>rw [cond_false,p2_115_eq _ _ hC];rfl
theorem loop115 (hC : Cv C) (neg : Bool) {s : B} (hs : s.length ≤ 1099511627776) {K : Tk115} (kk : Nat) : ∀ (l : B) (c : UInt8) (j : Nat), c :: l <:+ s → l.length < j → l1_115 C A174 kk j neg s (Pt s (c :: l)) K = K (sgn neg (c :: l)) := by
  intro l
  induction l with
  | nil =>
    intro c j h hj
    obtain ⟨j, rfl⟩ : ∃ i, j = i + 1 := ⟨j - 1, by omega⟩
    have hp : Pt s [c] = (s.length : Int) - 1 := by have := h.length_le; unfold Pt; simp at this ⊢; omega
    have hle := h.length_le
    rw [l1_115_eq _ _ hC, i64_in (by omega) (by omega), dF (by omega), cond_false, cut_tail h, oB]
    refine end115 hC neg kk (by simp) ?_
    by_cases hc : c = 48
    · exact .inr ⟨hc, rfl⟩
    · exact .inl (dropZ_id hc)
  | cons d l ih =>
    intro c j h hj
    obtain ⟨j, rfl⟩ : ∃ i, j = i + 1 := ⟨j - 1, by omega⟩
    have hl : d :: l <:+ s := (List.suffix_cons c (d :: l)).trans h
    have hle := h.length_le
    have hp : Pt s (c :: d :: l) < (s.length : Int) - 1 := by unfold Pt; simp at hle ⊢; omega
    rw [l1_115_eq _ _ hC, i64_in (by omega) (by omega), dT hp, cond_true, at_Pt h, oB]
    by_cases hc : c = 48
    · subst hc
      have e : (((48 : UInt8).toNat : Int) == 48) = true := rfl
      rw [e, cond_true, Pt_succ h hs, ih d j hl (by simp at hj; omega)]
      rfl
    · have e : ((c.toNat : Int) == 48) = false := by
        cases he : ((c.toNat : Int) == 48) with
        | false => rfl
        | true =>
          have h1 : (c.toNat : Int) = 48 := by simpa using he
          exact absurd (UInt8.toNat_inj.1 (by have : c.toNat = 48 := by omega
                                              rw [this]; rfl)) hc
      rw [e, cond_false, cut_tail h, oB]
      exact end115 hC neg kk (by omega) (.inl (dropZ_id hc))
theorem eq115 (hC:∀ key e t,C key e t=t e) (neg:Bool) (s:B) (K:Tk115) (r:Out) (h:A115 neg s K=some r):run115 C A174 big neg s K=some r:=by
 unfold A115 at h
 split at h
 ·rename_i hs
  have e1:∀ k,A174 s k=k (isD s):=fun k=>if_pos hs
  rw [← h,run115_eq,e1]
  unfold norm
  cases hd:isD s with
  | false=>rfl
  | true =>
   cases s with
   | nil=>cases hd
   | cons c l =>
    have:=loop115 hC neg hs (K:=K) big l c big (List.suffix_refl _) (by simp at hs;unfold big;omega)
    rw [Pt_zero] at this
    simp only [Bool.not_true,cond_false]
    rw [this]
    rfl
 ·cases h
def A230:Ty230:=fun s p K=>match p with
 | [45]=>K (bare s).2 (bare s).1
 | _=>none
def A202:Ty202:=fun s K=>K (bare s).1 (bare s).2
theorem eq202 (s:B) (K:Tk202):run202 C A230 big s K=A202 s K:=by rw [run202_eq];rfl
def A150:Ty150:=fun s K=>if s.length≤1099511627776 then K (good s) else none
theorem bare_len:∀ s:B,(bare s).2.length≤s.length
 | []=>Nat.le_refl _
 | c :: l=>by
  cases h:c==45 with
  | true =>
   have:(bare (c :: l)).2=l:=by
    show (match c==45 with | true=>(true,l) | false=>(false,c :: l)).2=_
    rw [h]
   rw [this];simp
  | false=>rw [bare_no h];exact Nat.le_refl _
theorem eq150 (s:B) (K:Tk150) (r:Out) (h:A150 s K=some r):run150 C A147 A202 big s K=some r:=by
 unfold A150 at h
 split at h
 ·rename_i hs
  have hb:=bare_len s
  rw [← h,run150_eq]
  unfold A202
  dsimp only
  have e1:∀ k,A147 (bare s).2 k=k (isD (bare s).2):=fun k=>if_pos (by omega)
  rw [e1]
  unfold good
  cases hd:isD (bare s).2 with
  | false=>rfl
  | true =>
   cases hz:(bare s).2 with
   | nil=>rw [hz] at hd;cases hd
   | cons c l =>
    simp only [cond_true,at0,oB,List.head?_cons,Bool.true_and]
    by_cases hc:c=48
    ·subst hc
     cases l with
     | nil=>cases (bare s).1<;>rfl
     | cons d l=>cases (bare s).1<;>rfl
    ·have e:((c.toNat:Int) != 48)=true:=by
      have:c.toNat ≠ 48:=fun h=>hc (UInt8.toNat_inj.1 (by rw [h];rfl))
      simp;omega
     have e2:(some c==some (48:UInt8))=false:=by simpa using hc
     rw [e,e2]
     rfl
 ·cases h
def A176:Ty176:=fun s K=>if s.length≤1099511627776 then K (good s) else none
theorem p2_176_ok (hC:∀ key e t,C key e t=t e) (kk:Nat) {s:B} (hs:s.length≤1099511627776) (K:Tk176):p2_176 C A174 kk s K=K (isD s&&!(s.head?==some 48)):=by
 have e1:∀ k,A174 s k=k (isD s):=fun k=>if_pos hs
 rw [p2_176_eq _ _ hC,e1]
 cases hd:isD s with
 | false=>rfl
 | true =>
  cases s with
  | nil=>cases hd
  | cons c l =>
   simp only [cond_true,at0,oB,List.head?_cons,Bool.true_and]
   by_cases hc:c=48
   ·subst hc;rfl
   ·have e:((c.toNat:Int) != 48)=true:=by
     have:c.toNat ≠ 48:=fun h=>hc (UInt8.toNat_inj.1 (by rw [h];rfl))
     simp;omega
    have e2:(some c==some (48:UInt8))=false:=by simpa using hc
    rw [e,e2]
    rfl
theorem eq176 (hC:∀ key e t,C key e t=t e) (s:B) (K:Tk176) (r:Out) (h:A176 s K=some r):run176 C A174 big s K=some r:=by
 unfold A176 at h
 split at h
 ·rename_i hs
  rw [← h,run176_eq]
  cases hz:s==([48]:B) with
  | true =>
   have:s=[48]:=eq_of_beq hz
   subst this
   rfl
  | false =>
   rw [cond_false]
   cases s with
   | nil =>
    rw [dF (by simp),cond_false,p1_176_eq _ _ hC,cond_false,p2_176_ok hC _ (by simp)]
    rfl
   | cons c l =>
    have hl:l.length≤1099511627776:=by simp at hs;omega
    rw [dT (by simp only [List.length_cons];omega),cond_true,at0,oB,p1_176_eq _ _ hC]
    unfold good
    by_cases hc:c=45
    ·subst hc
     have e:(((45:UInt8).toNat:Int)==45)=true:=rfl
     rw [e,cond_true,cut1,oB,p2_176_ok hC _ hl]
     have eb:bare (45 :: l)=(true,l):=rfl
     rw [eb]
     simp
    ·have e:((c.toNat:Int)==45)=false:=by
      have:c.toNat ≠ 45:=fun h=>hc (UInt8.toNat_inj.1 (by rw [h];rfl))
      simp;omega
     rw [e,cond_false,p2_176_ok hC _ hs,bare_no (by simpa using hc)]
     dsimp only
     rw [hz]
     simp
 ·cases h
def A145:Ty145:=fun c K=>if 0≤c∧c≤255 then K (hexV c 16) else none
theorem eq145 (hC:∀ key e t,C key e t=t e) (c:Int) (K:Tk145) (r:Out) (h:A145 c K=some r):run145 C big c K=some r:=by
 unfold A145 at h
 split at h
 ·rename_i hc
  rw [← h,run145_eq]
  simp only [p1_145_eq _ hC,p2_145_eq _ hC,p3_145_eq _ hC,hexV]
  by_cases a:48≤c<;>by_cases b:c≤57<;>by_cases d:97≤c<;>by_cases e:c≤102<;>by_cases f:65≤c<;>by_cases g:c≤70<;>simp [Bool.cond_eq_ite,a,b,d,e,f,g]<;>first | omega | (congr 1;rw [IntKind.wrap_i64,IntKind.wrap_u8];omega) | (congr 1;rw [IntKind.wrap_i64,IntKind.wrap_i64,IntKind.wrap_u8];omega)
 ·cases h
def A90:Ty90:=fun c K=>if 0≤c∧c≤255 then K (hexV c 99) else none
theorem eq90 (hC:∀ key e t,C key e t=t e) (c:Int) (K:Tk90) (r:Out) (h:A90 c K=some r):run90 C big c K=some r:=by
 unfold A90 at h
 split at h
 ·rename_i hc
  rw [← h,run90_eq]
  simp only [p1_90_eq _ hC,p2_90_eq _ hC,p3_90_eq _ hC,hexV]
  by_cases a:48≤c<;>by_cases b:c≤57<;>by_cases d:97≤c<;>by_cases e:c≤102<;>by_cases f:65≤c<;>by_cases g:c≤70<;>simp [Bool.cond_eq_ite,a,b,d,e,f,g]<;>first | omega | (congr 1;rw [IntKind.wrap_i64,IntKind.wrap_u8];omega) | (congr 1;rw [IntKind.wrap_i64,IntKind.wrap_i64,IntKind.wrap_u8];omega)
 ·cases h
end Go.Proofs.YtffmgholjdfcnaaGreatDoor
