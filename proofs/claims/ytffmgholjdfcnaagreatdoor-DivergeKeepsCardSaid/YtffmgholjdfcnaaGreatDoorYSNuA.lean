import Derived.Test.YtffmgholjdfcnaaGreatDoorYSStA
namespace Go.Proofs.YtffmgholjdfcnaaGreatDoor.Nu
open Go St
def isD (s:B):Bool:=!(s==[])&&s.all dg
def dropZ:B→B
 | []=>[]
 | c :: l=>match c==48 with | true=>dropZ l | false=>c :: l
def norm (neg:Bool) (s:B):B:=match isD s with
 | false=>[]
 | true=>match dropZ s with
  | []=>[48]
  | c :: l=>match neg with | true=>45 :: c :: l | false=>c :: l
def mulStep (m:Int) (c:UInt8) (p:B × Int):B × Int:=(dc ((p.2+dv c * m) % 10) :: p.1,(p.2+dv c * m) / 10)
def mulR (m k:Int) (d:B):B × Int:=d.foldr (mulStep m) ([],k)
def mulAdd (d:B) (m k:Int):B:=norm false (Lib.itoa (mulR m k d).2++(mulR m k d).1)
def bare (a:B):Bool × B:=match a with
 | []=>(false,[])
 | c :: l=>match c==45 with | true=>(true,l) | false=>(false,c :: l)
theorem bare_no {c:UInt8} {l:B} (h:(c==45)=false):bare (c :: l)=(false,c :: l):=by
 show (match c==45 with | true=>(true,l) | false=>(false,c :: l))=_
 rw [h]
def good (a:B):Bool:=isD (bare a).2&&(!((bare a).2.head?==some 48) || ((bare a).2==[48]&&!(bare a).1))
theorem dropZ_len:∀ l,(dropZ l).length≤l.length
 | []=>Nat.le_refl _
 | c :: l=>by
  unfold dropZ
  split
  ·have:=dropZ_len l;simp only [List.length_cons];omega
  ·exact Nat.le_refl _
theorem dropZ_head:∀ l c t,dropZ l=c :: t→c ≠ 48
 | [],_,_,h=>by cases h
 | a :: l,c,t,h=>by
  unfold dropZ at h
  split at h
  ·exact dropZ_head l c t h
  ·rename_i ha
   cases h
   simpa using ha
theorem dropZ_id {c:UInt8} {l:B} (h:c ≠ 48):dropZ (c :: l)=c :: l:=by
 unfold dropZ
 rw [show (c==48)=false by simpa using h]
theorem dropZ_all:∀ l,l.all dg=true→(dropZ l).all dg=true
 | [],_=>rfl
 | c :: l,h=>by
  unfold dropZ
  split
  ·rw [List.all_cons,Bool.and_eq_true] at h;exact dropZ_all l h.2
  ·exact h
theorem isD_all {s:B} (h:isD s=true):s.all dg=true∧s ≠ []:=by
 unfold isD at h
 rw [Bool.and_eq_true] at h
 exact ⟨h.2,by simpa using h.1⟩
theorem isD_of {s:B} (h:s.all dg=true) (hn:s ≠ []):isD s=true:=by
 unfold isD
 rw [Bool.and_eq_true]
 exact ⟨by simpa using hn,h⟩
theorem norm_zero {neg:Bool} {s:B} (h:s ≠ []):norm neg (48 :: s)=norm neg s:=by
 have h1:isD (48 :: s)=isD s:=by
  unfold isD
  have:(s==[])=false:=by simpa using h
  rw [this,List.all_cons]
  rfl
 unfold norm
 rw [h1]
 rfl
theorem norm_len (neg:Bool) (s:B):(norm neg s).length≤s.length+1:=by
 unfold norm
 split
 ·simp
 ·have:=dropZ_len s
  split
  ·simp
  ·rename_i c l hc
   rw [hc] at this
   split<;>simp at this ⊢<;>omega
theorem norm_good (neg:Bool) (s:B) (h:isD s=true):good (norm neg s)=true:=by
 obtain ⟨h1,h2⟩:=isD_all h
 unfold norm
 rw [h]
 dsimp only
 cases hz:dropZ s with
 | nil=>rfl
 | cons c l =>
  have hc:=dropZ_head s c l hz
  have ha:(c :: l).all dg=true:=by rw [← hz];exact dropZ_all s h1
  have hd:isD (c :: l)=true:=isD_of ha (by simp)
  have h48:(some c==some (48:UInt8))=false:=by simpa using hc
  cases neg with
  | true =>
   show good (45 :: c :: l)=true
   unfold good
   have:bare (45 :: c :: l)=(true,c :: l):=rfl
   rw [this]
   simp [hd,hc]
  | false =>
   have h45:(c==45)=false:=by
    rw [List.all_cons,Bool.and_eq_true] at ha
    have:=ha.1
    unfold dg at this
    simp at this ⊢
    rintro rfl
    simp at this
   show good (c :: l)=true
   unfold good
   have:bare (c :: l)=(false,c :: l):=bare_no h45
   rw [this]
   simp [hd,hc]
theorem good_cases {a:B} (h:good a=true):a=[48]∨(∃ c l,a=c :: l∧c ≠ 48∧c ≠ 45∧(c :: l).all dg=true)∨∃ c l,a=45 :: c :: l∧c ≠ 48∧(c :: l).all dg=true:=by
 unfold good at h
 rw [Bool.and_eq_true] at h
 obtain ⟨h1,h2⟩:=h
 cases a with
 | nil=>simp [bare,isD] at h1
 | cons c l =>
  by_cases hc:c=45
  ·subst hc
   have e:bare (45 :: l)=(true,l):=rfl
   rw [e] at h1 h2
   obtain ⟨k1,k2⟩:=isD_all h1
   cases l with
   | nil=>exact absurd rfl k2
   | cons d t =>
    refine .inr (.inr ⟨d,t,rfl,?_,k1⟩)
    simpa using h2
  ·have e:bare (c :: l)=(false,c :: l):=bare_no (by simpa using hc)
   rw [e] at h1 h2
   obtain ⟨k1,k2⟩:=isD_all h1
   by_cases h48:c=48
   ·subst h48
    left
    simpa using h2
   ·exact .inr (.inl ⟨c,l,rfl,h48,hc,k1⟩)
end Go.Proofs.YtffmgholjdfcnaaGreatDoor.Nu
