import Derived.Test.YtffmgholjdfcnaaGreatDoorYSNuQ
import Derived.Test.YtffmgholjdfcnaaGreatDoorYSStT
import Derived.Test.YtffmgholjdfcnaaGreatDoorKSD
set_option linter.unusedSimpArgs false
set_option linter.unusedVariables false
namespace Go.Proofs.YtffmgholjdfcnaaGreatDoor
open Go AM St Nu
variable {C:Nat→Env→(Env→Option Out)→Option Out}
theorem ofT_form {t : B} (h : (ofT t).2 = true) : ∃ a b c d r, t = a :: b :: c :: d :: 45 :: r ∧ dg a = true ∧ dg b = true ∧ dg c = true ∧ dg d = true := by
  unfold ofT at h
  cases hp : parse t with
  | none => rw [hp] at h; cases h
  | some p =>
    unfold parse at hp
    cases hn : num 4 4 t with
    | none => rw [hn] at hp; cases hp
    | some q =>
      obtain ⟨y, s1⟩ := q
      rw [hn] at hp
      simp only at hp
      have hn' := hn
      unfold num at hn'
      cases hs : sg [45] s1 with
      | none => rw [hs] at hp; cases hp
      | some z =>
        have h45 : ∃ r, s1 = 45 :: r := by
          cases s1 with
          | nil => cases hs
          | cons x r =>
            have hx : (match ([45] : B).contains x with | true => some (x, r) | false => none) = some z := hs
            cases hc : ([45] : B).contains x with
            | false => rw [hc] at hx; cases hx
            | true => exact ⟨r, by have : x = 45 := by simpa using hc
                                   rw [this]⟩
        obtain ⟨r, rfl⟩ := h45
        clear hs hp hn h
        match t with
        | [] => cases hn'
        | [a] => cases ha : dg a <;> simp [digs, ha] at hn'
        | [a, b] => cases ha : dg a <;> cases hb : dg b <;> simp [digs, ha, hb] at hn'
        | [a, b, c] => cases ha : dg a <;> cases hb : dg b <;> cases hc : dg c <;> simp [digs, ha, hb, hc] at hn'
        | a :: b :: c :: d :: l =>
          cases ha : dg a <;> cases hb : dg b <;> cases hc : dg c <;> cases hd : dg d <;> simp [digs, ha, hb, hc, hd] at hn'
          exact ⟨a, b, c, d, r, by rw [hn'.2], ha, hb, hc, hd⟩
theorem fl11_good {s:B} (hs:s.length≤10000) (h:((fl11 s).2==0)=false):goodD (fl11 s).1=true:=by
 have hul:=unsign_len s
 have hok:=read11_ok (unsign s).1 (signed s) (unsign s).2
 rw [fl11_read] at h ⊢
 generalize read11 (unsign s).1 (signed s) (unsign s).2=f at hok h
 obtain ⟨k,fneg,w,fr,ex⟩:=f
 simp only at hok
 unfold toFl at h ⊢
 rcases hok with h0 | h0 | h0 | ⟨h0,h1,hf⟩
 ·subst h0;cases h
 ·subst h0;cases (unsign s).1<;>rfl
 ·subst h0;rfl
 ·obtain ⟨-,q2,q3,q4,q5,-⟩:=hf
  simp only at q2 q3 q4 q5
  have hwl:=noU_len w
  have hfl:=noU_len fr
  have hvl:=valueF_len (noU w)
  have hk:(k==0)=false∧(k==4)=false∧(k==5)=false:=by rcases h0 with rfl | rfl | rfl<;>exact ⟨rfl,rfl,rfl⟩
  have hm:(makeD (unsign s).1 (valueF (noU w)) (noU fr) ex).2=true:=by
   unfold makeD
   rw [q2,q3]
   simp only [Bool.and_self]
   cases dropZ (Lib.trimRightB (valueF (noU w)++noU fr) 48)<;>rfl
  simp only [hk.1,hk.2.1,hk.2.2]
  exact (makeD_good (by omega) hm).1
theorem odd_good {t:B} {neg sgn:Bool} {d:De} (h:odd t neg sgn=some d):goodD d=true:=by
 unfold odd at h
 cases h1:isInf t with
 | true=>rw [h1] at h;simp only at h;cases h;cases neg<;>rfl
 | false =>
  rw [h1] at h
  simp only at h
  cases h2:isNan t&&!sgn with
  | true=>rw [h2] at h;simp only at h;cases h;rfl
  | false=>rw [h2] at h;cases h
theorem afterD_good {neg:Bool} {w f t:B} (hl:w.length+f.length≤1000000) (h:(afterD neg w f t).2=true):goodD (afterD neg w f t).1=true:=by
 unfold afterD at h ⊢
 cases hte:tailE true t with
 | none=>rw [hte] at h;cases h
 | some exp=>rw [hte] at h;exact (makeD_good hl h).1
theorem fl12_good {s:B} (hs:s.length≤10000) (h:(fl12 s).2=true):goodD (fl12 s).1=true:=by
 have hul:=unsign_len s
 have htl:=tD_le (unsign s).2
 have hdl:=dD_le (unsign s).2
 rw [fl12_eq] at h ⊢
 cases ho:odd (unsign s).2 (unsign s).1 (signed s) with
 | some d=>exact odd_good ho
 | none =>
  rw [ho] at h
  simp only at h ⊢
  cases hi:int12 s with
  | cons a b=>rw [hi] at h;cases h
  | nil =>
   rw [hi] at h
   simp only at h ⊢
   cases hd:dD (unsign s).2 with
   | nil=>rw [hd] at h;exact (makeD_good (by simp;omega) h).1
   | cons c l =>
    rw [hd] at h hdl
    simp only [List.length_cons] at hdl
    have h1:=tD_le l
    simp only at h ⊢
    cases hc:c==46 with
    | true=>rw [hc] at h;exact afterD_good (by omega) h
    | false=>rw [hc] at h;exact afterD_good (by simp;omega) h
theorem plain_bool (b:Bool) (w:Int):plainV w (boolT b)=(tBool,boolT b):=by cases b<;>rfl
theorem value_len (s:B):(value s).length≤16 * s.length+15:=by
 have hpl:=parts_len s
 have hpe:=parts_eq s
 have htw:=tw_le 58 s
 unfold value
 cases hp:parts s with
 | nil=>exact Nat.zero_le _
 | cons p ps =>
  rw [hp] at hpl hpe
  injection hpe with hpe _
  rw [← hpe] at htw
  have h1:=foldM_len ps (norm false p)
  have h2:=norm_len false p
  simp only [List.length_cons] at hpl
  unfold foldM at h1
  simp only
  omega
theorem rowN_len (neg:Bool) (b f:Int) (l:B):(rowN neg b f l).1.length≤14 * l.length+2:=by
 unfold rowN
 cases rowB b l with
 | false=>exact Nat.zero_le _
 | true =>
  have h1:=norm_len neg (baseN (noU l) b)
  have h2:=baseN_len (noU l) b
  have h3:=noU_len l
  simp only
  omega
theorem int11_len (s:B):(int11 s).1.length≤16 * s.length+40:=by
 have hul:=unsign_len s
 unfold int11
 cases ht:(unsign s).2 with
 | nil=>exact Nat.zero_le _
 | cons c l =>
  rw [ht] at hul
  simp only [List.length_cons] at hul
  simp only
  cases c==48 with
  | true =>
   cases l with
   | nil=>simp
   | cons d l =>
    simp only [List.length_cons] at hul
    simp only
    cases d==98 with
    | true=>have:=rowN_len (unsign s).1 2 1 l;simp only;omega
    | false =>
     cases d==120 with
     | true=>have:=rowN_len (unsign s).1 16 2 l;simp only;omega
     | false=>have:=rowN_len (unsign s).1 8 3 (d :: l);simp only [List.length_cons] at this ⊢;omega
  | false =>
   have hn:=noU_len (c :: l)
   simp only [List.length_cons] at hn
   simp only
   cases dg c with
   | false=>exact Nat.zero_le _
   | true =>
    simp only
    cases tailU l with
    | nil=>have:=norm_len (unsign s).1 (noU (c :: l));simp only;omega
    | cons x l' =>
     simp only
     cases sixties (x :: l') with
     | false=>exact Nat.zero_le _
     | true =>
      have:=norm_len (unsign s).1 (value (noU (c :: l)))
      have:=value_len (noU (c :: l))
      simp only
      omega
theorem int12_len (s:B):(int12 s).length≤14 * s.length+2:=by
 have hul:=unsign_len s
 have hn:=norm_len (unsign s).1 (unsign s).2
 unfold int12
 split
 ·rename_i c d l
  have h8:=baseN_len l 8
  have h16:=baseN_len l 16
  simp only [List.length_cons] at hul ⊢
  cases c==48&&d==111 with
  | true=>simp only;omega
  | false =>
   cases c==48&&d==120 with
   | true=>simp only;omega
   | false=>simp only;omega
 ·omega
theorem fl11_len2 (s:B):DeLen (17 * s.length+60) (fl11 s).1:=by
 have hul:=unsign_len s
 have hok:=read11_ok (unsign s).1 (signed s) (unsign s).2
 rw [fl11_read]
 generalize read11 (unsign s).1 (signed s) (unsign s).2=f at hok
 obtain ⟨k,fneg,w,fr,ex⟩:=f
 simp only at hok
 unfold toFl
 rcases hok with h0 | h0 | h0 | ⟨h0,h1,hf⟩
 ·subst h0;exact ⟨Nat.zero_le _,Nat.zero_le _⟩
 ·subst h0;exact ⟨Nat.zero_le _,Nat.zero_le _⟩
 ·subst h0;exact ⟨Nat.zero_le _,Nat.zero_le _⟩
 ·obtain ⟨-,-,-,q4,q5,q6⟩:=hf
  simp only at q4 q5 q6
  have hwl:=noU_len w
  have hfl:=noU_len fr
  have hvl:=valueF_len (noU w)
  have hk:(k==0)=false∧(k==4)=false∧(k==5)=false:=by rcases h0 with rfl | rfl | rfl<;>exact ⟨rfl,rfl,rfl⟩
  have hm:=makeD_len (unsign s).1 (w:=valueF (noU w)) (f:=noU fr) (e:=ex)
  simp only [hk.1,hk.2.1,hk.2.2]
  exact ⟨by omega,by omega⟩
theorem fl12_len2 (s:B):DeLen (17 * s.length+60) (fl12 s).1:=by
 have hul:=unsign_len s
 have htl:=tD_le (unsign s).2
 have hdl:=dD_le (unsign s).2
 rw [fl12_eq]
 cases ho:odd (unsign s).2 (unsign s).1 (signed s) with
 | some d=>have:=odd_len ho;exact ⟨Nat.le_trans this.1 (Nat.zero_le _),Nat.le_trans this.2 (Nat.zero_le _)⟩
 | none =>
  simp only
  cases int12 s with
  | cons a b=>exact ⟨Nat.zero_le _,Nat.zero_le _⟩
  | nil =>
   simp only
   cases hd:dD (unsign s).2 with
   | nil =>
    have hm:=makeD_len (unsign s).1 (w:=tD (unsign s).2) (f:=[]) (e:=[48])
    simp only [List.length_cons,List.length_nil] at hm
    exact ⟨Nat.le_trans hm.1 (by omega),Nat.le_trans hm.2 (by omega)⟩
   | cons c l =>
    rw [hd] at hdl
    simp only [List.length_cons] at hdl
    have h1:=tD_le l
    have h2:=dD_le l
    simp only
    cases c==46 with
    | true =>
     have:=afterD_len (unsign s).1 (w:=tD (unsign s).2) (f:=tD l) (t:=dD l)
     exact ⟨Nat.le_trans this.1 (by omega),Nat.le_trans this.2 (by omega)⟩
    | false =>
     have:=afterD_len (unsign s).1 (w:=tD (unsign s).2) (f:=[]) (t:=c :: l)
     simp only [List.length_cons,List.length_nil] at this
     exact ⟨Nat.le_trans this.1 (by omega),Nat.le_trans this.2 (by omega)⟩
theorem printD_len (d:De):(printD d).length≤d.d.length+d.e.length+8:=by
 have hs:=sgB_len d.neg
 unfold printD
 split
 ·exact Nat.zero_le _
 ·split
  ·simp<;>omega
  ·split
   ·simp<;>omega
   ·split<;>(simp only [List.length_append,List.length_cons,List.length_nil];omega)
theorem plainV_len (v:Int) (s:B):(plainV v s).2.length≤40 * s.length+200:=by
 unfold plainV
 cases nulls.contains s with
 | true=>exact Nat.zero_le _
 | false =>
  cases (boolW v s).2 with
  | true =>
   have:∀ b,(boolT b).length≤5:=by intro b;cases b<;>decide
   have:=this (boolW v s).1
   simp only
   omega
  | false =>
   simp only
   cases hm:(numV v s).2 with
   | false=>simp only;omega
   | true =>
    simp only
    unfold numV at hm ⊢
    have hi:(intV v s).1.length≤16 * s.length+40:=by
     unfold intV
     cases v==11 with
     | true=>exact int11_len s
     | false=>have:=int12_len s;simp only;omega
    have hf:DeLen (17 * s.length+60) (flV v s).1:=by
     unfold flV
     cases v==11 with
     | true=>exact fl11_len2 s
     | false=>exact fl12_len2 s
    cases (intV v s).2 with
    | true=>simp only;omega
    | false =>
     simp only
     cases (flV v s).2 with
     | true =>
      have:=printD_len (flV v s).1
      have h1:=hf.1
      have h2:=hf.2
      simp only
      omega
     | false =>
      simp only
      have:=ofT_len s
      cases v==11&&(ofT s).2 with
      | true=>simp only;omega
      | false=>exact Nat.zero_le _
theorem A17_ok {v:Int} {s:B} (h:s.length≤10000) (K:Tk17):A17 v s K=K (plainV v s).1 (plainV v s).2:=if_pos h
def A19:Ty19:=fun b K=>K (if b then 11 else 12)
theorem eq19 (b:Bool) (K:Tk19):run19 C big b K=A19 b K:=by rw [run19_eq];cases b<;>rfl
end Go.Proofs.YtffmgholjdfcnaaGreatDoor
set_option linter.unusedSimpArgs false
set_option linter.unusedVariables false
namespace Go.Proofs.YtffmgholjdfcnaaGreatDoor
open Go AM St Nu
variable {C:Nat→Env→(Env→Option Out)→Option Out}
structure OwnT (t:B):Prop where
 d:t.all dg=true
 ne:t ≠ []
 g:good t=true
theorem dec_len {n:Nat} (h:n<10000000000000):(Lib.decDigits n).length≤13:=by
 rw [Lib.decDigits_length];exact nDig_le 12 n (by simpa using h)
end Go.Proofs.YtffmgholjdfcnaaGreatDoor
