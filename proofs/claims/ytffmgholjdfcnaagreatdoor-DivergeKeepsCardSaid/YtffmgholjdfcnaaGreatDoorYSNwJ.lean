import Derived.Test.YtffmgholjdfcnaaGreatDoorYSNwA
import Derived.Test.YtffmgholjdfcnaaGreatDoorYSNwC
set_option linter.unusedSimpArgs false
set_option linter.unusedVariables false
namespace Go.Proofs.YtffmgholjdfcnaaGreatDoor
open Go AM St Nu
theorem time_no12 {t:B} (h:(ofT t).2=true):(boolW 12 t).2=false∧(intV 12 t).2=false∧(flV 12 t).2=false:=by
 obtain ⟨a,b,c,d,r,e,ha,hb,hc,hd⟩:=ofT_form h
 have hu:unsign t=(false,t):=by rw [e];exact unsign_dg ha _
 have h2:boolW 12 t=(false,false):=by rw [e];exact noWord (dg_lt ha) _ 12
 have hD:isD t=false:=by
  unfold isD
  have:t.all dg=false:=by
   rw [e]
   have:dg 45=false:=by decide
   simp only [List.all_cons,this,Bool.false_and,Bool.and_false]
  rw [this,Bool.and_false]
 have hi:int12 t=[]:=by
  have hn:norm (unsign t).1 (unsign t).2=[]:=by
   rw [hu]
   unfold norm
   simp only [hD]
  rw [e] at hn ⊢
  unfold int12
  have b1:=dg_not hb (x:=111) (by decide)
  have b2:=dg_not hb (x:=120) (by decide)
  simp only [b1,b2,Bool.and_false]
  exact hn
 have ho:odd (unsign t).2 (unsign t).1 (signed t)=none:=by
  rw [hu,e]
  exact odd_dg (fun h=>by rw [h] at ha;exact absurd ha (by decide)) _ _ _
 have hf:(fl12 t).2=false:=by
  unfold fl12
  rw [ho,hi,hu]
  simp only
  have hdw:t.dropWhile dg=45 :: r:=by
   have h45:dg 45=false:=by decide
   rw [e]
   simp only [List.dropWhile_cons,ha,hb,hc,hd,h45,if_true]
   rfl
  rw [hdw]
  rfl
 refine ⟨by rw [h2],?_,?_⟩
 ·show (!(int12 t==[]))=false
  rw [hi];rfl
 ·show (fl12 t).2=false
  exact hf
theorem time12 {t:B} (h:(ofT t).2=true):plainV 12 t=(tStr,t):=by
 obtain ⟨h1,h2,h3⟩:=time_no12 h
 exact plain_isStr (time_no h).1 h1 h2 h3 rfl
theorem num_len {a m:Nat} {s l:B} {n:Int} (h:num a m s=some (n,l)):l.length+a≤s.length:=by
 obtain ⟨h1,-,h3⟩:=num_some h
 have h4:=digs_len m 0 s
 rw [h3] at h4
 have h5:¬ (((digs m 0 s).2.2:Int)<(a:Int)):=of_decide_eq_false h1
 omega
theorem sg_len {of s l:B} {c:UInt8} (h:sg of s=some (c,l)):l.length+1≤s.length:=by
 rw [(sg_mem h).2];simp
theorem ofT_len10 {t:B} (h:(ofT t).2=true):10≤t.length:=by
 unfold ofT at h
 cases hp:parse t with
 | none=>rw [hp] at h;cases h
 | some p =>
  clear h
  unfold parse at hp
  cases h1:num 4 4 t with
  | none=>rw [h1] at hp;cases hp
  | some q1 =>
   obtain ⟨y,s1⟩:=q1
   rw [h1] at hp
   simp only at hp
   cases h2:sg [45] s1 with
   | none=>rw [h2] at hp;cases hp
   | some q2 =>
    obtain ⟨c2,s2⟩:=q2
    rw [h2] at hp
    simp only at hp
    cases h3:num 1 2 s2 with
    | none=>rw [h3] at hp;cases hp
    | some q3 =>
     obtain ⟨mo,s3⟩:=q3
     rw [h3] at hp
     simp only at hp
     cases h4:sg [45] s3 with
     | none=>rw [h4] at hp;cases hp
     | some q4 =>
      obtain ⟨c4,s4⟩:=q4
      rw [h4] at hp
      simp only at hp
      cases h5:num 1 2 s4 with
      | none=>rw [h5] at hp;cases hp
      | some q5 =>
       obtain ⟨d,s5⟩:=q5
       rw [h5] at hp
       simp only at hp
       have l1:=num_len h1
       have l2:=sg_len h2
       have l3:=num_len h3
       have l4:=sg_len h4
       have l5:=num_len h5
       cases hs5:s5 with
       | nil =>
        rw [hs5] at hp
        simp only at hp
        cases hd:decide (s2.length=5) with
        | false=>rw [hd] at hp;cases hp
        | true =>
         have:=of_decide_eq_true hd
         omega
       | cons c l =>
        rw [hs5] at hp
        simp only at hp
        cases hg:gap (c :: l) with
        | none=>rw [hg] at hp;cases hp
        | some s6 =>
         rw [hg] at hp
         simp only at hp
         have l6:s6.length+1≤(c :: l).length:=by
          unfold gap at hg
          cases hsg:sg [84,116] (c :: l) with
          | some q =>
           obtain ⟨c',l'⟩:=q
           rw [hsg] at hg
           simp only at hg
           injection hg with hg
           have:=sg_len hsg
           rw [← hg];exact this
          | none =>
           rw [hsg] at hg
           simp only at hg
           cases hd:decide ((behind [32,9] (c :: l)).length=(c :: l).length) with
           | true=>rw [hd] at hg;cases hg
           | false =>
            rw [hd] at hg
            simp only at hg
            injection hg with hg
            have h7:=of_decide_eq_false hd
            have h8:=behind_len [32,9] (c :: l)
            rw [← hg];omega
         have l7:1≤s6.length:=by
          cases hc:clock s6 with
          | none=>rw [hc] at hp;cases hp
          | some q =>
           unfold clock at hc
           cases hn:num 1 2 s6 with
           | none=>rw [hn] at hc;cases hc
           | some q' =>
            obtain ⟨hh,s7⟩:=q'
            have:=num_len hn
            omega
         rw [hs5] at l5
         omega
end Go.Proofs.YtffmgholjdfcnaaGreatDoor
set_option linter.unusedSimpArgs false
set_option linter.unusedVariables false
namespace Go.Proofs.YtffmgholjdfcnaaGreatDoor
open Go AM St Nu
theorem mulR_small {m k:Int} (hm:0<m) (hk:0≤k∧k<m):∀ d:B,d.all dg=true→0≤(mulR m k d).2∧(mulR m k d).2<m
 | [],_=>hk
 | c :: l,h=>by
  rw [List.all_cons,Bool.and_eq_true] at h
  have ih:=mulR_small hm hk l h.2
  have hd:=dv_bd h.1
  rw [mulR_cons]
  have h1:dv c * m≤9 * m:=Int.mul_le_mul_of_nonneg_right hd.2 (by omega)
  have h0:0≤dv c * m:=Int.mul_nonneg hd.1 (by omega)
  unfold mulStep
  simp only
  omega
theorem itoa_small {n:Int} (h0:0≤n) (h1:n<100):(Lib.itoa n).length≤2:=by
 unfold Lib.itoa
 rw [if_neg (by omega),Lib.decDigits_length]
 exact nDig_le 1 _ (by omega)
theorem norm_len1 (s:B):(norm false s).length≤s.length:=by
 unfold norm
 split
 ·simp
 ·rename_i hD
  have:=dropZ_len s
  split
  ·have h1:s ≠ []:=by intro e;rw [e] at hD;cases hD
   cases s with
   | nil=>exact absurd rfl h1
   | cons a b=>simp
  ·rename_i c l e
   rw [e] at this
   exact this
theorem mulAdd_len2 {d:B} {m k:Int} (h:isD d=true) (hm:0<m∧m≤60) (hk:0≤k∧k<m):(mulAdd d m k).length≤d.length+2:=by
 have hb:=mulR_small hm.1 hk d (isD_all h).1
 have h1:=norm_len1 (Lib.itoa (mulR m k d).2++(mulR m k d).1)
 have h2:=itoa_small hb.1 (by omega)
 rw [List.length_append,mulR_len] at h1
 unfold mulAdd
 omega
theorem baseGo_len2 {b:Int} (hb:b=2∨b=8∨b=16):∀ (l acc:B),isD acc=true→(baseGo b acc l).length≤acc.length+2 * l.length
 | [],acc,_=>by unfold baseGo;simp
 | c :: l,acc,h=>by
  have hn:=hexD_nn c
  unfold baseGo
  cases hc:decide (hexD c ≥ b) with
  | true=>simp
  | false =>
   have hlt:hexD c<b:=by
    have:=of_decide_eq_false hc
    omega
   simp only
   obtain ⟨g1,-⟩:=mulAdd_isD h (m:=b) (k:=hexD c) (by omega) (by omega)
   have h1:=mulAdd_len2 h (m:=b) (k:=hexD c) (by omega) ⟨by omega,hlt⟩
   have h2:=baseGo_len2 hb l _ g1
   simp only [List.length_cons]
   omega
theorem baseN_len2 (l:B) (b:Int):(baseN l b).length≤2 * l.length+1:=by
 unfold baseN
 split
 ·rename_i hc
  simp only [Bool.and_eq_true,Bool.or_eq_true,beq_iff_eq] at hc
  have:=baseGo_len2 (b:=b) (by omega) l [48] rfl
  simp only [List.length_cons,List.length_nil] at this
  omega
 ·simp
theorem rowN_len2 (neg:Bool) (b f:Int) (l:B):(rowN neg b f l).1.length≤2 * l.length+2:=by
 unfold rowN
 cases rowB b l with
 | false=>simp
 | true =>
  have h1:=norm_len neg (baseN (noU l) b)
  have h2:=baseN_len2 (noU l) b
  have h3:=noU_len l
  simp only
  omega
end Go.Proofs.YtffmgholjdfcnaaGreatDoor
set_option linter.unusedSimpArgs false
set_option linter.unusedVariables false
namespace Go.Proofs.YtffmgholjdfcnaaGreatDoor
open Go AM St Nu
theorem val_60 {p:B} (h:okP p=true):0≤val p∧val p<60:=by
 unfold okP at h
 split at h
 ·rename_i a
  have:=dv_bd h
  unfold val
  simp only [List.foldl_cons,List.foldl_nil]
  omega
 ·rename_i a b
  simp only [Bool.and_eq_true,decide_eq_true_eq] at h
  have h1:=dv_bd h.1.1
  have h2:=dv_bd h.2
  have h3:dv a≤5:=by
   have:=h.1.2
   unfold dv
   omega
  unfold val
  simp only [List.foldl_cons,List.foldl_nil]
  omega
 ·cases h
theorem mulAddG_len2 (a:B) {k:Int} (hk:0≤k∧k<60):(mulAddG a 60 k).length≤a.length+2:=by
 unfold mulAddG
 split
 ·rename_i h
  simp only [Bool.and_eq_true,Bool.not_eq_true'] at h
  exact mulAdd_len2 (good_D h.1.1.1 h.1.1.2).1 (by decide) hk
 ·exact Nat.zero_le _
theorem foldM_len2:∀ (ps:List B) (n:B),ps.all okP=true→(foldM n ps).length≤n.length+2 * ps.length
 | [],n,_=>Nat.le_refl _
 | p :: ps,n,h=>by
  rw [List.all_cons,Bool.and_eq_true] at h
  have h1:=mulAddG_len2 n (val_60 h.1)
  have h2:=foldM_len2 ps (mulAddG n 60 (val p)) h.2
  have:foldM n (p :: ps)=foldM (mulAddG n 60 (val p)) ps:=rfl
  rw [this]
  simp only [List.length_cons]
  omega
theorem value_len2 {c:UInt8} {l:B} (h:dg c=true) (hs:sixties (tailU l)=true):(value (noU (c :: l))).length≤3 * l.length+3:=by
 have h58:=dg_58 h
 rw [value_eq,tw_miss h58,dw_miss h58]
 have htw:=tw_le 58 l
 have hdw:=dw_le 58 l
 have hn:=noU_len (c :: tw 58 l)
 have hz:=norm_len1 (noU (c :: tw 58 l))
 simp only [List.length_cons] at hn
 rcases tailU_dw l with ⟨h1,h2⟩ | ⟨h1,x,t,h2,h3⟩
 ·rw [h2] at hs
  rcases dw_cases 58 l with e | ⟨t,e⟩
  ·rw [e];simp only;omega
  ·rw [e] at hs hdw ⊢
   rw [sixties_one] at hs
   simp only
   rw [map_noU hs]
   have hp:=parts_len t
   have:=foldM_len2 (parts t) (norm false (noU (c :: tw 58 l))) hs
   unfold foldM at this
   simp only [List.length_cons] at hdw
   omega
 ·rw [h2,sixties_no h3] at hs;cases hs
theorem int11_len2 (s:B) (hne:s ≠ []):(int11 s).1.length≤8 * s.length:=by
 have hul:=unsign_len s
 have hpos:1≤s.length:=by cases s with | nil=>exact absurd rfl hne | cons a b=>simp
 unfold int11
 cases ht:(unsign s).2 with
 | nil=>exact Nat.zero_le _
 | cons c l =>
  rw [ht] at hul
  simp only [List.length_cons] at hul
  simp only
  cases c==48 with
  | true =>
   cases l with
   | nil=>simp;omega
   | cons d l =>
    simp only [List.length_cons] at hul
    simp only
    cases d==98 with
    | true=>have:=rowN_len2 (unsign s).1 2 1 l;simp only;omega
    | false =>
     cases d==120 with
     | true=>have:=rowN_len2 (unsign s).1 16 2 l;simp only;omega
     | false=>have:=rowN_len2 (unsign s).1 8 3 (d :: l);simp only [List.length_cons] at this ⊢;omega
  | false =>
   have hn:=noU_len (c :: l)
   simp only [List.length_cons] at hn
   simp only
   cases hd:dg c with
   | false=>exact Nat.zero_le _
   | true =>
    simp only
    cases htl:tailU l with
    | nil=>have:=norm_len (unsign s).1 (noU (c :: l));simp only;omega
    | cons x l' =>
     simp only
     cases hs:sixties (x :: l') with
     | false=>exact Nat.zero_le _
     | true =>
      have:=norm_len (unsign s).1 (value (noU (c :: l)))
      have:=value_len2 (l:=l) hd (by rw [htl];exact hs)
      simp only
      omega
theorem mulR_1000 {k:Int} (hk:0≤k∧k<1000):∀ d:B,d.all dg=true→0≤(mulR 1 k d).2∧(mulR 1 k d).2<1000
 | [],_=>hk
 | c :: l,h=>by
  rw [List.all_cons,Bool.and_eq_true] at h
  have ih:=mulR_1000 hk l h.2
  have hd:=dv_bd h.1
  rw [mulR_cons]
  unfold mulStep
  simp only
  omega
theorem itoa_1000 {n:Int} (h0:0≤n) (h1:n<1000):(Lib.itoa n).length≤3:=by
 unfold Lib.itoa
 rw [if_neg (by omega),Lib.decDigits_length]
 exact nDig_le 2 _ (by omega)
theorem addN_len2 (e:B) {n:Int} (hn:-1000<n∧n<1000):(addN e n).length≤e.length+4:=by
 unfold addN
 split
 ·exact Nat.zero_le _
 ·rename_i hg
  simp only [Bool.and_eq_true,decide_eq_true_eq] at hg
  obtain ⟨⟨hg1,hg2⟩,hg3⟩:=hg
  obtain ⟨hd,hdl,-⟩:=good_parts hg1
  have hm:-1000<negIf (bare e).1 n∧negIf (bare e).1 n<1000:=by
   unfold negIf
   cases (bare e).1<;>exact ⟨by simp only;omega,by simp only;omega⟩
  generalize negIf (bare e).1 n=m at hm
  have hbl:=bare_len e
  unfold addS
  by_cases h0:0≤m
  ·have hb:=mulR_1000 (k:=m) ⟨h0,hm.2⟩ (bare e).2 (isD_all hd).1
   have h1:=norm_len1 (Lib.itoa (mulR 1 m (bare e).2).2++(mulR 1 m (bare e).2).1)
   have h2:=itoa_1000 hb.1 hb.2
   rw [List.length_append,mulR_len] at h1
   have h3:=norm_len (bare e).1 (mulAdd (bare e).2 1 m)
   rw [dT h0]
   simp only
   unfold mulAdd at h3 ⊢
   omega
  ·have hil:=itoa_1000 (n:=-m) (by omega) (by omega)
   rw [dF h0]
   simp only
   split
   ·have:=norm_len (!(bare e).1) (lessD (Lib.itoa (-m)) (bare e).2)
    have:=lessD_len (a:=Lib.itoa (-m)) (b:=(bare e).2)
    omega
   ·have:=norm_len (bare e).1 (lessD (bare e).2 (Lib.itoa (-m)))
    have:=lessD_len (a:=(bare e).2) (b:=Lib.itoa (-m))
    omega
theorem makeD_len2 (neg:Bool) {w f e:B} (hl:w.length+f.length<1000):(makeD neg w f e).1.d.length≤w.length+f.length+1∧(makeD neg w f e).1.e.length≤e.length+4:=by
 unfold makeD
 cases isD (w++f)&&good e with
 | false=>exact ⟨Nat.zero_le _,Nat.zero_le _⟩
 | true =>
  have h1:=dropZ_len (Lib.trimRightB (w++f) 48)
  have h2:=trimR_len (w++f)
  have h3:(w++f).length=w.length+f.length:=List.length_append
  rw [h3] at h2
  simp only
  cases hz:dropZ (Lib.trimRightB (w++f) 48) with
  | nil=>exact ⟨by simp,by simp⟩
  | cons c l =>
   rw [hz] at h1
   refine ⟨by simp only at h1 ⊢;omega,?_⟩
   exact addN_len2 e ⟨by rw [h3];omega,by rw [h3];omega⟩
theorem printD_len2 (d:De) (h:d.kind=0):(printD d).length≤d.d.length+d.e.length+4:=by
 have hs:=sgB_len d.neg
 unfold printD
 split
 ·exact Nat.zero_le _
 ·rw [h]
  split
  ·rename_i hk;exact absurd hk (by decide)
  ·split
   ·rename_i hk;exact absurd hk (by decide)
   ·split<;>(simp only [List.length_append,List.length_cons,List.length_nil];omega)
theorem printD_odd (d:De) (h:d.kind=1∨d.kind=2):(printD d).length≤5:=by
 have hs:=sgB_len d.neg
 unfold printD
 split
 ·exact Nat.zero_le _
 ·rcases h with h | h<;>rw [h]
  ·simp
   omega
  ·simp
theorem tailE_len {l:Bool} {t e:B} (h:tailE l t=some e):e.length≤t.length+1:=by
 unfold tailE at h
 cases t with
 | nil=>simp only at h;cases h;simp
 | cons c r =>
  simp only at h
  cases hc:c==101 || c==69 with
  | false=>rw [hc] at h;cases h
  | true =>
   rw [hc] at h
   simp only at h
   split at h
   ·injection h with h
    have h1:=norm_len (unsign r).1 (unsign r).2
    have h2:=unsign_len r
    rw [← h]
    simp only [List.length_cons]
    omega
   ·cases h
theorem odd_kind {t:B} {neg sgn:Bool} {d:De} (h:odd t neg sgn=some d):d.kind=1∨d.kind=2:=by
 unfold odd at h
 cases h1:isInf t with
 | true=>rw [h1] at h;simp only at h;cases h;exact .inl rfl
 | false =>
  rw [h1] at h
  simp only at h
  cases h2:isNan t&&!sgn with
  | true=>rw [h2] at h;simp only at h;cases h;exact .inr rfl
  | false=>rw [h2] at h;cases h
theorem noDe_len:(printD noDe).length=0:=by decide +kernel
theorem makeD_kind (neg:Bool) (w f e:B):(makeD neg w f e).1.kind=0:=by
 unfold makeD
 split
 ·rfl
 ·split<;>rfl
theorem fl1 (c:UInt8):((fl11 [c]).2==0)=true:=allU8 (P:=fun c=>((fl11 [c]).2==0)=true) (by decide +kernel) c
theorem row_split (s:B):(s.takeWhile dgU).length+(tailU s).length=s.length:=by
 have:=congrArg List.length (List.takeWhile_append_dropWhile (p:=dgU) (l:=s))
 rw [List.length_append] at this
 exact this
theorem fl11_len3 {s:B} (hs:s.length≤100) (h:((fl11 s).2==0)=false):(printD (fl11 s).1).length≤8 * s.length:=by
 have h2:2≤s.length:=by
  cases s with
  | nil=>exact absurd h (by decide)
  | cons a t =>
   cases t with
   | nil=>rw [fl1] at h;cases h
   | cons b t=>simp
 have hul:=unsign_len s
 have key:∀ (w f e:B),w.length+f.length+e.length+9≤8 * s.length→w.length+f.length<1000→(printD (makeD (unsign s).1 w f e).1).length≤8 * s.length:=by
  intro w f e h1 h2
  have h3:=printD_len2 _ (makeD_kind (unsign s).1 w f e)
  have h4:=makeD_len2 (unsign s).1 (w:=w) (f:=f) (e:=e) h2
  omega
 have k0:(printD noDe).length≤8 * s.length:=by rw [noDe_len];exact Nat.zero_le _
 unfold fl11
 cases ho:odd (unsign s).2 (unsign s).1 (signed s) with
 | some d =>
  have:=printD_odd d (odd_kind ho)
  simp only
  omega
 | none =>
  simp only
  have htd:=congrArg List.length (tw_dw 46 (unsign s).2)
  rw [List.length_append] at htd
  cases hd:dw 46 (unsign s).2 with
  | nil=>exact k0
  | cons p rest =>
   rw [hd] at htd
   simp only [List.length_cons] at htd
   simp only
   cases ht:tailE false (tailU rest) with
   | none=>exact k0
   | some exp =>
    have hel:=tailE_len ht
    have hrs:=row_split rest
    have hnf:=noU_len (rest.takeWhile dgU)
    simp only
    cases hw:tw 46 (unsign s).2 with
    | nil =>
     simp only
     cases hn:noU (rest.takeWhile dgU) with
     | nil=>exact k0
     | cons f fs =>
      rw [hn] at hnf
      refine key _ _ _ ?_ ?_
      ·simp only [List.length_nil];omega
      ·simp only [List.length_nil];omega
    | cons c w =>
     rw [hw] at htd
     simp only [List.length_cons] at htd
     have hnw:=noU_len (c :: w)
     simp only [List.length_cons] at hnw
     simp only
     cases hc:dg c&&sixties (tailU w) with
     | false=>exact k0
     | true =>
      rw [Bool.and_eq_true] at hc
      simp only
      cases htw:tailU w with
      | nil =>
       refine key _ _ _ ?_ ?_<;>omega
      | cons x y =>
       simp only
       cases htr:tailU rest with
       | cons a b=>exact k0
       | nil =>
        have hv:=value_len2 hc.1 hc.2
        rw [valueF_sixty hc.1 (by rw [htw];simp) hc.2]
        refine key _ _ _ ?_ ?_<;>omega
theorem respell_len {s:B} (hs:s.length≤100) (ht:(plainV 11 s).1 ≠ tTime):(plainV 11 s).2.length≤8 * s.length:=by
 have hne:nulls.contains s=false→s ≠ []:=fun h e=>by rw [e] at h;exact absurd h (by decide)
 cases kind_of 11 s with
 | str e=>rw [e];simp only;omega
 | null e=>rw [e];exact Nat.zero_le _
 | bool e h0 =>
  rw [e]
  have:=hne h0
  have hpos:1≤s.length:=by cases s with | nil=>exact absurd rfl this | cons a b=>simp
  have:(boolT (boolW 11 s).1).length≤5:=by cases (boolW 11 s).1<;>decide
  simp only
  omega
 | int e h0=>rw [e];exact int11_len2 s (hne h0)
 | float e h0 h1 h2 h3 =>
  rw [e]
  have h4:(flV 11 s).2=(!((fl11 s).2==0)):=rfl
  rw [h4,Bool.not_eq_true'] at h3
  exact fl11_len3 hs h3
 | time e=>rw [e] at ht;exact absurd rfl ht
end Go.Proofs.YtffmgholjdfcnaaGreatDoor
set_option linter.unusedSimpArgs false
set_option linter.unusedVariables false
namespace Go.Proofs.YtffmgholjdfcnaaGreatDoor
open Go AM St Nu
open Go.IntKind (i64 u8)
variable {C:Nat→Env→(Env→Option Out)→Option Out}
theorem why_cases {x:B} (hx:x.length≤100) :
  (decideV true [] x=((0,[]),true)∧plainV 11 x=plainV 12 x) ∨
  (decideV true [] x=((1,quoteT x),true)∧plainV 11 x=(tStr,x)∧∃ y,plainV 12 x=(tInt,y)∨plainV 12 x=(tFloat,y)) ∨
  (decideV true [] x=((2,tagT),true)∧(∃ y,plainV 11 x=(tTime,y))∧plainV 12 x=(tStr,x)∧10≤x.length) ∨
  (∃ a b,decideV true [] x=((3,b),true)∧plainV 11 x=(a,b)∧(a=tBool∨a=tInt∨a=tFloat)∧(plainV 11 x==plainV 12 x)=false∧b.length≤8 * x.length):=by
 have e1:∀ v,buildV v [] x true=(plainV v x,true):=fun v=>rfl
 have hd:decideV true [] x=(bif plainV 11 x==plainV 12 x then ((0,[]),true) else (bareV (plainV 11 x).1 (plainV 11 x).2 x,true)):=by
  unfold decideV
  rw [e1 11,e1 12]
  rfl
 cases hp:plainV 11 x==plainV 12 x with
 | true =>
  rw [hp] at hd
  exact .inl ⟨hd,eq_of_beq hp⟩
 | false =>
  rw [hp] at hd
  have hne:plainV 11 x ≠ plainV 12 x:=by intro e;rw [e] at hp;simp at hp
  rw [cond_false] at hd
  rcases bare_case hne with ⟨e,he⟩ | e | e
  ·refine .inr (.inl ⟨by rw [hd,e];rfl,e,(plainV 12 x).2,?_⟩)
   rcases (quote_easy e (fun e2=>hne (by rw [e,e2]))).2 with h | h
   ·exact .inl (Prod.ext h rfl)
   ·exact .inr (Prod.ext h rfl)
  ·cases kind_of 11 x with
   | str e2=>rw [e2] at e;simp only at e;exact absurd e (by decide)
   | null e2=>rw [e2] at e;simp only at e;exact absurd e (by decide)
   | bool e2=>rw [e2] at e;simp only at e;exact absurd e (by decide)
   | int e2=>rw [e2] at e;simp only at e;exact absurd e (by decide)
   | float e2=>rw [e2] at e;simp only at e;exact absurd e (by decide)
   | time e2 h0 h1 h2 h3 h4 h5 =>
    exact .inr (.inr (.inl ⟨by rw [hd,e2];rfl,⟨_,e2⟩,time12 h5,ofT_len10 h5⟩))
  ·have hl:=respell_len hx (by rcases e with e | e | e<;>rw [e]<;>decide)
   refine .inr (.inr (.inr ⟨(plainV 11 x).1,(plainV 11 x).2,?_,rfl,e,rfl,hl⟩))
   rw [hd]
   unfold bareV
   rcases e with e | e | e<;>rw [e]<;>rfl
def A13:Ty13:=fun s seed K=>if (∀ x,x ∈ seed→0≤x∧x≤255) then K true else none
theorem step13 (hC:∀ key e t,C key e t=t e) (kk j:Nat) {i i':Int} {X:List B} {x:B} {K:Tk13} (hx:x.length≤100) (hX:X.length=2) (hi:0≤i∧i<2) (hw:X[i.toNat]?=some x) (hi':i'=i+1) :
  l2_13 C A17 A29 A31 A32 kk (j+1) X 2 i K=l2_13 C A17 A29 A31 A32 kk j X 2 i' K:=by
 subst hi'
 have hb:(decide (0≤i)&&decide (i<(X.length:Int)))=true:=by rw [hX,dT hi.1,dT (show i<((2:Nat):Int) by omega)];rfl
 have e17:∀ v k,A17 v x k=k (plainV v x).1 (plainV v x).2:=fun v k=>A17_ok (by omega) k
 have e32:∀ k,A32 true [] x k=k (decideV true [] x).1.1 (decideV true [] x).1.2 (decideV true [] x).2:=fun k=>A32_ok (by omega) (by simp) k
 have ew:i64.wrap (i+1)=i+1:=i64_in (by omega) (by omega)
 have e8:i64.wrap ((8:Int) * (x.length:Int))=8 * (x.length:Int):=i64_in (by omega) (by omega)
 have e2:i64.wrap ((x.length:Int)+2)=(x.length:Int)+2:=i64_in (by omega) (by omega)
 rw [l2_13_eq _ _ _ _ _ hC,dT hi.2,cond_true,hb,cond_true,hw,oB,e32,e17,e17,ew,e8,e2]
 rcases why_cases hx with ⟨hd,hp⟩ | ⟨hd,hp,y,hq⟩ | ⟨hd,⟨y,hp⟩,hq,hl⟩ | ⟨a,b,hd,hp,ha,hne,hl⟩
 ·rw [hd,hp]
  generalize plainV 12 x=Y
  simp only [beq_self_eq_true,Bool.and_true]
  rfl
 ·have hlen:((quoteT x).length:Int)=(x.length:Int)+2:=by
   unfold quoteT
   simp only [List.length_append,List.length_cons,List.length_nil]
   omega
  rw [hd,hp]
  rcases hq with hq | hq<;>rw [hq]<;>simp only [hlen,beq_self_eq_true]<;>rfl
 ·rw [hd,hp,hq]
  have h10:decide ((x.length:Int) ≥ 10)=true:=dT (by omega)
  simp only [h10]
  rfl
 ·have h8:decide ((b.length:Int)≤8 * (x.length:Int))=true:=dT (by omega)
  rw [hp] at hne
  have hne':((a==(plainV 12 x).1)&&((b==(plainV 12 x).2)&&true))=false:=by rw [Bool.and_true];exact hne
  rw [hd,hp]
  simp only [h8,hne',beq_self_eq_true]
  rcases ha with e | e | e<;>subst e<;>rfl
theorem eq13 (hC:∀ key e t,C key e t=t e) (s:B) (seed:List Int) (K:Tk13) (r:Out) (h:A13 s seed K=some r):run13 C A17 A29 A31 A32 big s seed K=some r:=by
 unfold A13 at h
 split at h
 ·rename_i hb
  have e29:∀ k,A29 k=k true:=fun k=>rfl
  rw [← h,run13_eq,e29]
  simp only [p1_13_eq _ _ _ _ _ hC,Bool.not_true,cond_false]
  by_cases h1:(s.length:Int) > 60
  ·rw [dT h1];rfl
  ·by_cases h3:(seed.length:Int) > 8
   ·rw [dF h1,dT h3];rfl
   ·have hsl:=someB_len seed
    have e31:∀ k,A31 seed k=k (someB seed):=fun k=>if_pos ⟨hb,by omega⟩
    rw [dF h1,dF h3,cond_false,cond_false,e31]
    obtain ⟨m,hm⟩:∃ m,big=m+3:=⟨big - 3,by unfold big;omega⟩
    have key:∀ kk,l2_13 C A17 A29 A31 A32 kk (m+3) [s,someB seed] 2 0 K=K true:=by
     intro kk
     rw [step13 hC kk (m+2) (i':=1) (x:=s) (by omega) rfl ⟨by omega,by omega⟩ rfl rfl,step13 hC kk (m+1) (i':=2) (x:=someB seed) (by omega) rfl ⟨by omega,by omega⟩ rfl rfl,l2_13_eq _ _ _ _ _ hC,dF (by decide),cond_false]
    rw [← hm] at key
    exact key big
 ·cases h
end Go.Proofs.YtffmgholjdfcnaaGreatDoor
