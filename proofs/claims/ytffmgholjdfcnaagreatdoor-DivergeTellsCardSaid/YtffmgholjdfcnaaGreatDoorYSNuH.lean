import Derived.Test.YtffmgholjdfcnaaGreatDoorYSNuG
set_option linter.unusedVariables false
namespace Go.Proofs.YtffmgholjdfcnaaGreatDoor.Nu
open Go St
theorem dc_nat {n:Int} (h0:0≤n) (h1:n≤9):((dc n).toNat:Int)=48+n:=by
 unfold dc
 rw [UInt8.toNat_ofNat']
 omega
theorem dc_dg {n:Int} (h0:0≤n) (h1:n≤9):dg (dc n)=true:=by
 have:=dc_nat h0 h1
 unfold dg
 simp
 omega
theorem mulR_cons (m k:Int) (c:UInt8) (l:B):mulR m k (c :: l)=mulStep m c (mulR m k l):=rfl
theorem mulR_bd {m k:Int} (hm:0≤m∧m≤1099511627776) (hk:0≤k∧k≤1099511627776):∀ d:B,d.all dg=true→0≤(mulR m k d).2∧(mulR m k d).2≤1099511627776
 | [],_=>hk
 | c :: l,h=>by
  rw [List.all_cons,Bool.and_eq_true] at h
  have ih:=mulR_bd hm hk l h.2
  have hd:=dv_bd h.1
  rw [mulR_cons]
  unfold mulStep
  have h1:dv c * m≤9 * 1099511627776:=by
   calc dv c * m≤9 * m:=Int.mul_le_mul_of_nonneg_right hd.2 hm.1
    _≤9 * 1099511627776:=by omega
  have h0:0≤dv c * m:=Int.mul_nonneg hd.1 hm.1
  exact ⟨by dsimp only;omega,by dsimp only;omega⟩
theorem mulR_len (m k:Int):∀ d:B,(mulR m k d).1.length=d.length
 | []=>rfl
 | c :: l=>by rw [mulR_cons];unfold mulStep;simp [mulR_len m k l]
theorem mulR_dg (m k:Int):∀ d:B,(mulR m k d).1.all dg=true
 | []=>rfl
 | c :: l=>by
  rw [mulR_cons];unfold mulStep
  rw [List.all_cons,mulR_dg m k l,Bool.and_true]
  exact dc_dg (Int.emod_nonneg _ (by decide)) (by have:=Int.emod_lt_of_pos ((mulR m k l).2+dv c * m) (show (0:Int)<10 by decide);omega)
theorem dec_dg (u:Nat):(Lib.decDigits u).all dg=true:=by
 induction u using Nat.strongRecOn with
 | _ u ih =>
  rw [Lib.decDigits]
  split
  ·rename_i h
   rw [List.all_cons,List.all_nil,Bool.and_true]
   have:=dc_dg (n:=(u:Int)) (by omega) (by omega)
   unfold dc at this
   simpa using this
  ·rename_i h
   rw [List.all_append,ih (u / 10) (by omega),Bool.true_and,List.all_cons,List.all_nil,Bool.and_true]
   have:=dc_dg (n:=((u % 10:Nat):Int)) (by omega) (by omega)
   unfold dc at this
   rwa [Int.toNat_natCast] at this
theorem dec_ne (u:Nat):Lib.decDigits u ≠ []:=by
 rw [Lib.decDigits]
 split<;>simp
theorem itoa_isD {n:Int} (h:0≤n):isD (Lib.itoa n)=true:=by
 unfold Lib.itoa
 rw [if_neg (by omega)]
 exact isD_of (dec_dg _) (dec_ne _)
theorem isD_app {a b:B} (ha:isD a=true) (hb:b.all dg=true):isD (a++b)=true:=by
 obtain ⟨h1,h2⟩:=isD_all ha
 exact isD_of (by rw [List.all_append,h1,hb];rfl) (by simp [h2])
theorem norm_isD {s:B} (h:isD s=true):isD (norm false s)=true:=by
 obtain ⟨h1,h2⟩:=isD_all h
 unfold norm
 rw [h]
 simp only
 cases hz:dropZ s with
 | nil=>rfl
 | cons c l =>
  have ha:=dropZ_all s h1
  rw [hz] at ha
  exact isD_of (s:=c :: l) ha (by simp)
theorem mulAdd_isD {d:B} {m k:Int} (h:isD d=true) (hm:0≤m∧m≤1099511627776) (hk:0≤k∧k≤1099511627776):isD (mulAdd d m k)=true∧good (mulAdd d m k)=true:=by
 have hb:=mulR_bd hm hk d (isD_all h).1
 have hi:isD (Lib.itoa (mulR m k d).2++(mulR m k d).1)=true:=isD_app (itoa_isD hb.1) (mulR_dg m k d)
 exact ⟨norm_isD hi,norm_good false _ hi⟩
theorem inStep_iff {n:Int}:inStep n=true ↔ 0≤n∧n≤1099511627776:=by unfold inStep stepMax;simp
theorem isD_hd {a:B} (h:isD a=true):(a.head?==some 45)=false:=by
 obtain ⟨h1,h2⟩:=isD_all h
 cases a with
 | nil=>exact absurd rfl h2
 | cons c l =>
  rw [List.all_cons,Bool.and_eq_true] at h1
  have:=dg_not h1.1 (x:=45) (by decide)
  simpa using this
theorem mulAddG_isD {a:B} {m k:Int} (h:isD a=true) (hg:good a=true) (hm:inStep m=true) (hk:inStep k=true):isD (mulAddG a m k)=true∧good (mulAddG a m k)=true:=by
 unfold mulAddG
 rw [hg,isD_hd h,hm,hk]
 exact mulAdd_isD h (inStep_iff.1 hm) (inStep_iff.1 hk)
theorem val_bd {p:B} (h:okP p=true):inStep (val p)=true:=by
 unfold okP at h
 split at h
 ·rename_i a
  have:=dv_bd h
  apply inStep_iff.2
  unfold val
  simp only [List.foldl_cons,List.foldl_nil]
  omega
 ·rename_i a b
  simp only [Bool.and_eq_true] at h
  have:=dv_bd h.1.1
  have:=dv_bd h.2
  apply inStep_iff.2
  unfold val
  simp only [List.foldl_cons,List.foldl_nil]
  omega
 ·cases h
theorem fold_good:∀ {ps:List B} {n:B},ps.all okP=true→isD n=true→good n=true→isD (ps.foldl (fun n q=>mulAddG n 60 (val q)) n)=true∧good (ps.foldl (fun n q=>mulAddG n 60 (val q)) n)=true
 | [],n,_,h1,h2=>⟨h1,h2⟩
 | p :: ps,n,h,h1,h2=>by
  rw [List.all_cons,Bool.and_eq_true] at h
  have ⟨g1,g2⟩:=mulAddG_isD h1 h2 (m:=60) (k:=val p) (by decide) (val_bd h.1)
  rw [List.foldl_cons]
  exact fold_good h.2 g1 g2
theorem noU_all {l:B} (h:l.all dgU=true):(noU l).all dg=true:=by
 induction l with
 | nil=>rfl
 | cons c l ih =>
  rw [List.all_cons,Bool.and_eq_true] at h
  cases hc:c==95 with
  | true=>rw [eq_of_beq hc,noU_hit];exact ih h.2
  | false =>
   rw [noU_miss hc,List.all_cons,ih h.2,Bool.and_true]
   have:=h.1
   unfold dgU at this
   rwa [hc,Bool.false_or] at this
theorem row_isD {c:UInt8} {l:B} (h:dg c=true) (ha:l.all dgU=true):isD (noU (c :: l))=true:=by
 rw [noU_dg h]
 exact isD_of (by rw [List.all_cons,h,noU_all ha];rfl) (by simp)
theorem value_good {c:UInt8} {l:B} (h:dg c=true) (hs:sixties (tailU l)=true):isD (value (noU (c :: l)))=true∧good (value (noU (c :: l)))=true:=by
 have h58:=dg_58 h
 rw [value_eq,tw_miss h58,dw_miss h58]
 rcases tailU_dw l with ⟨h1,h2⟩ | ⟨h1,x,t,h2,h3⟩
 ·have hD:isD (noU (c :: tw 58 l))=true:=row_isD h h1
  rw [h2] at hs
  rcases dw_cases 58 l with e | ⟨t,e⟩
  ·rw [e];exact ⟨norm_isD hD,norm_good false _ hD⟩
  ·rw [e] at hs ⊢
   rw [sixties_one] at hs
   simp only
   rw [map_noU hs]
   exact fold_good hs (norm_isD hD) (norm_good false _ hD)
 ·rw [h2,sixties_no h3] at hs;cases hs
theorem hexD_nn (c:UInt8):0≤hexD c:=by
 unfold hexD hexV
 split
 ·omega
 ·split
  ·omega
  ·split<;>omega
theorem baseGo_good {b:Int} (hb:b=2∨b=8∨b=16):∀ (l acc:B),isD acc=true→good acc=true→l.all (fun c=>decide (hexD c<b))=true→isD (baseGo b acc l)=true∧good (baseGo b acc l)=true
 | [],acc,h1,h2,_=>⟨h1,h2⟩
 | c :: l,acc,h1,h2,h=>by
  rw [List.all_cons,Bool.and_eq_true] at h
  have hc:hexD c<b:=by simpa using h.1
  have:=hexD_nn c
  have ⟨g1,g2⟩:=mulAdd_isD h1 (m:=b) (k:=hexD c) (by omega) (by omega)
  unfold baseGo
  rw [decide_eq_false (by omega)]
  exact baseGo_good hb l _ g1 g2 h.2
theorem baseGo_all {b:Int}:∀ (l acc:B),baseGo b acc l ≠ []→l.all (fun c=>decide (hexD c<b))=true
 | [],_,_=>rfl
 | c :: l,acc,h=>by
  unfold baseGo at h
  split at h
  ·exact absurd rfl h
  ·rename_i hc
   rw [List.all_cons,baseGo_all l _ h,Bool.and_true]
   simp at hc ⊢
   omega
theorem baseN_good {b:Int} {l:B} (h:baseN l b ≠ []):isD (baseN l b)=true∧good (baseN l b)=true:=by
 unfold baseN at h ⊢
 split at h
 ·rename_i hc
  simp only [Bool.and_eq_true,Bool.or_eq_true,beq_iff_eq] at hc
  exact baseGo_good (by omega) l [48] rfl rfl (baseGo_all l _ h)
 ·exact absurd rfl h
theorem baseN_row {b:Int} {l:B} (hb:b=2∨b=8∨b=16) (h:rowB b l=true):isD (baseN (noU l) b)=true:=by
 unfold rowB at h
 rw [Bool.and_eq_true] at h
 have e1:(noU l==[])=false:=by simpa using h.2
 have e2:(b==2 || b==8 || b==16)=true:=by rcases hb with rfl | rfl | rfl<;>rfl
 have h3:∀ l:B,l.all (fun c=>c==95 || decide (hexD c<b))=true→(noU l).all (fun c=>decide (hexD c<b))=true:=by
  intro l
  induction l with
  | nil=>intro _;rfl
  | cons c l ih =>
   intro h
   rw [List.all_cons,Bool.and_eq_true] at h
   cases hc:c==95 with
   | true=>rw [eq_of_beq hc,noU_hit];exact ih h.2
   | false =>
    rw [noU_miss hc,List.all_cons,ih h.2,Bool.and_true]
    have:=h.1
    rwa [hc,Bool.false_or] at this
 unfold baseN
 rw [e1,e2]
 exact (baseGo_good hb _ [48] rfl rfl (h3 l h.1)).1
theorem rowN_good {neg:Bool} {b f:Int} {l:B} (hb:b=2∨b=8∨b=16) (h:((rowN neg b f l).2==0)=false):good (rowN neg b f l).1=true:=by
 unfold rowN at h ⊢
 cases hr:rowB b l with
 | true=>exact norm_good _ _ (baseN_row hb hr)
 | false=>rw [hr] at h;cases h
theorem int11_isgood {s:B} (h:((int11 s).2==0)=false):good (int11 s).1=true:=by
 unfold int11 at h ⊢
 cases hu:(unsign s).2 with
 | nil=>rw [hu] at h;cases h
 | cons c l =>
  rw [hu] at h
  simp only at h ⊢
  cases h48:c==48 with
  | true =>
   rw [h48] at h
   simp only at h ⊢
   cases l with
   | nil=>rfl
   | cons d l =>
    simp only at h ⊢
    cases hd:d==98 with
    | true=>rw [hd] at h;exact rowN_good (.inl rfl) h
    | false =>
     rw [hd] at h
     simp only at h ⊢
     cases hx:d==120 with
     | true=>rw [hx] at h;exact rowN_good (.inr (.inr rfl)) h
     | false=>rw [hx] at h;exact rowN_good (.inr (.inl rfl)) h
  | false =>
   rw [h48] at h
   simp only at h ⊢
   cases hc:dg c with
   | false=>rw [hc] at h;cases h
   | true =>
    rw [hc] at h
    simp only at h ⊢
    cases ht:tailU l with
    | nil =>
     have ha:l.all dgU=true:=by rw [← tailU_all,ht];rfl
     exact norm_good _ _ (row_isD hc ha)
    | cons x t =>
     rw [ht] at h
     simp only at h ⊢
     cases hs:sixties (x :: t) with
     | false=>rw [hs] at h;cases h
     | true=>exact norm_good _ _ (value_good hc (by rw [ht];exact hs)).1
theorem norm_isgood {neg:Bool} {s:B} (h:norm neg s ≠ []):good (norm neg s)=true:=by
 cases hd:isD s with
 | true=>exact norm_good _ _ hd
 | false=>unfold norm at h;rw [hd] at h;exact absurd rfl h
theorem int12_isgood {s:B} (h:int12 s ≠ []):good (int12 s)=true:=by
 unfold int12 at h ⊢
 split
 ·rename_i c d l
  simp only at h ⊢
  cases h1:c==48&&d==111 with
  | true=>rw [h1] at h;exact (baseN_good h).2
  | false =>
   rw [h1] at h
   simp only at h ⊢
   cases h2:c==48&&d==120 with
   | true=>rw [h2] at h;exact (baseN_good h).2
   | false=>rw [h2] at h;exact norm_isgood h
 ·rename_i s' hx
  refine norm_isgood fun e=>h ?_
  split
  ·rename_i c d l;exact absurd rfl (hx c d l)
  ·exact e
theorem subF_bd:∀ (a b:B),a.all dg=true→b.all dg=true→((subF a b).2=0∨(subF a b).2=1)∧(subF a b).1.all dg=true
 | [],_,_,_=>⟨.inl rfl,rfl⟩
 | _ :: _,[],_,_=>⟨.inl rfl,rfl⟩
 | c :: a,d :: b,ha,hb=>by
  rw [List.all_cons,Bool.and_eq_true] at ha hb
  have ⟨ih1,ih2⟩:=subF_bd a b ha.2 hb.2
  have h1:=dv_bd ha.1
  have h2:=dv_bd hb.1
  unfold subF
  by_cases hx:dv c - (subF a b).2 - dv d<0
  ·rw [decide_eq_true hx]
   refine ⟨.inr rfl,?_⟩
   simp only
   rw [List.all_cons,ih2,Bool.and_true]
   exact dc_dg (by omega) (by omega)
  ·rw [decide_eq_false hx]
   refine ⟨.inl rfl,?_⟩
   simp only
   rw [List.all_cons,ih2,Bool.and_true]
   exact dc_dg (by omega) (by omega)
theorem subF_ne {a b:B} (ha:a ≠ []) (hb:b ≠ []):(subF a b).1 ≠ []:=by
 cases a with
 | nil=>exact absurd rfl ha
 | cons c a =>
  cases b with
  | nil=>exact absurd rfl hb
  | cons d b =>
   unfold subF
   split<;>simp
theorem padD_dg {n:Nat} {b:B} (h:isD b=true):(padD n b).all dg=true∧padD n b ≠ []:=by
 obtain ⟨h1,h2⟩:=isD_all h
 refine ⟨?_,by unfold padD;simp [h2]⟩
 unfold padD
 rw [List.all_append,h1,Bool.and_true]
 rw [List.all_replicate]
 simp [dg]
theorem lessD_isD {a b:B} (ha:isD a=true) (hb:isD b=true):isD (lessD a b)=true:=by
 have ⟨p1,p2⟩:=padD_dg (n:=a.length) hb
 unfold lessD
 exact isD_of (subF_bd a _ (isD_all ha).1 p1).2 (subF_ne (isD_all ha).2 p2)
theorem addN_good {a:B} {n:Int} (h:good a=true) (h1:-1099511627776≤n) (h2:n≤1099511627776):good (addN a n)=true:=by
 obtain ⟨neg,c,l,e,ha,hc,-,hb,hn,h0⟩:=good_split h
 have hD:isD (c :: l)=true:=isD_of ha (by simp)
 unfold addN
 have e1:(decide (-stepMax≤n)&&decide (n≤stepMax))=true:=by unfold stepMax;rw [decide_eq_true h1,decide_eq_true h2];rfl
 rw [h,Bool.true_and,e1,hb]
 simp only
 obtain ⟨m,hm⟩:∃ m,negIf neg n=m:=⟨_,rfl⟩
 have hmb:-1099511627776≤m∧m≤1099511627776:=by
  rw [← hm]
  unfold negIf
  cases neg
  ·exact ⟨h1,h2⟩
  ·exact ⟨by simp only;omega,by simp only;omega⟩
 rw [hm]
 unfold addS
 by_cases h0m:0≤m
 ·rw [decide_eq_true h0m]
  exact norm_good _ _ (mulAdd_isD hD (by decide) ⟨h0m,hmb.2⟩).1
 ·rw [decide_eq_false h0m]
  have hi:isD (Lib.itoa (-m))=true:=itoa_isD (by omega)
  simp only
  cases decide (cmpD (c :: l) (Lib.itoa (-m))<0) with
  | true=>exact norm_good _ _ (lessD_isD hi hD)
  | false=>exact norm_good _ _ (lessD_isD hD hi)
theorem dropZ_suffix:∀ l,dropZ l <:+ l
 | []=>List.suffix_refl _
 | c :: l=>by
  unfold dropZ
  split
  ·exact (dropZ_suffix l).trans (List.suffix_cons c l)
  ·exact List.suffix_refl _
theorem trimR_last (s:B) (h:Lib.trimRightB s 48 ≠ []):(Lib.trimRightB s 48).getLast? ≠ some 48:=by
 unfold Lib.trimRightB at h ⊢
 rw [List.getLast?_reverse]
 cases hd:s.reverse.dropWhile (· == 48) with
 | nil=>simp
 | cons c t =>
  have:(c==48)=false:=by
   have:=List.head?_dropWhile_not (fun x:UInt8=>x==48) s.reverse
   rw [hd] at this
   simpa using this
  simpa using this
theorem trimR_all {s:B} (h:s.all dg=true):(Lib.trimRightB s 48).all dg=true:=by
 unfold Lib.trimRightB
 rw [List.all_reverse,List.all_eq_true]
 intro x hx
 have:=(List.dropWhile_suffix (fun x:UInt8=>x==48)).subset hx
 exact List.all_eq_true.1 h x (by simpa using this)
theorem trimR_len (s:B):(Lib.trimRightB s 48).length≤s.length:=by
 unfold Lib.trimRightB
 rw [List.length_reverse]
 have:=(List.dropWhile_suffix (l:=s.reverse) (fun x:UInt8=>x==48)).length_le
 simpa using this
theorem makeD_good {neg:Bool} {w f e:B} (hl:w.length+f.length≤1000000) (h:(makeD neg w f e).2=true):goodD (makeD neg w f e).1=true∧(makeD neg w f e).1.kind=0:=by
 unfold makeD at h ⊢
 cases hc:isD (w++f)&&good e with
 | false=>rw [hc] at h;cases h
 | true =>
  rw [hc] at h
  simp only at h ⊢
  rw [Bool.and_eq_true] at hc
  have h1:=trimR_all (isD_all hc.1).1
  cases hz:dropZ (Lib.trimRightB (w++f) 48) with
  | nil=>exact ⟨rfl,rfl⟩
  | cons c l =>
   refine ⟨?_,rfl⟩
   simp only
   have hne:=dropZ_head _ _ _ hz
   have hs:=dropZ_suffix (Lib.trimRightB (w++f) 48)
   have ha:=dropZ_all _ h1
   rw [hz] at hs ha
   have hr:Lib.trimRightB (w++f) 48 ≠ []:=fun e=>by rw [e] at hz;cases hz
   have hlast:(c :: l).getLast? ≠ some 48:=by
    obtain ⟨p,hp⟩:=hs
    have:=trimR_last (w++f) hr
    rw [← hp,List.getLast?_append] at this
    intro e
    rw [e] at this
    exact this rfl
   have hlen:=trimR_len (w++f)
   rw [List.length_append] at hlen
   have hg:good (addN e (((w++f).length:Int) - ((Lib.trimRightB (w++f) 48).length:Int) - (f.length:Int)))=true:=addN_good hc.2 (by rw [List.length_append];omega) (by rw [List.length_append];omega)
   unfold goodD
   simp only
   rw [hg,isD_of ha (by simp)]
   have e1:((c :: l).head?==some (48:UInt8))=false:=by simpa using hne
   have e2:((c :: l).getLast?==some (48:UInt8))=false:=by
    cases e:(c :: l).getLast?==some (48:UInt8) with
    | false=>rfl
    | true=>exact absurd (eq_of_beq e) hlast
   rw [e1,e2]
   simp
end Go.Proofs.YtffmgholjdfcnaaGreatDoor.Nu
