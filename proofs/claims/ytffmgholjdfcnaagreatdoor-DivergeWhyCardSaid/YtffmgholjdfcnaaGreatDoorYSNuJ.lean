import Derived.Test.YtffmgholjdfcnaaGreatDoorYSNuI
import Derived.Test.YtffmgholjdfcnaaGreatDoorKSC
set_option linter.unusedSimpArgs false
set_option linter.unusedVariables false
namespace Go.Proofs.YtffmgholjdfcnaaGreatDoor
open Go AM St Nu
open Go.IntKind (i64 u8)
variable {C:Nat→Env→(Env→Option Out)→Option Out}
theorem allU8 {P:UInt8→Prop} (h:∀ n:Fin 256,P (UInt8.ofNat n.val)) (c:UInt8):P c:=by
 have:=h ⟨c.toNat,c.toNat_lt⟩
 simpa using this
theorem norm_norm {neg:Bool} {s:B} (h:isD s=true):norm neg (norm false s)=norm neg s:=by
 obtain ⟨h1,h2⟩:=isD_all h
 have e1:norm false s=(match dropZ s with | []=>[48] | c :: l=>c :: l):=by unfold norm;rw [h];rfl
 have e2:norm neg s=(match dropZ s with | []=>[48] | c :: l=>match neg with | true=>45 :: c :: l | false=>c :: l):=by unfold norm;rw [h];rfl
 rw [e1,e2]
 cases hz:dropZ s with
 | nil=>cases neg<;>rfl
 | cons c l =>
  have ha:=dropZ_all s h1
  rw [hz] at ha
  have hc:=dropZ_head s c l hz
  cases neg with
  | true=>exact norm_neg hc ha
  | false=>exact norm_pos hc ha
theorem good_parts {a:B} (h:good a=true):isD (bare a).2=true∧(bare a).2.length≤a.length∧(((bare a).1=true∧a=45 :: (bare a).2)∨((bare a).1=false∧a=(bare a).2∧(a.head?==some 45)=false)):=by
 obtain ⟨neg,c,l,e,ha,hc,-,hb,hn,h0⟩:=good_split h
 rw [hb]
 refine ⟨isD_of ha (by simp),?_,?_⟩
 ·rw [e];simp
 ·cases neg with
  | true=>exact .inl ⟨rfl,e⟩
  | false =>
   have e:a=c :: l:=e
   refine .inr ⟨rfl,e,?_⟩
   rw [e]
   have:=dg_not hc (x:=45) (by decide)
   simpa using this
def A152:Ty152:=fun a n K=>if a.length≤1000000000 then K (addN a n) else none
def A177:Ty177:=fun a n K=>if a.length≤1000000000 then K (addN a n) else none
theorem cmp_len {a b:B}:(cmpD a b<0→a.length≤b.length)∧(¬ cmpD a b<0→b.length≤a.length):=by
 unfold cmpD
 by_cases h1:a.length<b.length
 ·rw [if_pos h1];exact ⟨fun _=>by omega,fun h=>absurd (by decide) h⟩
 ·rw [if_neg h1]
  by_cases h2:b.length<a.length
  ·rw [if_pos h2];exact ⟨fun h=>absurd h (by decide),fun _=>by omega⟩
  ·exact ⟨fun _=>by omega,fun _=>by omega⟩
theorem lessD_len {a b:B}:(lessD a b).length≤a.length:=by
 have:∀ x y:B,(subF x y).1.length≤x.length:=by
  intro x
  induction x with
  | nil=>intro y;exact Nat.le_refl _
  | cons c x ih =>
   intro y
   cases y with
   | nil=>exact Nat.zero_le _
   | cons d y =>
    have:=ih y
    rw [subF_cons]
    split<;>simp<;>omega
 exact this _ _
theorem subF_zero:∀ {a:B},a.all dg=true→subF a (List.replicate a.length 48)=(a,0)
 | [],_=>rfl
 | c :: a,h=>by
  rw [List.all_cons,Bool.and_eq_true] at h
  have hd:=dv_bd h.1
  rw [List.length_cons,List.replicate_succ,subF_cons,subF_zero h.2]
  have e:dv 48=0:=by decide
  simp only [e,Int.sub_zero]
  rw [dF (by omega),dc_dv h.1]
theorem lessD_zero {a:B} (h:isD a=true):lessD a [48]=a:=by
 obtain ⟨h1,h2⟩:=isD_all h
 unfold lessD
 have e:padD a.length [48]=List.replicate a.length 48:=by
  unfold padD
  have:0<a.length:=List.length_pos_iff.2 h2
  obtain ⟨n,hn⟩:∃ n,a.length=n+1:=⟨a.length - 1,by omega⟩
  rw [hn,List.replicate_succ']
  rfl
 rw [e,subF_zero h1]
theorem cmpD_zero {a:B} (h:isD a=true):¬ cmpD a [48]<0:=by
 obtain ⟨h1,h2⟩:=isD_all h
 unfold cmpD
 cases a with
 | nil=>exact absurd rfl h2
 | cons c l =>
  rw [if_neg (by simp)]
  cases l with
  | cons d l=>rw [if_pos (by simp)];decide
  | nil =>
   rw [if_neg (by simp)]
   have hc:dg c=true:=by simpa using h1
   have:¬ c<48:=by
    unfold dg at hc
    simp at hc
    intro h
    have:=UInt8.lt_iff_toNat_lt.1 h
    have e:(48:UInt8).toNat=48:=rfl
    omega
   unfold Lib.compareBytes
   rw [if_neg this]
   split
   ·decide
   ·decide
theorem itoa_zero:Lib.itoa 0=[48]:=by
 unfold Lib.itoa
 rw [if_neg (by decide),Lib.decDigits,dif_pos (by decide)]
 rfl
theorem p2_152_ok (hC:∀ key e t,C key e t=t e) {K:Tk152} (kk:Nat) {m:Int} (hm:-1099511627776≤m∧m≤1099511627776) (neg:Bool) {d:B} (hd:isD d=true) (hl:d.length≤1000000000) :
  p2_152 C A96 A146 A150 A171 A202 A206 A207 kk m neg d K=K (addS neg d m):=by
 rw [p2_152_eq _ _ _ _ _ _ _ _ hC]
 unfold addS
 by_cases h0:0≤m
 ·have h0':m ≥ 0:=h0
  have hml:=mulAdd_len hd (m:=1) (k:=m) (by decide) ⟨h0,hm.2⟩
  rw [dT h0,cond_true,A146_ok hd (by omega) (by decide) ⟨h0,hm.2⟩]
  exact if_pos (by omega)
 ·have hi:=itoa_isD (n:=-m) (by omega)
  have hil:=itoa_len (n:=-m) (by omega) (by omega)
  have e171:∀ k,A171 (i64.wrap (0 - m)) k=k (Lib.itoa (-m)):=by
   intro k
   have:i64.wrap (0 - m) = -m:=by rw [i64_in (by omega) (by omega)];omega
   rw [this]
   exact if_pos (by omega)
  rw [dF h0,cond_false,e171]
  unfold A206
  have hc:=cmp_len (a:=d) (b:=Lib.itoa (-m))
  simp only
  by_cases hx:cmpD d (Lib.itoa (-m))<0
  ·have e207:∀ k,A207 (Lib.itoa (-m)) d k=k (lessD (Lib.itoa (-m)) d):=fun k=>if_pos ⟨(isD_all hi).1,hd,hc.1 hx,by omega⟩
   have:=lessD_len (a:=Lib.itoa (-m)) (b:=d)
   rw [dT hx,cond_true,e207]
   exact if_pos (by omega)
  ·have e207:∀ k,A207 d (Lib.itoa (-m)) k=k (lessD d (Lib.itoa (-m))):=fun k=>if_pos ⟨(isD_all hd).1,hi,hc.2 hx,by omega⟩
   have:=lessD_len (a:=d) (b:=Lib.itoa (-m))
   rw [dF hx,cond_false,e207]
   exact if_pos (by omega)
theorem eq152 (hC:∀ key e t,C key e t=t e) (a:B) (n:Int) (K:Tk152) (r:Out) (h:A152 a n K=some r):run152 C A96 A146 A150 A171 A202 A206 A207 big a n K=some r:=by
 unfold A152 at h
 split at h
 ·rename_i hl
  have e150:∀ k,A150 a k=k (good a):=fun k=>if_pos (by omega)
  rw [← h,run152_eq,e150]
  unfold addN stepMax
  simp only [p1_152_eq _ _ _ _ _ _ _ _ hC]
  cases hg:good a with
  | false=>rfl
  | true =>
   obtain ⟨hd,hdl,-⟩:=good_parts hg
   simp only [Bool.not_true,cond_false,Bool.true_and]
   by_cases h1:n≤1099511627776
   ·by_cases h2:-1099511627776≤n
    ·rw [dF (show ¬ n > 1099511627776 by omega),dF (show ¬ n < -1099511627776 by omega),dT h1,dT h2]
     simp only [cond_false,Bool.and_self]
     have e202:∀ k,A202 a k=k (bare a).1 (bare a).2:=fun k=>rfl
     rw [e202]
     unfold negIf
     cases (bare a).1 with
     | true =>
      have:i64.wrap (0 - n) = -n:=by rw [i64_in (by omega) (by omega)];omega
      dsimp only
      rw [cond_true,this,p2_152_ok hC big (by omega) true hd (by omega)]
     | false=>dsimp only;rw [cond_false,p2_152_ok hC big (by omega) false hd (by omega)]
    ·rw [dF (show ¬ n > 1099511627776 by omega),dT (show n < -1099511627776 by omega),dF h2];rfl
   ·rw [dT (show n > 1099511627776 by omega),dF h1,Bool.and_false];rfl
 ·cases h
theorem p3_177_ok (hC:∀ key e t,C key e t=t e) {K:Tk177} (kk:Nat) {n:Int} (hn:0≤n∧n≤1099511627776) (neg down:Bool) {d:B} (hd:isD d=true) (hl:d.length≤1000000000) (hz:n=0→down=false) :
  p3_177 C A20 A115 A173 A176 A217 A218 kk d n neg down K=K (addS neg d (match neg==down with | true=>n | false=>-n)):=by
 rw [p3_177_eq _ _ _ _ _ _ _ hC]
 cases hnd:neg==down with
 | true =>
  have hml:=mulAdd_len hd (m:=1) (k:=n) (by decide) hn
  rw [cond_true,A173_ok hd (by omega) (by decide) hn]
  unfold addS
  rw [dT hn.1]
  exact if_pos (by omega)
 | false =>
  have hi:=itoa_isD hn.1
  have hil:=itoa_len hn.1 hn.2
  have e20:∀ k,A20 n k=k (Lib.itoa n):=by
   intro k
   have:Lib.itoa n=Lib.decDigits n.toNat:=by unfold Lib.itoa;rw [if_neg (by omega)]
   rw [this]
   exact if_pos (by omega)
  have hc:=cmp_len (a:=d) (b:=Lib.itoa n)
  rw [cond_false,e20]
  unfold A217
  simp only
  by_cases hx:cmpD d (Lib.itoa n)<0
  ·have hn0:¬ 0 ≤ -n:=by
    intro h
    have:n=0:=by omega
    rw [this,itoa_zero] at hx
    exact cmpD_zero hd hx
   have hd2:down=!neg:=by cases neg<;>cases down<;>first | rfl | cases hnd
   have e218:∀ k,A218 (Lib.itoa n) d k=k (norm false (lessD (Lib.itoa n) d)):=fun k=>if_pos ⟨(isD_all hi).1,hd,hc.1 hx,by omega⟩
   have hll:=lessD_len (a:=Lib.itoa n) (b:=d)
   have hnl:=norm_len false (lessD (Lib.itoa n) d)
   have e115:∀ k,A115 down (norm false (lessD (Lib.itoa n) d)) k=k (norm down (norm false (lessD (Lib.itoa n) d))):=fun k=>if_pos (by omega)
   rw [dT hx,cond_true,e218,e115,norm_norm (lessD_isD hi hd)]
   unfold addS
   rw [dF hn0,Int.neg_neg,dT hx,hd2]
  ·have e218:∀ k,A218 d (Lib.itoa n) k=k (norm false (lessD d (Lib.itoa n))):=fun k=>if_pos ⟨(isD_all hd).1,hi,hc.2 hx,by omega⟩
   have hll:=lessD_len (a:=d) (b:=Lib.itoa n)
   have hnl:=norm_len false (lessD d (Lib.itoa n))
   have e115:∀ k,A115 neg (norm false (lessD d (Lib.itoa n))) k=k (norm neg (norm false (lessD d (Lib.itoa n)))):=fun k=>if_pos (by omega)
   rw [dF hx,cond_false,e218,e115,norm_norm (lessD_isD hd hi)]
   unfold addS
   by_cases h0:n=0
   ·subst h0
    rw [dT (by decide),itoa_zero,lessD_zero hd]
    simp only [Int.neg_zero]
    rw [mulAdd_id hd,norm_norm hd]
   ·rw [dF (by omega),Int.neg_neg,dF hx]
theorem eq177 (hC:∀ key e t,C key e t=t e) (a:B) (n:Int) (K:Tk177) (r:Out) (h:A177 a n K=some r):run177 C A20 A115 A173 A176 A217 A218 big a n K=some r:=by
 unfold A177 at h
 split at h
 ·rename_i hl
  have e176:∀ k,A176 a k=k (good a):=fun k=>if_pos (by omega)
  rw [← h,run177_eq,e176]
  unfold addN stepMax
  simp only [p1_177_eq _ _ _ _ _ _ _ hC]
  cases hg:good a with
  | false=>rfl
  | true =>
   obtain ⟨hd,hdl,hcase⟩:=good_parts hg
   simp only [Bool.not_true,cond_false,Bool.true_and]
   by_cases h1:n≤1099511627776
   ·by_cases h2:-1099511627776≤n
    ·rw [dF (show ¬ n > 1099511627776 by omega),dF (show ¬ n < -1099511627776 by omega),dT h1,dT h2]
     simp only [cond_false,Bool.and_self]
     have hp2:∀ (neg:Bool),p2_177 C A20 A115 A173 A176 A217 A218 big (bare a).2 n neg (decide (n<0)) K=K (addS neg (bare a).2 (negIf neg n)):=by
      intro neg
      rw [p2_177_eq _ _ _ _ _ _ _ hC]
      by_cases hn:n<0
      ·have ew:i64.wrap (0 - n) = -n:=by rw [i64_in (by omega) (by omega)];omega
       rw [dT hn,cond_true,ew,p3_177_ok hC big (by omega) neg true hd (by omega) (fun h=>by omega)]
       unfold negIf
       cases neg with
       | true=>rfl
       | false=>simp only [Bool.false_beq,Bool.not_true,Int.neg_neg]
      ·rw [dF hn,cond_false,p3_177_ok hC big (by omega) neg false hd (by omega) (fun h=>rfl)]
       unfold negIf
       cases neg<;>rfl
     rcases hcase with ⟨q1,q2⟩ | ⟨q1,q2,q3⟩
     ·have ea:at? a 0=some 45:=by rw [q2];rfl
      have ec:cut a (some (1:Int)) none=some (bare a).2:=by
       conv=>lhs;rw [q2]
       exact cut1 _ _
      have e45:(((45:UInt8).toNat:Int)==45)=true:=rfl
      rw [ea,oB,e45,cond_true,ec,oB,hp2,q1]
     ·obtain ⟨c,l,e,hc⟩:=(good_D hg q3).2
      have ea:at? a 0=some c:=by rw [e];rfl
      rw [ea,oB,hc,cond_false]
      conv=>lhs;rw [q2]
      rw [hp2,q1]
    ·rw [dT (show n < -1099511627776 by omega),dF h2];rfl
   ·have h3:¬ n < -1099511627776:=by omega
    rw [dF h3,dT (show n > 1099511627776 by omega),dF h1,Bool.and_false];rfl
 ·cases h
def tenB:B:=[48,49,50,51,52,53,54,55,56,57]
theorem ten_dg (c:UInt8):tenB.contains c=dg c:=allU8 (P:=fun c=>tenB.contains c=dg c) (by decide +kernel) c
def A163:Ty163:=fun s c K=>match c with
 | [x]=>if x.toNat<128∧s.length≤1099511627776 then K (Lib.trimB s x) else none
 | c=>if c.length=10∧(c.all fun x=>decide (x.toNat<128))=true∧s.length≤1099511627776 then K (Lib.trimS s c) else none
theorem drop_nil {p:UInt8→Bool}:∀ l:B,(l.dropWhile p==[])=l.all p
 | []=>rfl
 | c :: l=>by
  rw [List.dropWhile_cons,List.all_cons]
  cases h:p c with
  | true=>simpa using drop_nil l
  | false=>simp
theorem trim_nil {p:UInt8→Bool} (l:B):(((l.reverse.dropWhile p).reverse).dropWhile p==[])=l.all p:=by
 rw [drop_nil,List.all_reverse]
 cases h:l.all p with
 | true =>
  have:l.reverse.dropWhile p=[]:=by
   have:=drop_nil (p:=p) l.reverse
   rw [List.all_reverse,h] at this
   exact eq_of_beq this
  rw [this];rfl
 | false =>
  cases hd:l.reverse.dropWhile p with
  | nil =>
   have:=drop_nil (p:=p) l.reverse
   rw [List.all_reverse,h,hd] at this
   cases this
  | cons c t =>
   have:=List.head?_dropWhile_not p l.reverse
   rw [hd] at this
   have hc:p c=false:=by simpa using this
   rw [List.all_cons,hc];rfl
theorem trimS_ten (s:B):(Lib.trimS s tenB==[])=s.all dg:=by
 have e:(tenB.contains ·)=dg:=funext ten_dg
 unfold Lib.trimS Lib.trimLeftS Lib.trimRightS
 rw [e]
 exact trim_nil s
def A149:Ty149:=fun s K=>if s.length≤1099511627776 then K (s.all dg) else none
theorem eq149 (s:B) (K:Tk149) (r:Out) (h:A149 s K=some r):run149 C A163 big s K=some r:=by
 unfold A149 at h
 split at h
 ·rename_i hs
  have e:∀ k,A163 s [48,49,50,51,52,53,54,55,56,57] k=k (Lib.trimS s tenB):=fun k=>if_pos ⟨rfl,by decide,hs⟩
  rw [← h,run149_eq,e,trimS_ten]
 ·cases h
def A153:Ty153:=fun neg K=>K 0 neg [48] [48]
theorem at_last {d:B} (h:d ≠ []) (hl:d.length≤1099511627776):at? d (i64.wrap ((d.length:Int) - 1))=d.getLast?:=by
 have:0<d.length:=List.length_pos_iff.2 h
 rw [i64_in (by omega) (by omega),List.getLast?_eq_getElem?]
 unfold at?
 rw [if_pos (by omega)]
 congr 1
 omega
theorem ne48 (c:UInt8):((c.toNat:Int) != 48)=!(some c==some (48:UInt8)):=allU8 (P:=fun c=>((c.toNat:Int) != 48)=!(some c==some (48:UInt8))) (by decide +kernel) c
theorem eq48 (c:UInt8):((c.toNat:Int)==48)=(c==48):=allU8 (P:=fun c=>((c.toNat:Int)==48)=(c==48)) (by decide +kernel) c
theorem dec_tail {d:B} (h:d ≠ []) (hl:d.length≤1099511627776) (g:Bool) (K:Bool→Option Out) :
  ((at? d 0).bind fun b6=>(bif ((b6.toNat:Int) != 48) then ((at? d (i64.wrap ((d.length:Int) - 1))).bind fun b7=>(bif ((b7.toNat:Int) != 48) then K g else (K false))) else (K false)))=K (!(d.head?==some 48)&&!(d.getLast?==some 48)&&g):=by
 rw [at_last h hl]
 cases d with
 | nil=>exact absurd rfl h
 | cons c l =>
  rw [at0,oB,ne48,List.head?_cons]
  cases hc:(some c==some (48:UInt8)) with
  | true=>rfl
  | false =>
   obtain ⟨x,hx⟩:∃ x,(c :: l).getLast?=some x:=⟨_,List.getLast?_eq_some_getLast (by simp)⟩
   rw [hx]
   simp only [Bool.not_false,cond_true,oB,ne48,Bool.true_and]
   cases (some x==some (48:UInt8))<;>rfl
def A109:Ty109:=fun k n d e K=>if d.length≤1099511627776∧e.length≤1099511627776 then K (goodD ⟨k,n,d,e⟩) else none
theorem eq109 (hC:∀ key e t,C key e t=t e) (k:Int) (n:Bool) (d e:B) (K:Tk109) (r:Out) (h:A109 k n d e K=some r):run109 C A149 A150 A153 big k n d e K=some r:=by
 unfold A109 at h
 split at h
 ·rename_i hl
  have e149:∀ k,A149 d k=k (d.all dg):=fun k=>if_pos hl.1
  have e150:∀ k,A150 e k=k (good e):=fun k=>if_pos hl.2
  have e153:∀ K,A153 n K=K 0 n [48] [48]:=fun K=>rfl
  rw [← h,run109_eq,e153]
  have hlast:p1_109 C A149 A150 A153 big k n d e false K=K (k==0&&isD d&&!(d.head?==some 48)&&!(d.getLast?==some 48)&&good e):=by
   rw [p1_109_eq _ _ _ _ hC,cond_false,e149,e150]
   cases hk:k==0 with
   | false=>rfl
   | true =>
    cases d with
    | nil=>rfl
    | cons c l =>
     have hD:isD (c :: l)=(c :: l).all dg:=rfl
     rw [cond_true,dT (by simp only [List.length_cons];omega),cond_true,dec_tail (by simp) hl.1,hD]
     cases (c :: l).all dg<;>rfl
  have htrue:p1_109 C A149 A150 A153 big k n d e true K=K true:=by rw [p1_109_eq _ _ _ _ hC];rfl
  simp only [beq_self_eq_true,Bool.true_and,Bool.and_true]
  unfold goodD
  simp only
  have hn:(n==false)=!n:=by cases n<;>rfl
  cases h1:k==0&&(d==[48]&&e==[48]) with
  | true =>
   rw [cond_true,htrue]
   have:(k==0&&d==[48]&&e==[48])=true:=by rw [Bool.and_assoc];exact h1
   rw [this];rfl
  | false =>
   have h1':(k==0&&d==[48]&&e==[48])=false:=by rw [Bool.and_assoc];exact h1
   rw [cond_false,h1',Bool.false_or]
   cases h2:k==1&&(d==[]&&e==[]) with
   | true =>
    rw [cond_true,htrue]
    have:(k==1&&d==[]&&e==[])=true:=by rw [Bool.and_assoc];exact h2
    rw [this];rfl
   | false =>
    have h2':(k==1&&d==[]&&e==[])=false:=by rw [Bool.and_assoc];exact h2
    rw [cond_false,h2',Bool.false_or,hn]
    have h3:(k==2&&(!n&&(d==[]&&e==[])))=(k==2&&d==[]&&e==[]&&!n):=by cases k==2<;>cases n<;>cases d==[]<;>cases e==[]<;>rfl
    rw [h3]
    cases k==2&&d==[]&&e==[]&&!n with
    | true=>rw [htrue];rfl
    | false=>rw [hlast];rfl
 ·cases h
def A121:Ty121:=fun k n d e K=>if d.length≤1099511627776∧e.length≤1099511627776 then K (goodD ⟨k,n,d,e⟩) else none
theorem eq121 (hC:∀ key e t,C key e t=t e) (k:Int) (n:Bool) (d e:B) (K:Tk121) (r:Out) (h:A121 k n d e K=some r):run121 C A174 A176 big k n d e K=some r:=by
 unfold A121 at h
 split at h
 ·rename_i hl
  have e174:∀ k,A174 d k=k (isD d):=fun k=>if_pos hl.1
  have e176:∀ k,A176 e k=k (good e):=fun k=>if_pos hl.2
  rw [← h,run121_eq,e174,e176]
  unfold goodD
  simp only
  by_cases h0:k=0
  ·subst h0
   simp only [beq_self_eq_true,cond_true,Bool.true_and,show ((0:Int)==1)=false from rfl,show ((0:Int)==2)=false from rfl,Bool.false_and,Bool.or_false]
   cases hd:d==([48]:B) with
   | true =>
    have:=eq_of_beq hd
    subst this
    have hg:(isD [48]&&!(([48]:B).head?==some 48)&&!(([48]:B).getLast?==some 48)&&good e)=false:=rfl
    rw [hg,Bool.or_false];rfl
   | false =>
    rw [cond_false,Bool.false_and,Bool.false_or]
    cases hD:isD d with
    | false=>rfl
    | true=>rw [cond_true,dec_tail (isD_all hD).2 hl.1,Bool.true_and]
  ·have h0':(k==0)=false:=by simpa using h0
   simp only [h0',cond_false,Bool.false_and,Bool.false_or,Bool.or_false]
   by_cases h1:k=1
   ·subst h1
    simp only [beq_self_eq_true,cond_true,Bool.true_and,show ((1:Int)==2)=false from rfl,Bool.false_and,Bool.or_false]
    cases d==([]:B)<;>rfl
   ·have h1':(k==1)=false:=by simpa using h1
    simp only [h1',cond_false,Bool.false_and,Bool.false_or]
    cases k==2<;>cases d==([]:B)<;>cases e==([]:B)<;>rfl
 ·cases h
def A66:Ty66:=fun k n d e K=>if d.length≤1099511627776∧e.length≤1099511627776 then K (printD ⟨k,n,d,e⟩) else none
def A74:Ty74:=fun k n d e K=>if d.length≤1099511627776∧e.length≤1099511627776 then K (printD ⟨k,n,d,e⟩) else none
theorem sgB_len (n:Bool):(sgB n).length≤1:=by cases n<;>decide
theorem good_at {e:B} (h:good e=true):∃ c,at? e 0=some c∧((c.toNat:Int)==45)=(e.head?==some 45):=by
 obtain ⟨c,l,rfl,-⟩:=good_hd h
 exact ⟨c,rfl,allU8 (P:=fun c=>((c.toNat:Int)==45)=(some c==some (45:UInt8))) (by decide +kernel) c⟩
theorem eq66 (hC:∀ key e t,C key e t=t e) (k:Int) (n:Bool) (d e:B) (K:Tk66) (r:Out) (h:A66 k n d e K=some r):run66 C A109 big k n d e K=some r:=by
 unfold A66 at h
 split at h
 ·rename_i hl
  have e109:∀ K,A109 k n d e K=K (goodD ⟨k,n,d,e⟩):=fun K=>if_pos hl
  have hrun:run66 C A109 big k n d e K=p1_66 C A109 big k n d e (sgB n) K:=by rw [run66_eq];cases n<;>rfl
  rw [← h,hrun,p1_66_eq _ _ hC,e109]
  have hsl:=sgB_len n
  unfold printD
  cases hg:goodD ⟨k,n,d,e⟩ with
  | false=>rfl
  | true =>
   simp only [Bool.not_true,cond_false]
   rcases goodD_cases hg with hx | hx | ⟨c,l,e',hx,ha,he,-⟩
   ·cases hx
    simp only [show ((1:Int)==2)=false from rfl,Bool.false_and,cond_false,beq_self_eq_true,Bool.and_self,cond_true]
    rw [cat_ok (by simp;omega),oB]
   ·cases hx;rfl
   ·cases hx
    simp only [show ((0:Int)==2)=false from rfl,show ((0:Int)==1)=false from rfl,Bool.false_and,cond_false]
    obtain ⟨x,h1,h2⟩:=good_at he
    have hp2:∀ v4:B,v4.length≤1→p2_66 C A109 big 0 n (c :: l) e (sgB n) v4 K=K (sgB n++(c :: l)++[46,101]++v4++e):=by
     intro v4 hv
     have hl1:=hl.1
     rw [p2_66_eq _ _ hC,cat_ok (by omega),oB,cat_ok (by simp only [List.length_append,List.length_cons,List.length_nil] at hl1 ⊢;omega),oB,cat_ok (by simp only [List.length_append,List.length_cons,List.length_nil] at hl1 ⊢;omega),oB,cat_ok (by simp only [List.length_append,List.length_cons,List.length_nil] at hl1 ⊢;omega),oB]
    rw [h1,oB,h2]
    cases e.head?==some 45 with
    | true=>rw [cond_true,hp2 [] (by simp),List.append_nil]
    | false=>rw [cond_false,hp2 [43] (by simp)]
 ·cases h
theorem eq74 (hC:∀ key e t,C key e t=t e) (k:Int) (n:Bool) (d e:B) (K:Tk74) (r:Out) (h:A74 k n d e K=some r):run74 C A121 big k n d e K=some r:=by
 unfold A74 at h
 split at h
 ·rename_i hl
  have e121:∀ K,A121 k n d e K=K (goodD ⟨k,n,d,e⟩):=fun K=>if_pos hl
  have hrun:run74 C A121 big k n d e K=p1_74 C A121 big k n d e (sgB n) K:=by rw [run74_eq];cases n<;>rfl
  rw [← h,hrun,p1_74_eq _ _ hC,e121]
  have hsl:=sgB_len n
  unfold printD
  cases hg:goodD ⟨k,n,d,e⟩ with
  | false=>rfl
  | true =>
   simp only [Bool.not_true,cond_false]
   rcases goodD_cases hg with hx | hx | ⟨c,l,e',hx,ha,he,-⟩
   ·cases hx
    simp only [show ((1:Int)==2)=false from rfl,beq_self_eq_true,cond_true]
    rw [cat_ok (by simp;omega),oB]
   ·cases hx;rfl
   ·cases hx
    simp only [show ((0:Int)==2)=false from rfl,show ((0:Int)==1)=false from rfl,cond_false]
    obtain ⟨x,h1,h2⟩:=good_at he
    have h2':((x.toNat:Int) != 45)=!(e.head?==some 45):=by rw [← h2];rfl
    have hl1:=hl.1
    rw [h1,oB,h2']
    cases e.head?==some 45 with
    | true =>
     rw [Bool.not_true,cond_false,cat_ok (by omega),oB,cat_ok (by simp only [List.length_append,List.length_cons,List.length_nil] at hl1 ⊢;omega),oB,cat_ok (by simp only [List.length_append,List.length_cons,List.length_nil] at hl1 ⊢;omega),oB]
    | false =>
     rw [Bool.not_false,cond_true,cat_ok (by omega),oB,cat_ok (by simp only [List.length_append,List.length_cons,List.length_nil] at hl1 ⊢;omega),oB,cat_ok (by simp only [List.length_append,List.length_cons,List.length_nil] at hl1 ⊢;omega),oB]
     simp
 ·cases h
def A99:Ty99:=fun n w f e K=>if w.length≤1000000∧f.length≤1000000∧e.length≤1000000000 then K (makeD n w f e).1.kind (makeD n w f e).1.neg (makeD n w f e).1.d (makeD n w f e).1.e (makeD n w f e).2 else none
def A120:Ty120:=fun n w f e K=>if w.length≤1000000∧f.length≤1000000∧e.length≤1000000000 then K (makeD n w f e).1.kind (makeD n w f e).1.neg (makeD n w f e).1.d (makeD n w f e).1.e (makeD n w f e).2 else none
theorem isD_two (s:B):isD s=(!(s==[])&&s.all dg):=rfl
theorem eq99 (hC:∀ key e t,C key e t=t e) (n:Bool) (w f e:B) (K:Tk99) (r:Out) (h:A99 n w f e K=some r):run99 C A148 A149 A150 A151 A152 A153 big n w f e K=some r:=by
 unfold A99 at h
 split at h
 ·rename_i hl
  obtain ⟨hw,hf,he⟩:=hl
  have hal:(w++f).length≤2000000:=by rw [List.length_append];omega
  have htl:=trimR_len (w++f)
  have e149:∀ k,A149 (w++f) k=k ((w++f).all dg):=fun k=>if_pos (by omega)
  have e150:∀ k,A150 e k=k (good e):=fun k=>if_pos (by omega)
  have e151:∀ k,A151 (w++f) [48] k=k (Lib.trimRightB (w++f) 48):=fun k=>if_pos ⟨by decide,by omega⟩
  have e152:∀ m k,A152 e m k=k (addN e m):=fun m k=>if_pos (by omega)
  have e148:∀ k,A148 (Lib.trimRightB (w++f) 48) [48] k=k (dropZ (Lib.trimRightB (w++f) 48)):=fun k=>A148_0 (by omega)
  rw [← h,run99_eq,cat_ok (by omega),oB,e149,e150]
  simp only [p1_99_eq _ _ _ _ _ _ _ hC,e151,e152,e148]
  unfold makeD
  rw [isD_two]
  cases w++f==[] with
  | true=>rfl
  | false =>
   cases (w++f).all dg with
   | false=>rfl
   | true =>
    cases good e with
    | false=>rfl
    | true =>
     simp only [cond_false,Bool.not_true,Bool.not_false,Bool.and_self]
     have hlen:(w++f).length=w.length+f.length:=List.length_append
     rw [i64_in (n:=((w++f).length:Int) - _) (by omega) (by omega),i64_in (by omega) (by omega)]
     cases dropZ (Lib.trimRightB (w++f) 48)<;>rfl
 ·cases h
theorem trimR_rev (l:B):Lib.trimRightB l.reverse 48=(dropZ l).reverse:=by
 unfold Lib.trimRightB
 rw [List.reverse_reverse,← trimLeft_dropZ]
 rfl
theorem cut_init (c:UInt8) (l:B) (hl:l.length≤2000000):cut (c :: l).reverse none (some (i64.wrap (((c :: l).reverse.length:Int) - 1)))=some l.reverse:=by
 have e:i64.wrap (((c :: l).reverse.length:Int) - 1)=((l.length:Nat):Int):=by
  rw [List.length_reverse,List.length_cons,i64_in (by omega) (by omega)];omega
 rw [e]
 unfold cut
 rw [if_pos (by simp;omega)]
 simp
theorem loop120c (hC:∀ key e t,C key e t=t e) {n:Bool} {f e:B} {K:Tk120} (kk:Nat) (v80:Int) (v81:Bool) (v82 v83:B) (m:Int) (he:e.length≤1000000000) (hm:i64.wrap (m - (f.length:Int))=m - (f.length:Int)):∀ (l:B) (j:Nat),l.length<j →
  l3_120 C A174 A176 A177 kk j n f e v80 v81 v82 v83 l m K=(match dropZ l with
   | []=>K 0 n [48] [48] true
   | c :: t=>K 0 n (c :: t) (addN e (m - (f.length:Int))) true)
 | [],j,hj=>by
  obtain ⟨j,rfl⟩:∃ i,j=i+1:=⟨j - 1,by omega⟩
  rw [l3_120_eq _ _ _ _ hC]
  rfl
 | c :: l,j,hj=>by
  obtain ⟨j,rfl⟩:∃ i,j=i+1:=⟨j - 1,by omega⟩
  have e177:∀ m k,A177 e m k=k (addN e m):=fun m k=>if_pos he
  have ih:=loop120c hC (n:=n) (K:=K) kk v80 v81 v82 v83 m he hm l j (by simp at hj;omega)
  have h1:decide (((c :: l).length:Int) > 0)=true:=dT (by simp only [List.length_cons];omega)
  rw [l3_120_eq _ _ _ _ hC,h1,cond_true,at0,oB,cut1,oB,ih,eq48]
  cases hc:c==48 with
  | true =>
   have:dropZ (c :: l)=dropZ l:=by
    conv=>lhs;unfold dropZ
    rw [hc]
   rw [this];rfl
  | false =>
   have hne:c ≠ 48:=by simpa using hc
   rw [dropZ_id hne,cond_false]
   have:(c :: l==([]:B))=false:=rfl
   rw [this,cond_false,e177,hm]
theorem loop120b (hC:∀ key e t,C key e t=t e) {n:Bool} {f e:B} {K:Tk120} (kk:Nat) (v80:Int) (v81:Bool) (v82 v83:B):∀ (l:B) (j:Nat) (m:Int),l.length<j→l.length≤2000000→0≤m→m+l.length≤4000000 →
  l2_120 C A174 A176 A177 kk j n f e v80 v81 v82 v83 l.reverse m K=l3_120 C A174 A176 A177 kk kk n f e v80 v81 v82 v83 (dropZ l).reverse (m+((l.length:Int) - ((dropZ l).length:Int))) K
 | [],j,m,hj,_,_,_=>by
  obtain ⟨j,rfl⟩:∃ i,j=i+1:=⟨j - 1,by omega⟩
  rw [l2_120_eq _ _ _ _ hC]
  have:m+((([]:B).length:Int) - ((dropZ []).length:Int))=m:=by simp [dropZ]
  rw [this]
  rfl
 | c :: l,j,m,hj,hl,h0,h1=>by
  obtain ⟨j,rfl⟩:∃ i,j=i+1:=⟨j - 1,by omega⟩
  simp only [List.length_cons] at hj hl h1
  have hlast:at? (c :: l).reverse (i64.wrap (((c :: l).reverse.length:Int) - 1))=some c:=by
   rw [at_last (by simp) (by simp;omega),List.getLast?_reverse];rfl
  have hpos:decide (((c :: l).reverse.length:Int) > 0)=true:=dT (by simp only [List.length_reverse,List.length_cons];omega)
  rw [l2_120_eq _ _ _ _ hC,hpos,cond_true,hlast,oB,eq48,cut_init c l (by omega),oB]
  cases hc:c==48 with
  | true =>
   have ed:dropZ (c :: l)=dropZ l:=by
    conv=>lhs;unfold dropZ
    rw [hc]
   rw [cond_true,i64_in (by omega) (by omega),loop120b hC kk v80 v81 v82 v83 l j (m+1) (by omega) (by omega) (by omega) (by omega),ed]
   congr 1
   simp only [List.length_cons]
   omega
  | false =>
   have hne:c ≠ 48:=by simpa using hc
   rw [cond_false,dropZ_id hne]
   congr 1
   omega
theorem eq120 (hC:∀ key e t,C key e t=t e) (n:Bool) (w f e:B) (K:Tk120) (r:Out) (h:A120 n w f e K=some r):run120 C A174 A176 A177 big n w f e K=some r:=by
 unfold A120 at h
 split at h
 ·rename_i hl
  obtain ⟨hw,hf,he⟩:=hl
  have hlen:(w++f).length=w.length+f.length:=List.length_append
  have e174:∀ k,A174 (w++f) k=k (isD (w++f)):=fun k=>if_pos (by omega)
  have e176:∀ k,A176 e k=k (good e):=fun k=>if_pos (by omega)
  rw [← h,run120_eq,cat_ok (by omega),oB,e174,e176]
  simp only [p1_120_eq _ _ _ _ hC]
  unfold makeD
  cases isD (w++f) with
  | false=>rfl
  | true =>
   cases good e with
   | false=>rfl
   | true =>
    simp only [cond_false,Bool.not_true,Bool.and_self]
    have hb:=loop120b hC (n:=n) (f:=f) (e:=e) (K:=K) big 0 false [] [] (w++f).reverse big 0 (by unfold big;simp;omega) (by simp;omega) (by omega) (by simp;omega)
    rw [List.reverse_reverse,← trimR_rev,List.reverse_reverse] at hb
    have htl:=trimR_len (w++f)
    have hdl:(dropZ (w++f).reverse).length=(Lib.trimRightB (w++f) 48).length:=by
     have:=trimR_rev (w++f).reverse
     rw [List.reverse_reverse] at this
     rw [this,List.length_reverse]
    rw [cat_ok (by omega),oB,hb,hdl,List.length_reverse,Int.zero_add,loop120c hC big 0 false [] [] _ he (i64_in (by omega) (by omega)) _ big (by unfold big;omega)]
    cases dropZ (Lib.trimRightB (w++f) 48)<;>rfl
 ·cases h
end Go.Proofs.YtffmgholjdfcnaaGreatDoor
