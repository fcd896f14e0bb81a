import Derived.Test.YtffmgholjdfcnaaGreatDoorYSStG
set_option linter.unusedSimpArgs false
set_option linter.unusedVariables false
namespace Go.Proofs.YtffmgholjdfcnaaGreatDoor
open Go AM St
open Go.IntKind (i64 u8)
variable {C:Nat→Env→(Env→Option Out)→Option Out}
def fromClock (y m d:Int):Option (Int × Int × Int × B × Int)→B × Bool
 | none=>([],false)
 | some (h,mi,sec,fr,z)=>match okMo ⟨y,m,d,h,mi,sec,fr,z⟩ with
  | false=>([],false)
  | true=>match okY (putM ⟨y,m,d,h,mi,sec,fr,z⟩) with
   | true=>(text (putM ⟨y,m,d,h,mi,sec,fr,z⟩) sec fr,true)
   | false=>([],false)
def A127:Ty127:=fun s k y m d K=>if 0≤k∧k≤s.length∧s.length≤1099511627776∧0≤y∧y≤9999∧1≤d∧d≤days y m then
 K (fromClock y m d (clock (s.drop k.toNat))).1 (fromClock y m d (clock (s.drop k.toNat))).2 else none
theorem cut_both (s:B) (a b:Nat) (h:a≤b) (hb:b≤s.length):cut s (some (a:Int)) (some (b:Int))=some ((s.take b).drop a):=by
 unfold cut
 rw [if_pos]
 ·simp
 ·simp;omega
theorem cut_Pt {s l t:B} (hl:l <:+ s) (ht:t <:+ l):cut s (some (Pt s l)) (some (Pt s t))=some (l.take (l.length - t.length)):=by
 have h1:=hl.length_le
 have h2:=ht.length_le
 unfold Pt
 rw [cut_both s _ _ (by omega) (by omega),List.drop_take,suf_drop hl]
 congr 2
 omega
theorem trim_snoc (l:B) (c:UInt8):Lib.trimRightB (l++[c]) 48=match c==48 with | true=>Lib.trimRightB l 48 | false=>l++[c]:=by
 unfold Lib.trimRightB
 rw [List.reverse_append,List.reverse_singleton,List.singleton_append,List.dropWhile_cons]
 cases c==48 with
 | true=>rfl
 | false=>simp
section clock
variable (hC:∀ key e t,C key e t=t e) {s:B} (hs:s.length≤1099511627776) {K:Tk127} {y m d h mi sec:Int}
def fin24 (s:B) (K:Tk127) (y m d h mi sec c:Int) (fr:B):Option Out:=
 (A178 s c fun r14 r15=>(bif (!r15) then (K ([]:List UInt8) false) else (A179 y m d (i64.wrap ((i64.wrap ((i64.wrap ((60:Int) * h))+mi)) - r14)) fun r16 r17=>(bif (!r17) then (K ([]:List UInt8) false) else ((cat r16 ([58]:List UInt8)).bind fun s18=>(A180 sec fun r19=>((cat s18 r19).bind fun s20=>(bif (!(fr==([]:List UInt8))) then ((cat s20 ([46]:List UInt8)).bind fun s21=>((cat s21 fr).bind fun s22=>((cat s22 ([90]:List UInt8)).bind fun s32=>(K s32 true)))) else ((cat s20 ([90]:List UInt8)).bind fun s32=>(K s32 true))))))))))
include hC
theorem l4_24_ok (kk:Nat) (c:Int):∀ (n j:Nat) (fr:B),fr.length=n→n<j→n≤1099511627776→l4_127 C A92 A123 A124 A126 A178 A179 A180 kk j s y m d h mi sec c fr K=fin24 s K y m d h mi sec c (Lib.trimRightB fr 48)
 | 0,j,fr,hn,hj,_=>by
  obtain ⟨j,rfl⟩:∃ i,j=i+1:=⟨j - 1,by omega⟩
  have:fr=[]:=List.length_eq_zero_iff.1 hn
  subst this
  rw [l4_127_eq _ _ _ _ _ _ _ _ hC]
  simp only [p5_127_eq _ _ _ _ _ _ _ _ hC]
  rfl
 | n+1,j,fr,hn,hj,hN=>by
  obtain ⟨j,rfl⟩:∃ i,j=i+1:=⟨j - 1,by omega⟩
  obtain ⟨l,x,rfl⟩:∃ l x,fr=l++[x]:=by
   rcases List.eq_nil_or_concat fr with e | ⟨l,x,e⟩
   ·subst e;simp at hn
   ·exact ⟨l,x,e.trans (List.concat_eq_append)⟩
  simp at hn
  rw [l4_127_eq _ _ _ _ _ _ _ _ hC]
  have e1:((l++[x]).length:Int) > 0:=by simp only [List.length_append,List.length_singleton];omega
  have e2:i64.wrap (((l++[x]).length:Int) - 1)=(l.length:Int):=by rw [List.length_append,List.length_singleton,i64_in (by omega) (by omega)];omega
  have e3:at? (l++[x]) (l.length:Int)=some x:=by
   rw [at_ok rfl (by simp)];simp
  have e4:cut (l++[x]) none (some (l.length:Int))=some l:=by rw [cut_to _ _ l.length rfl (by simp)];simp
  simp only [e1,e2,e3,e4,decide_true,cond_true,oB,p5_127_eq _ _ _ _ _ _ _ _ hC]
  have f:((x.toNat:Int)==48)=(x==48):=byte_eq x 48
  rw [f,trim_snoc]
  cases x==48 with
  | true=>exact l4_24_ok kk c n j l hn (by omega) (by omega)
  | false=>rfl
include hs
theorem l2_24_ok (kk:Nat) (hkk:1099511627776<kk) {l6:B} (h6:l6 <:+ s):∀ (l:B) (j:Nat),l <:+ l6→l.length<j→l2_127 C A92 A123 A124 A126 A178 A179 A180 kk j s y m d h mi sec (Pt s l6) (Pt s l) K =
  fin24 s K y m d h mi sec (Pt s (behind [48,49,50,51,52,53,54,55,56,57] l)) (Lib.trimRightB (l6.take (l6.length - (behind [48,49,50,51,52,53,54,55,56,57] l).length)) 48):=by
 have stop:∀ l:B,l <:+ l6→((cut s (some (Pt s l6)) (some (Pt s l))).bind fun s10=>(p3_127 C A92 A123 A124 A126 A178 A179 A180 kk s y m d h mi sec (Pt s l) s10 K))=fin24 s K y m d h mi sec (Pt s l) (Lib.trimRightB (l6.take (l6.length - l.length)) 48):=by
  intro l hl
  have h1:=h6.length_le
  rw [cut_Pt h6 hl,oB,p3_127_eq _ _ _ _ _ _ _ _ hC,l4_24_ok hC kk _ (l6.take (l6.length - l.length)).length kk _ rfl (by simp;omega) (by simp;omega)]
 intro l
 induction l with
 | nil =>
  intro j hl hj
  obtain ⟨j,rfl⟩:∃ i,j=i+1:=⟨j - 1,by omega⟩
  have e1:¬ Pt s []<(s.length:Int):=by unfold Pt;simp
  rw [l2_127_eq _ _ _ _ _ _ _ _ hC]
  simp only [e1,decide_false,cond_false]
  exact stop [] hl
 | cons c l ih =>
  intro j hl hj
  obtain ⟨j,rfl⟩:∃ i,j=i+1:=⟨j - 1,by omega⟩
  have hcs:c :: l <:+ s:=hl.trans h6
  have hle:=hcs.length_le
  have hl':l <:+ l6:=(List.suffix_cons c l).trans hl
  have e1:Pt s (c :: l)<(s.length:Int):=by unfold Pt;simp at hle ⊢;omega
  rw [l2_127_eq _ _ _ _ _ _ _ _ hC]
  simp only [e1,decide_true,cond_true,at_Pt hcs,oB]
  rw [A35_dg]
  have hd:=digits_contains c
  cases hc:dg c with
  | true =>
   have e2:behind [48,49,50,51,52,53,54,55,56,57] (c :: l)=behind [48,49,50,51,52,53,54,55,56,57] l:=by simp only [behind,hd,hc]
   rw [cond_true,Pt_cons hcs,i64_in (by have:=Pt_nn s l;omega) (by have:=Pt_le s l;omega),ih j hl' (by simp at hj;omega),e2]
  | false =>
   have e2:behind [48,49,50,51,52,53,54,55,56,57] (c :: l)=c :: l:=by simp only [behind,hd,hc]
   rw [cond_false,e2]
   exact stop (c :: l) hl
omit hC in
theorem fin24_ok (hb:0≤y∧y≤9999∧1≤d∧d≤days y m) (hh:0≤h∧h<24) (hm:0≤mi∧mi<60) (hsec:0≤sec∧sec<60) {l:B} (hl:l <:+ s) (fr:B) (hfr:fr.length≤s.length) :
  fin24 s K y m d h mi sec (Pt s l) fr=match zoneE l with
   | none=>K [] false
   | some z=>K (fromClock y m d (some (h,mi,sec,fr,z))).1 (fromClock y m d (some (h,mi,sec,fr,z))).2:=by
 obtain ⟨y0,y1,d0,d1⟩:=hb
 have hdm:=days_m (y:=y) (m:=m) (by omega)
 have hdb:=days_bd y m
 unfold fin24 A178
 rw [if_pos ⟨Pt_nn _ _,Pt_le _ _,hs⟩,Pt_drop hl]
 cases hz:zoneE l with
 | none=>rfl
 | some z =>
  have zb:=zoneE_bd hz
  simp only [Bool.not_true,cond_false]
  rw [i64_in (n:=60 * h) (by omega) (by omega),i64_in (n:=60 * h+mi) (by omega) (by omega),i64_in (n:=60 * h+mi - z) (by omega) (by omega)]
  unfold A179
  rw [if_pos (by omega)]
  have hok:okMo ⟨y,m,d,h,mi,sec,fr,z⟩=true:=by
   unfold okMo
   simp only [dT d0,dT d1,dT hh.2,dT hm.2,dT hsec.2,Bool.and_self]
  have e1:mv y m d (60 * h+mi - z)=putM ⟨y,m,d,h,mi,sec,fr,z⟩:=rfl
  rw [e1]
  unfold fromClock
  simp only [hok]
  cases hy:okY (putM ⟨y,m,d,h,mi,sec,fr,z⟩) with
  | false=>rfl
  | true =>
   simp only [Bool.not_true,cond_false]
   have hl10:(movT (putM ⟨y,m,d,h,mi,sec,fr,z⟩)).length=16:=by simp [movT,dayT,w4_len,w2_len]
   rw [cat_ok (by simp [hl10]),oB,A38_ok hsec.1 (by omega),cat_ok (by simp [hl10,w2_len]),oB]
   have e2:text (putM ⟨y,m,d,h,mi,sec,fr,z⟩) sec fr=movT (putM ⟨y,m,d,h,mi,sec,fr,z⟩)++tail sec fr:=rfl
   rw [e2]
   unfold tail
   cases fr with
   | nil =>
    have e0:(!(([]:B)==([]:B)))=false:=rfl
    simp only [e0,cond_false]
    rw [cat_ok (by simp [hl10,w2_len]),oB]
    simp only [List.append_assoc,List.nil_append]
   | cons a b =>
    have e0:(!((a :: b)==([]:B)))=true:=rfl
    simp only [e0,cond_true]
    rw [cat_ok (by simp [hl10,w2_len]),oB,cat_ok (by simp [hl10,w2_len] at hfr ⊢;omega),oB,cat_ok (by simp [hl10,w2_len] at hfr ⊢;omega),oB]
    simp only [List.append_assoc]
end clock
theorem eq127 (hC:∀ key e t,C key e t=t e) (s:B) (k y m d:Int) (K:Tk127) (r:Out) (hA:A127 s k y m d K=some r):run127 C A92 A123 A124 A126 A178 A179 A180 big s k y m d K=some r:=by
 unfold A127 at hA
 split at hA
 ·rename_i hc
  obtain ⟨k0,k1,hs,hb⟩:=hc
  have hsuf:=List.drop_suffix k.toNat s
  have e1:k=Pt s (s.drop k.toNat):=by unfold Pt;simp;omega
  rw [run127_eq,← hA]
  generalize s.drop k.toNat=l at hsuf e1
  subst e1
  have c1:((1:Nat):Int)=1:=rfl
  have c2:((2:Nat):Int)=2:=rfl
  have n1:decide ((-1:Int)<0)=true:=rfl
  have e12:=A21_at hsuf hs 1 2 (by omega)
  rw [c1,c2] at e12
  rw [e12]
  unfold clock
  cases q1:num 1 2 l with
  | none=>simp only [numK,n1,cond_true];rfl
  | some q =>
   obtain ⟨hh,s1⟩:=q
   have b1:=num_bd2 q1
   have hs1:s1 <:+ s:=(num_suf q1).trans hsuf
   simp only [numK,Pt_lt0,cond_false]
   have e22:=A22_at hs1 hs (of:=[58]) (by decide) 2 2 (by omega)
   rw [c2] at e22
   rw [e22]
   cases q2:sg [58] s1 with
   | none=>simp only [n1,cond_true];rfl
   | some q =>
    obtain ⟨x2,s2⟩:=q
    have hs2:s2 <:+ s:=(sg_suf q2).trans hs1
    simp only
    cases q3:num 2 2 s2 with
    | none=>simp only [numK,n1,cond_true];rfl
    | some q =>
     obtain ⟨mi,s3⟩:=q
     have b3:=num_bd2 q3
     have hs3:s3 <:+ s:=(num_suf q3).trans hs2
     simp only [numK,Pt_lt0,cond_false]
     have e33:=A22_at hs3 hs (of:=[58]) (by decide) 2 2 (by omega)
     rw [c2] at e33
     rw [e33]
     cases q4:sg [58] s3 with
     | none=>simp only [n1,cond_true];rw [p1_127_eq _ _ _ _ _ _ _ _ hC];rfl
     | some q =>
      obtain ⟨x4,s4⟩:=q
      have hs4:s4 <:+ s:=(sg_suf q4).trans hs3
      simp only
      cases q5:num 2 2 s4 with
      | none=>simp only [numK,n1,cond_true];rw [p1_127_eq _ _ _ _ _ _ _ _ hC];rfl
      | some q =>
       obtain ⟨sec,s5⟩:=q
       have b5:=num_bd2 q5
       have hs5:s5 <:+ s:=(num_suf q5).trans hs4
       simp only [numK,Pt_lt0,cond_false]
       have bad:¬ (hh<24∧mi<60∧sec<60)→K [] false=K (fromClock y m d (match zoneE (fracs s5).2 with | none=>none | some z=>some (hh,mi,sec,(fracs s5).1,z))).1 (fromClock y m d (match zoneE (fracs s5).2 with | none=>none | some z=>some (hh,mi,sec,(fracs s5).1,z))).2:=by
        intro hbad
        cases zoneE (fracs s5).2 with
        | none=>rfl
        | some z =>
         have:okMo ⟨y,m,d,hh,mi,sec,(fracs s5).1,z⟩=false:=by
          cases ho:okMo ⟨y,m,d,hh,mi,sec,(fracs s5).1,z⟩ with
          | false=>rfl
          | true=>have:=ok_bd ho;simp only at this;omega
         simp only [fromClock,this]
       by_cases g1:hh > 23
       ·simp only [g1,decide_true,cond_true]
        rw [p1_127_eq _ _ _ _ _ _ _ _ hC,cond_true]
        exact bad (by omega)
       ·by_cases g2:mi > 59
        ·simp only [g1,g2,decide_true,decide_false,cond_true,cond_false]
         rw [p1_127_eq _ _ _ _ _ _ _ _ hC,cond_true]
         exact bad (by omega)
        ·by_cases g3:sec > 59
         ·simp only [g1,g2,g3,decide_true,decide_false,cond_true,cond_false]
          rw [p1_127_eq _ _ _ _ _ _ _ _ hC,cond_true]
          exact bad (by omega)
         ·simp only [g1,g2,g3,decide_true,decide_false,cond_true,cond_false]
          rw [p1_127_eq _ _ _ _ _ _ _ _ hC,cond_false,A23_at hs5 hs (by decide)]
          unfold fracs
          cases q6:sg [46] s5 with
          | none =>
           have n0:decide ((-1:Int) > 0)=false:=rfl
           simp only [n0,cond_false]
           rw [p3_127_eq _ _ _ _ _ _ _ _ hC,l4_24_ok hC big _ 0 big [] rfl (big_gt (by omega)) (by omega)]
           have e0:Lib.trimRightB ([]:B) 48=[]:=rfl
           rw [e0,fin24_ok hs hb ⟨by omega,by omega⟩ ⟨by omega,by omega⟩ ⟨by omega,by omega⟩ hs5 [] (by simp)]
           cases zoneE s5<;>rfl
          | some q =>
           obtain ⟨x6,s6⟩:=q
           have hs6:s6 <:+ s:=(sg_suf q6).trans hs5
           have hlt:=sg_le q6
           have hle5:=hs5.length_le
           have hle6:=hs6.length_le
           have n0:decide (Pt s s6 > 0)=true:=dT (by unfold Pt;omega)
           simp only [n0,cond_true]
           rw [l2_24_ok hC hs big (big_gt (Nat.le_refl _)) hs6 s6 big (List.suffix_refl _) (big_gt (by omega))]
           have htr:=trim_le (s6.take (s6.length - (behind [48,49,50,51,52,53,54,55,56,57] s6).length)) 48
           rw [fin24_ok hs hb ⟨by omega,by omega⟩ ⟨by omega,by omega⟩ ⟨by omega,by omega⟩ ((behind_suf _ _).trans hs6) _ (by simp at htr ⊢;omega)]
           cases zoneE (behind [48,49,50,51,52,53,54,55,56,57] s6)<;>rfl
 ·cases hA
def A76:Ty76:=fun s K=>if s.length≤1099511627776 then K (ofT s).1 (ofT s).2 else none
theorem A24_at {s l:B} (hl:l <:+ s) (hs:s.length≤1099511627776) {y m d:Int} (hb:0≤y∧y≤9999∧1≤d∧d≤days y m) (K:Tk127):A127 s (Pt s l) y m d K=K (fromClock y m d (clock l)).1 (fromClock y m d (clock l)).2:=by
 unfold A127
 rw [if_pos ⟨Pt_nn _ _,Pt_le _ _,hs,hb⟩,Pt_drop hl]
theorem loop15 (hC:∀ key e t,C key e t=t e) {s:B} (hs:s.length≤1099511627776) {K:Tk76} {y m d:Int} (hb:0≤y∧y≤9999∧1≤d∧d≤days y m) (kk:Nat):∀ (l:B) (c:UInt8) (j:Nat),c :: l <:+ s→([32,9]:B).contains c=true→l.length+1<j →
  l2_76 C A123 A124 A125 A126 A127 kk j s y m d (Pt s (c :: l)) (-1) K=K (fromClock y m d (clock (behind [32,9] l))).1 (fromClock y m d (clock (behind [32,9] l))).2:=by
 have n1:decide ((-1:Int)<0)=true:=rfl
 have stop:∀ (l:B) (j:Nat) (b:Int),l <:+ s→0<j→l2_76 C A123 A124 A125 A126 A127 kk j s y m d b (Pt s l) K=K (fromClock y m d (clock l)).1 (fromClock y m d (clock l)).2:=by
  intro l j b hl hj
  obtain ⟨j,rfl⟩:∃ i,j=i+1:=⟨j - 1,by omega⟩
  rw [l2_76_eq _ _ _ _ _ _ hC]
  simp only [Pt_lt0,cond_false]
  rw [A24_at hl hs hb]
 intro l
 induction l with
 | nil =>
  intro c j h hc hj
  obtain ⟨j,rfl⟩:∃ i,j=i+1:=⟨j - 1,by omega⟩
  have hle:=h.length_le
  have hl:([]:B) <:+ s:=(List.suffix_cons c []).trans h
  have e1:Pt s [c]<(s.length:Int):=by unfold Pt;simp at hle ⊢;omega
  have e2:i64.wrap (Pt s [c]+1)=Pt s []:=by rw [Pt_cons h,i64_in (by have:=Pt_nn s [];omega) (by have:=Pt_le s [];omega)]
  have e3:(Pt s []==(s.length:Int))=true:=by rw [Pt_len hl];rfl
  rw [l2_76_eq _ _ _ _ _ _ hC]
  simp only [n1,e1,decide_true,cond_true,at_Pt h,oB,e2,e3]
  rw [blank_eq] at hc
  cases h32:((c.toNat:Int)==32) with
  | true=>simp only [cond_true];exact stop [] j _ hl (by omega)
  | false =>
   rw [h32,Bool.false_or] at hc
   simp only [hc,cond_true,cond_false]
   exact stop [] j _ hl (by omega)
 | cons a l ih =>
  intro c j h hc hj
  obtain ⟨j,rfl⟩:∃ i,j=i+1:=⟨j - 1,by omega⟩
  have hle:=h.length_le
  have hl:a :: l <:+ s:=(List.suffix_cons c (a :: l)).trans h
  have e1:Pt s (c :: a :: l)<(s.length:Int):=by unfold Pt;simp at hle ⊢;omega
  have e2:i64.wrap (Pt s (c :: a :: l)+1)=Pt s (a :: l):=by rw [Pt_cons h,i64_in (by have:=Pt_nn s (a :: l);omega) (by have:=Pt_le s (a :: l);omega)]
  have e3:(Pt s (a :: l)==(s.length:Int))=false:=by rw [Pt_len hl];simp
  have inner:(bif (((a.toNat:Int)) != 32) then (bif (((a.toNat:Int)) != 9) then (l2_76 C A123 A124 A125 A126 A127 kk j s y m d (Pt s (a :: l)) (Pt s (a :: l)) K) else (l2_76 C A123 A124 A125 A126 A127 kk j s y m d (Pt s (a :: l)) (-1) K)) else (l2_76 C A123 A124 A125 A126 A127 kk j s y m d (Pt s (a :: l)) (-1) K)) =
    K (fromClock y m d (clock (behind [32,9] (a :: l)))).1 (fromClock y m d (clock (behind [32,9] (a :: l)))).2:=by
   cases ha:([32,9]:B).contains a with
   | true =>
    have e5:behind [32,9] (a :: l)=behind [32,9] l:=by simp only [behind,ha]
    have h1:=ih a j hl ha (by simp at hj;omega)
    rw [h1,e5]
    rw [blank_eq] at ha
    cases g32:((a.toNat:Int)==32) with
    | true=>rw [bne,g32];rfl
    | false =>
     rw [g32,Bool.false_or] at ha
     rw [bne,bne,g32,ha];rfl
   | false =>
    have e5:behind [32,9] (a :: l)=a :: l:=by simp only [behind,ha]
    rw [blank_eq,Bool.or_eq_false_iff] at ha
    rw [e5,bne,bne,ha.1,ha.2]
    exact stop (a :: l) j _ hl (by omega)
  rw [l2_76_eq _ _ _ _ _ _ hC]
  simp only [n1,e1,decide_true,cond_true,at_Pt h,oB,e2,e3,cond_false,at_Pt hl]
  rw [blank_eq] at hc
  cases h32:((c.toNat:Int)==32) with
  | true=>simp only [cond_true];exact inner
  | false =>
   rw [h32,Bool.false_or] at hc
   simp only [hc,cond_true,cond_false]
   exact inner
theorem eq76 (hC:∀ key e t,C key e t=t e) (s:B) (K:Tk76) (r:Out) (h:A76 s K=some r):run76 C A123 A124 A125 A126 A127 big s K=some r:=by
 unfold A76 at h
 split at h
 ·rename_i hs
  rw [run76_eq,← h]
  have hs0:s <:+ s:=List.suffix_refl s
  have c0:Pt s s=0:=by unfold Pt;simp
  have c1:((1:Nat):Int)=1:=rfl
  have c2:((2:Nat):Int)=2:=rfl
  have c4:((4:Nat):Int)=4:=rfl
  have n1:decide ((-1:Int)<0)=true:=rfl
  have e44:=A21_at hs0 hs 4 4 (by omega)
  rw [c0,c4] at e44
  rw [e44]
  unfold ofT parse
  cases q1:num 4 4 s with
  | none=>simp only [numK,n1,cond_true]
  | some q =>
   obtain ⟨y,s1⟩:=q
   have b1:=num_bd4 q1
   have hs1:s1 <:+ s:=num_suf q1
   simp only [numK,Pt_lt0,cond_false]
   have e12:=A22_at hs1 hs (of:=[45]) (by decide) 1 2 (by omega)
   rw [c1,c2] at e12
   rw [e12]
   cases q2:sg [45] s1 with
   | none=>simp only [n1,cond_true]
   | some q =>
    obtain ⟨x2,s2⟩:=q
    have hs2:s2 <:+ s:=(sg_suf q2).trans hs1
    simp only
    cases q3:num 1 2 s2 with
    | none=>simp only [numK,n1,cond_true]
    | some q =>
     obtain ⟨mo,s3⟩:=q
     have hs3:s3 <:+ s:=(num_suf q3).trans hs2
     simp only [numK,Pt_lt0,cond_false]
     have e12:=A22_at hs3 hs (of:=[45]) (by decide) 1 2 (by omega)
     rw [c1,c2] at e12
     rw [e12]
     cases q4:sg [45] s3 with
     | none=>simp only [n1,cond_true];rw [p1_76_eq _ _ _ _ _ _ hC];rfl
     | some q =>
      obtain ⟨x4,s4⟩:=q
      have hs4:s4 <:+ s:=(sg_suf q4).trans hs3
      simp only
      cases q5:num 1 2 s4 with
      | none=>simp only [numK,n1,cond_true];rw [p1_76_eq _ _ _ _ _ _ hC];rfl
      | some q =>
       obtain ⟨d,s5⟩:=q
       have hs5:s5 <:+ s:=(num_suf q5).trans hs4
       simp only [numK,Pt_lt0,cond_false,A125]
       have bad:¬ (1≤d∧d≤days y mo)→∀ o:Option (Mo × Bool),(∀ m b,o=some (m,b)→m.y=y∧m.mo=mo∧m.d=d)→K [] false=K (match o with
         | none=>(([]:B),false)
         | some (m,date)=>match okMo m with
          | false=>([],false)
          | true=>match date with
           | true=>(s,true)
           | false=>match decide (0≤(putM m).1)&&decide ((putM m).1≤9999) with
            | true=>(text (putM m) m.s m.fr,true)
            | false=>([],false)).1 (match o with
         | none=>(([]:B),false)
         | some (m,date)=>match okMo m with
          | false=>([],false)
          | true=>match date with
           | true=>(s,true)
           | false=>match decide (0≤(putM m).1)&&decide ((putM m).1≤9999) with
            | true=>(text (putM m) m.s m.fr,true)
            | false=>([],false)).2:=by
        intro hbad o ho
        cases o with
        | none=>rfl
        | some q =>
         obtain ⟨m,b⟩:=q
         obtain ⟨g1,g2,g3⟩:=ho m b rfl
         have:okMo m=false:=by
          cases hk:okMo m with
          | false=>rfl
          | true=>have:=ok_bd hk;rw [g1,g2,g3] at this;omega
         simp only [this]
       have parts:∀ m b,(match s5 with
         | []=>(match decide (s2.length=5) with | true=>some ((⟨y,mo,d,0,0,0,[],0⟩:Mo),true) | false=>none)
         | _ :: _=>match gap s5 with
          | none=>none
          | some s6=>match clock s6 with
           | none=>none
           | some (h,mi,sec,fr,z)=>some (⟨y,mo,d,h,mi,sec,fr,z⟩,false))=some (m,b)→m.y=y∧m.mo=mo∧m.d=d:=by
        intro m b e
        split at e
        ·split at e
         ·cases e;exact ⟨rfl,rfl,rfl⟩
         ·cases e
        ·split at e
         ·cases e
         ·split at e
          ·cases e
          ·cases e;exact ⟨rfl,rfl,rfl⟩
       by_cases g1:d<1
       ·simp only [g1,decide_true,cond_true]
        rw [p1_76_eq _ _ _ _ _ _ hC,cond_true]
        exact bad (by omega) _ parts
       ·by_cases g2:d > days y mo
        ·simp only [g1,g2,decide_true,decide_false,cond_false]
         rw [p1_76_eq _ _ _ _ _ _ hC,cond_true]
         exact bad (by omega) _ parts
        ·simp only [g1,g2,decide_false,cond_false]
         rw [p1_76_eq _ _ _ _ _ _ hC,cond_false,Pt_len hs5]
         have hb:0≤y∧y≤9999∧1≤d∧d≤days y mo:=by omega
         cases s5 with
         | nil =>
          have e0:decide (([]:B)=[])=true:=rfl
          rw [e0,cond_true]
          simp only
          have hlen:(Pt s [] != (10:Int))=!decide (s2.length=5):=by
           have h4:=(num_some q1).2.2
           have hl1:=digs_len 4 0 s
           have hl2:=digs_cnt 4 0 s
           have hn:=(num_some q1).1
           have hn':¬ ((digs 4 0 s).2.2:Int)<((4:Nat):Int):=by simpa using hn
           have hse:=congrArg List.length (sg_mem q2).2
           simp at hse
           rw [h4] at hl1
           have e1:(Pt s []==(10:Int))=decide (s2.length=5):=by
            rw [Bool.eq_iff_iff]
            simp [Pt]
            omega
           rw [bne,e1]
          rw [hlen]
          have hok:okMo ⟨y,mo,d,0,0,0,[],0⟩=true:=by
           unfold okMo
           simp only [dT hb.2.2.1,dT hb.2.2.2,Bool.true_and]
           rfl
          cases decide (s2.length=5) with
          | true=>simp only [Bool.not_true,cond_false,hok]
          | false=>simp only [Bool.not_false,cond_true]
         | cons c5 l5 =>
          have e0:decide ((c5 :: l5)=([]:B))=false:=by simp
          rw [e0,cond_false]
          simp only
          rw [A23_at hs5 hs (by decide)]
          unfold gap
          cases q6:sg [84,116] (c5 :: l5) with
          | some q =>
           obtain ⟨x6,s6⟩:=q
           have hs6:s6 <:+ s:=(sg_suf q6).trans hs5
           obtain ⟨j,hj⟩:∃ j,big=j+1:=⟨big - 1,by have:=big_gt (n:=3) (by omega);omega⟩
           simp only
           generalize big=bg at hj ⊢
           subst hj
           rw [l2_76_eq _ _ _ _ _ _ hC]
           simp only [Pt_lt0,cond_false]
           rw [A24_at hs6 hs hb]
           cases clock s6<;>rfl
          | none =>
           simp only
           cases hbl:([32,9]:B).contains c5 with
           | true =>
            have e5:behind [32,9] (c5 :: l5)=behind [32,9] l5:=by simp only [behind,hbl]
            have hne:decide ((behind [32,9] (c5 :: l5)).length=(c5 :: l5).length)=false:=by
             rw [e5]
             have:=behind_len [32,9] l5
             exact dF (by simp;omega)
            have hle:=hs5.length_le
            simp only [List.length_cons] at hle
            rw [hne,loop15 hC hs hb big l5 c5 big hs5 hbl (big_gt (by omega)),e5]
            simp only
            cases clock (behind [32,9] l5)<;>rfl
           | false =>
            have e5:behind [32,9] (c5 :: l5)=c5 :: l5:=by simp only [behind,hbl]
            rw [e5]
            have e6:decide ((c5 :: l5).length=(c5 :: l5).length)=true:=by simp
            rw [e6]
            obtain ⟨j,hj⟩:∃ j,big=j+1:=⟨big - 1,by have:=big_gt (n:=3) (by omega);omega⟩
            generalize big=bg at hj ⊢
            subst hj
            rw [l2_76_eq _ _ _ _ _ _ hC]
            rw [blank_eq,Bool.or_eq_false_iff] at hbl
            have hle:=hs5.length_le
            have e7:Pt s (c5 :: l5)<(s.length:Int):=by unfold Pt;simp at hle ⊢;omega
            simp only [n1,e7,decide_true,cond_true,at_Pt hs5,oB,hbl.1,hbl.2,cond_false]
 ·cases h
end Go.Proofs.YtffmgholjdfcnaaGreatDoor
