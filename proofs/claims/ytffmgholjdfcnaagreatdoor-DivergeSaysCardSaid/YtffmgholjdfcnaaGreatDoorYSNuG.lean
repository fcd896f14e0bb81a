import Derived.Test.YtffmgholjdfcnaaGreatDoorYSNuF
namespace Go.Proofs.YtffmgholjdfcnaaGreatDoor.Nu
open Go St
theorem contains_hd {L:List B} (hL:(L.all fun x=>match x with | []=>true | d :: _=>decide (65≤d.toNat))=true) {c:UInt8} (hc:c.toNat<65) (l:B):L.contains (c :: l)=false:=by
 rw [List.contains_eq_any_beq,List.any_eq_false]
 intro x hx e
 have e:=eq_of_beq e
 subst e
 have:=List.all_eq_true.1 hL _ hx
 simp at this
 omega
theorem noNull {c:UInt8} (hc:c.toNat<65) (l:B):nulls.contains (c :: l)=false:=contains_hd (by decide) hc l
theorem noWord {c:UInt8} (hc:c.toNat<65) (l:B) (v:Int):boolW v (c :: l)=(false,false):=by
 unfold boolW
 rw [contains_hd (L:=yes12) (by decide) hc,contains_hd (L:=no12) (by decide) hc,contains_hd (L:=yes11) (by decide) hc,contains_hd (L:=no11) (by decide) hc]
 cases v==11<;>rfl
theorem dg_lt {c:UInt8} (h:dg c=true):c.toNat<65:=by unfold dg at h;simp at h;omega
theorem norm_pos {c:UInt8} {l:B} (h:c ≠ 48) (ha:(c :: l).all dg=true):norm false (c :: l)=c :: l:=by
 unfold norm
 rw [isD_of ha (by simp),dropZ_id h]
theorem norm_neg {c:UInt8} {l:B} (h:c ≠ 48) (ha:(c :: l).all dg=true):norm true (c :: l)=45 :: c :: l:=by
 unfold norm
 rw [isD_of ha (by simp),dropZ_id h]
theorem dg_isS {c:UInt8} (h:dg c=true):isS c=false:=by unfold isS;rw [dg_not h (by decide),dg_not h (by decide)];rfl
theorem unsign_dg {c:UInt8} (h:dg c=true) (l:B):unsign (c :: l)=(false,c :: l):=by
 show (match isS c with | true=>(c==45,l) | false=>(false,c :: l))=_
 rw [dg_isS h]
theorem tailU_dgs:∀ {l:B},l.all dg=true→∀ t,tailU (l++t)=tailU t
 | [],_,t=>rfl
 | c :: l,h,t=>by
  rw [List.all_cons,Bool.and_eq_true] at h
  rw [List.cons_append,tailU_yes (dg_dgU h.1),tailU_dgs h.2 t]
theorem tailU_row {l:B} (h:l.all dg=true):tailU l=[]:=by have:=tailU_dgs h [];rwa [List.append_nil,tailU_nil] at this
theorem good_split {a:B} (h:good a=true):∃ neg c l,a=sgB neg++(c :: l)∧(c :: l).all dg=true∧dg c=true∧unsign a=(neg,c :: l)∧bare a=(neg,c :: l)∧norm neg (c :: l)=a∧(c=48→l=[]∧neg=false):=by
 rcases good_cases h with rfl | ⟨c,l,rfl,h1,h2,h3⟩ | ⟨c,l,rfl,h1,h2⟩
 ·exact ⟨false,48,[],rfl,rfl,rfl,rfl,rfl,rfl,fun _=>⟨rfl,rfl⟩⟩
 ·have hc:dg c=true:=by rw [List.all_cons,Bool.and_eq_true] at h3;exact h3.1
  exact ⟨false,c,l,rfl,h3,hc,unsign_dg hc l,bare_no (by simpa using h2),norm_pos h1 h3,fun e=>absurd e h1⟩
 ·have hc:dg c=true:=by rw [List.all_cons,Bool.and_eq_true] at h2;exact h2.1
  exact ⟨true,c,l,rfl,h2,hc,rfl,rfl,norm_neg h1 h2,fun e=>absurd e h1⟩
theorem int11_good {a:B} (h:good a=true):∃ k,int11 a=(a,k)∧(k==0)=false:=by
 obtain ⟨neg,c,l,e,ha,hc,hu,-,hn,h0⟩:=good_split h
 unfold int11
 rw [hu]
 simp only
 cases h48:c==48 with
 | true =>
  obtain ⟨rfl,rfl⟩:=h0 (eq_of_beq h48)
  rw [eq_of_beq h48] at e
  exact ⟨4,by rw [e];rfl,rfl⟩
 | false =>
  have hl:l.all dg=true:=by rw [List.all_cons,Bool.and_eq_true] at ha;exact ha.2
  rw [hc,tailU_row hl]
  simp only
  rw [noU_id ha,hn]
  exact ⟨5,rfl,rfl⟩
theorem int12_good {a:B} (h:good a=true):int12 a=a:=by
 obtain ⟨neg,c,l,e,ha,hc,hu,-,hn,h0⟩:=good_split h
 have e2:norm (unsign a).1 (unsign a).2=a:=by rw [hu];exact hn
 cases neg with
 | true =>
  have e:a=45 :: c :: l:=e
  subst e
  exact e2
 | false =>
  have e:a=c :: l:=e
  subst e
  unfold int12
  cases l with
  | nil=>exact e2
  | cons d l =>
   have hd:dg d=true:=by rw [List.all_cons,List.all_cons,Bool.and_eq_true,Bool.and_eq_true] at ha;exact ha.2.1
   simp only
   rw [dg_not hd (x:=111) (by decide),dg_not hd (x:=120) (by decide),Bool.and_false]
   exact e2
theorem good_ne {a:B} (h:good a=true):(a==[])=false:=by
 obtain ⟨neg,c,l,e,-⟩:=good_split h
 subst e
 cases neg<;>rfl
theorem good_hd {a:B} (h:good a=true):∃ c l,a=c :: l∧c.toNat<65:=by
 obtain ⟨neg,c,l,e,-,hc,-⟩:=good_split h
 subst e
 cases neg with
 | true=>exact ⟨45,c :: l,rfl,by decide⟩
 | false=>exact ⟨c,l,rfl,dg_lt hc⟩
theorem plain_good {a:B} (h:good a=true) (v:Int):plainV v a=(tInt,a):=by
 obtain ⟨c,l,e,hc⟩:=good_hd h
 have h1:nulls.contains a=false:=by rw [e];exact noNull hc l
 have h2:boolW v a=(false,false):=by rw [e];exact noWord hc l v
 have h3:numV v a=((tInt,a),true):=by
  have:intV v a=(a,true):=by
   unfold intV
   cases v==11 with
   | true=>obtain ⟨k,e1,e2⟩:=int11_good h;simp only;rw [e1,e2];rfl
   | false=>simp only;rw [int12_good h,good_ne h];rfl
  unfold numV
  rw [this]
 unfold plainV
 rw [h1,h2,h3]
theorem dc_dv {c:UInt8} (h:dg c=true):dc (dv c)=c:=by
 have:=dv_bd h
 unfold dc dv at *
 apply UInt8.toNat_inj.1
 rw [UInt8.toNat_ofNat']
 have:=c.toNat_lt
 omega
theorem mulR_id:∀ {d:B},d.all dg=true→mulR 1 0 d=(d,0)
 | [],_=>rfl
 | c :: l,h=>by
  rw [List.all_cons,Bool.and_eq_true] at h
  have hb:=dv_bd h.1
  have e:mulR 1 0 (c :: l)=mulStep 1 c (mulR 1 0 l):=rfl
  rw [e,mulR_id h.2]
  unfold mulStep
  simp only [Int.zero_add,Int.mul_one]
  rw [Int.emod_eq_of_lt hb.1 (by omega),dc_dv h.1,Int.ediv_eq_zero_of_lt hb.1 (by omega)]
theorem mulAdd_id {d:B} (h:isD d=true):mulAdd d 1 0=norm false d:=by
 obtain ⟨h1,h2⟩:=isD_all h
 unfold mulAdd
 rw [mulR_id h1]
 have e:Lib.itoa (d,(0:Int)).2=[48]:=by
  show Lib.itoa 0=[48]
  unfold Lib.itoa
  rw [if_neg (by decide),Lib.decDigits,dif_pos (by decide)]
  rfl
 rw [e]
 exact norm_zero h2
theorem addN_zero {a:B} (h:good a=true):addN a 0=a:=by
 obtain ⟨neg,c,l,e,ha,hc,-,hb,hn,h0⟩:=good_split h
 unfold addN
 rw [h,hb]
 have e1:(true&&decide (-stepMax≤0)&&decide ((0:Int)≤stepMax))=true:=by decide
 rw [e1]
 have e2:negIf neg 0=0:=by cases neg<;>rfl
 simp only
 rw [e2]
 unfold addS
 have e3:decide ((0:Int)≤0)=true:=by decide
 rw [e3]
 simp only
 rw [mulAdd_id (isD_of ha (by simp))]
 by_cases h48:c=48
 ·obtain ⟨rfl,rfl⟩:=h0 h48
  subst h48
  rw [← hn]
  rfl
 ·rw [norm_pos h48 ha,hn]
theorem makeD_own {neg:Bool} {c:UInt8} {l e:B} (ha:(c :: l).all dg=true) (he:good e=true) (h:(c=48∧l=[]∧e=[48])∨(c ≠ 48∧(c :: l).getLast? ≠ some 48)):makeD neg (c :: l) [] e=(⟨0,neg,c :: l,e⟩,true):=by
 unfold makeD
 rw [List.append_nil,isD_of ha (by simp),he]
 simp only [Bool.and_self]
 rcases h with ⟨rfl,rfl,rfl⟩ | ⟨h1,h2⟩
 ·rfl
 ·have e1:Lib.trimRightB (c :: l) 48=c :: l:=by
   unfold Lib.trimRightB
   cases hr:(c :: l).reverse with
   | nil=>simp at hr
   | cons x t =>
    have hx:(c :: l).getLast?=some x:=by rw [List.getLast?_eq_head?_reverse,hr];rfl
    have:(x==48)=false:=by
     cases hb:x==48 with
     | false=>rfl
     | true=>rw [eq_of_beq hb] at hx;exact absurd hx h2
    rw [List.dropWhile_cons,this]
    simp only [Bool.false_eq_true,if_false]
    rw [← hr,List.reverse_reverse]
  rw [e1,dropZ_id h1]
  simp only
  have e2:(((c :: l).length:Int) - ((c :: l).length:Int) - (([]:B).length:Int))=0:=by simp
  rw [e2,addN_zero he]
theorem tw_dgs:∀ {l:B},l.all dg=true→∀ t,tw 46 (l++46 :: t)=l∧dw 46 (l++46 :: t)=46 :: t
 | [],_,t=>⟨tw_hit 46 t,dw_hit 46 t⟩
 | c :: l,h,t=>by
  rw [List.all_cons,Bool.and_eq_true] at h
  have ⟨h1,h2⟩:=tw_dgs h.2 t
  rw [List.cons_append,tw_miss (dg_46 h.1),dw_miss (dg_46 h.1),h1,h2]
  exact ⟨rfl,rfl⟩
theorem row_dgs:∀ {l:B},l.all dg=true→∀ t,(l++46 :: t).takeWhile dg=l∧(l++46 :: t).dropWhile dg=46 :: t
 | [],_,t=>⟨rfl,rfl⟩
 | c :: l,h,t=>by
  rw [List.all_cons,Bool.and_eq_true] at h
  have ⟨h1,h2⟩:=row_dgs h.2 t
  rw [List.cons_append,List.takeWhile_cons,List.dropWhile_cons,h.1]
  simp [h1,h2]
def expB (e:B):B:=match e.head?==some 45 with | true=>e | false=>43 :: e
theorem tailE_own {e:B} (he:good e=true) (loose:Bool):tailE loose (101 :: expB e)=some e:=by
 obtain ⟨neg,c,l,h,ha,hc,hu,-,hn,h0⟩:=good_split he
 have hD:isD (c :: l)=true:=isD_of ha (by simp)
 have h2:signed (expB e)=true∧unsign (expB e)=(neg,c :: l):=by
  cases neg with
  | true =>
   have h:e=45 :: c :: l:=h
   subst h
   exact ⟨rfl,rfl⟩
  | false =>
   have h:e=c :: l:=h
   subst h
   have h45:(some c==some (45:UInt8))=false:=by
    have:=dg_not hc (x:=45) (by decide)
    simpa using this
   unfold expB
   rw [List.head?_cons,h45]
   exact ⟨rfl,rfl⟩
 unfold tailE
 simp only
 rw [h2.1,h2.2,hD,hn,Bool.or_true]
 rfl
theorem printD_fin {neg:Bool} {d e:B} (h:goodD ⟨0,neg,d,e⟩=true):printD ⟨0,neg,d,e⟩=sgB neg++(d++46 :: 101 :: expB e):=by
 unfold printD
 rw [h]
 have e1:((0:Int)==2)=false:=rfl
 have e2:((0:Int)==1)=false:=rfl
 simp only [e1,e2]
 unfold expB
 cases e.head?==some 45<;>simp
theorem goodD_cases {x:De} (h:goodD x=true):x=⟨1,x.neg,[],[]⟩∨x=⟨2,false,[],[]⟩∨∃ c l e,x=⟨0,x.neg,c :: l,e⟩∧(c :: l).all dg=true∧good e=true∧((c=48∧l=[]∧e=[48])∨(c ≠ 48∧(c :: l).getLast? ≠ some 48)):=by
 obtain ⟨k,neg,d,e⟩:=x
 unfold goodD at h
 simp only [Bool.or_eq_true,Bool.and_eq_true,beq_iff_eq,Bool.not_eq_true'] at h
 rcases h with ((⟨⟨rfl,rfl⟩,rfl⟩ | ⟨⟨rfl,rfl⟩,rfl⟩) | ⟨⟨⟨rfl,rfl⟩,rfl⟩,rfl⟩) | ⟨⟨⟨⟨rfl,hd⟩,h1⟩,h2⟩,h3⟩
 ·exact .inr (.inr ⟨48,[],[48],rfl,rfl,rfl,.inl ⟨rfl,rfl,rfl⟩⟩)
 ·exact .inl rfl
 ·exact .inr (.inl rfl)
 ·obtain ⟨ha,hn⟩:=isD_all hd
  cases d with
  | nil=>exact absurd rfl hn
  | cons c l =>
   refine .inr (.inr ⟨c,l,e,rfl,ha,h3,.inr ⟨?_,?_⟩⟩)
   ·simpa using h1
   ·simpa using h2
theorem odd_dg {c:UInt8} (h:c ≠ 46) (l:B) (neg sgn:Bool):odd (c :: l) neg sgn=none:=by
 have h':∀ t:B,((c :: l)==46 :: t)=false:=by
  intro t
  cases e:(c :: l)==46 :: t with
  | false=>rfl
  | true=>have:=eq_of_beq e;cases this;exact absurd rfl h
 unfold odd isInf isNan
 simp only [h',Bool.or_self,Bool.false_and]
theorem plain_goodD {x:De} (h:goodD x=true) (v:Int):plainV v (printD x)=(tFloat,printD x):=by
 rcases goodD_cases h with e | e | ⟨c,l,e,hx,ha,he,hc⟩
 ·rw [e]
  cases x.neg<;>cases hv:v==11<;>(unfold plainV numV intV flV boolW;rw [hv];rfl)
 ·rw [e]
  cases hv:v==11<;>(unfold plainV numV intV flV boolW;rw [hv];rfl)
 ·obtain ⟨k,neg,d,e'⟩:=x
  simp only at hx
  cases hx
  have hdc:dg c=true:=by rw [List.all_cons,Bool.and_eq_true] at ha;exact ha.1
  have hl:l.all dg=true:=by rw [List.all_cons,Bool.and_eq_true] at ha;exact ha.2
  have hp:=printD_fin h
  obtain ⟨T,hT⟩:∃ T,printD ⟨0,neg,c :: l,e⟩=T:=⟨_,rfl⟩
  have e0:T=sgB neg++(c :: (l++46 :: 101 :: expB e)):=by rw [← hT,hp];rfl
  have hu:unsign T=(neg,c :: (l++46 :: 101 :: expB e)):=by
   rw [e0]
   cases neg with
   | true=>rfl
   | false=>exact unsign_dg hdc _
  have hs:signed T=neg:=by
   rw [e0]
   cases neg with
   | true=>rfl
   | false=>exact dg_isS hdc
  have hhd:∃ a t,T=a :: t∧a.toNat<65:=by
   rw [e0]
   cases neg with
   | true=>exact ⟨45,_,rfl,by decide⟩
   | false=>exact ⟨c,_,rfl,dg_lt hdc⟩
  have hodd:odd (unsign T).2 (unsign T).1 (signed T)=none:=by
   rw [hu,hs]
   exact odd_dg (fun e=>by rw [e] at hdc;exact absurd hdc (by decide)) _ _ _
  have ht:tailU (l++46 :: 101 :: expB e)=46 :: 101 :: expB e:=by rw [tailU_dgs hl];exact tailU_no dgU_46 _
  have hi11:(int11 T).2=0:=by
   unfold int11
   rw [hu]
   simp only
   cases h48:c==48 with
   | true =>
    have hl0:l=[]:=by
     rcases hc with ⟨-,h2,-⟩ | ⟨h1,-⟩
     ·exact h2
     ·exact absurd (eq_of_beq h48) h1
    subst hl0
    rfl
   | false =>
    rw [hdc,ht]
    rfl
  have hmk:makeD neg (c :: l) [] e=(⟨0,neg,c :: l,e⟩,true):=makeD_own ha he hc
  have hf11:fl11 T=(⟨0,neg,c :: l,e⟩,1):=by
   unfold fl11
   rw [hodd,hu]
   have ⟨t1,t2⟩:=tw_dgs ha (101 :: expB e)
   have t1:tw 46 (c :: (l++46 :: 101 :: expB e))=c :: l:=t1
   have t2:dw 46 (c :: (l++46 :: 101 :: expB e))=46 :: 101 :: expB e:=t2
   simp only
   rw [t1,t2]
   have t3:tailU (101 :: expB e)=101 :: expB e:=tailU_no (by decide) _
   have t4:(101 :: expB e).takeWhile dgU=[]:=by rw [List.takeWhile_cons];rfl
   simp only
   rw [t3,t4,tailE_own he,hdc,tailU_row hl]
   have t5:noU ([]:B)=[]:=rfl
   simp only [sixties_nil,Bool.and_self]
   rw [noU_id ha,t5,hmk]
  have hi12:int12 T=[]:=by
   have hn:norm (unsign T).1 (unsign T).2=[]:=by
    rw [hu]
    have:isD (c :: (l++46 :: 101 :: expB e))=false:=by
     unfold isD
     rw [← List.cons_append,List.all_append]
     have:(46 :: 101 :: expB e).all dg=false:=by rw [List.all_cons];rfl
     rw [this,Bool.and_false,Bool.and_false]
    unfold norm
    rw [this]
   have h2:∀ a b t,T=a :: b :: t→(a==48&&b==111)=false∧(a==48&&b==120)=false:=by
    intro a b t hh
    have hb:dg b=true∨b=46:=by
     rw [hh] at e0
     cases neg with
     | true =>
      have e0:a :: b :: t=45 :: c :: (l++46 :: 101 :: expB e):=e0
      cases e0
      exact .inl hdc
     | false =>
      have e0:a :: b :: t=c :: (l++46 :: 101 :: expB e):=e0
      cases l with
      | nil=>cases e0;exact .inr rfl
      | cons d l =>
       cases e0
       rw [List.all_cons,Bool.and_eq_true] at hl
       exact .inl hl.1
    rcases hb with hb | rfl
    ·rw [dg_not hb (x:=111) (by decide),dg_not hb (x:=120) (by decide),Bool.and_false];exact ⟨rfl,rfl⟩
    ·rw [show ((46:UInt8)==111)=false from rfl,show ((46:UInt8)==120)=false from rfl,Bool.and_false];exact ⟨rfl,rfl⟩
   unfold int12
   split
   ·rename_i a b t
    have ⟨q1,q2⟩:=h2 a b t rfl
    rw [q1,q2]
    exact hn
   ·exact hn
  have hf12:fl12 T=(⟨0,neg,c :: l,e⟩,true):=by
   unfold fl12
   rw [hodd,hi12,hu]
   have ⟨t1,t2⟩:=row_dgs ha (101 :: expB e)
   have t1:(c :: (l++46 :: 101 :: expB e)).takeWhile dg=c :: l:=t1
   have t2:(c :: (l++46 :: 101 :: expB e)).dropWhile dg=46 :: 101 :: expB e:=t2
   simp only
   rw [t1,t2]
   have t3:(101 :: expB e).dropWhile dg=101 :: expB e:=by rw [List.dropWhile_cons];rfl
   have t4:(101 :: expB e).takeWhile dg=[]:=by rw [List.takeWhile_cons];rfl
   simp only [beq_self_eq_true]
   rw [t3,t4,tailE_own he]
   exact hmk
  obtain ⟨a,t,hat,ha65⟩:=hhd
  have h1:nulls.contains T=false:=by rw [hat];exact noNull ha65 t
  have h2:boolW v T=(false,false):=by rw [hat];exact noWord ha65 t v
  have h3:numV v T=((tFloat,T),true):=by
   unfold numV intV flV
   cases v==11 with
   | true=>simp only;rw [hi11,hf11];simp only [beq_self_eq_true,Bool.not_true];rw [hT];rfl
   | false=>simp only;rw [hi12,hf12];simp only [beq_self_eq_true,Bool.not_true];rw [hT]
  unfold plainV
  rw [hT,h1,h2,h3]
end Go.Proofs.YtffmgholjdfcnaaGreatDoor.Nu
