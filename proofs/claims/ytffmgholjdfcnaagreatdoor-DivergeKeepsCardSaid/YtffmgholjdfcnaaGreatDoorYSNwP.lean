import Derived.Test.YtffmgholjdfcnaaGreatDoorYSNwJ
import Derived.Test.YtffmgholjdfcnaaGreatDoorYSNvH
import Derived.Test.YtffmgholjdfcnaaGreatDoorYSNwN
import Derived.Test.YtffmgholjdfcnaaGreatDoorYSNwC
import Derived.Test.YtffmgholjdfcnaaGreatDoorKSC
set_option linter.unusedSimpArgs false
set_option linter.unusedVariables false
namespace Go.Proofs.YtffmgholjdfcnaaGreatDoor
open Go AM St Nu
theorem decide_ok (plain:Bool) (tag x:B):(decideV plain tag x).2=(buildV 11 tag x plain).2:=by
 unfold decideV
 cases hX:(buildV 11 tag x plain).2 with
 | false=>rfl
 | true =>
  simp only [Bool.not_true,cond_false]
  cases (buildV 12 tag x plain).2&&((buildV 11 tag x plain).1==(buildV 12 tag x plain).1) with
  | true=>rfl
  | false =>
   simp only [cond_false]
   cases tag==[] with
   | true=>rfl
   | false=>cases (buildV 11 tag x plain).1.1==tNull<;>rfl
theorem build_same {tag:B} (h0:(tag==[])=false) (hn:needs tag=false) (x:B) (p:Bool):buildV 12 tag x p=buildV 11 tag x p:=by
 unfold buildV
 simp only [h0,hn,Bool.false_and,cond_false]
theorem plain_again {x:B} (hx:x.length≤10000) (h:(plainV 11 x).1=tBool∨(plainV 11 x).1=tInt∨(plainV 11 x).1=tFloat) (w:Int):plainV w (plainV 11 x).2=plainV 11 x:=by
 cases kind_of 11 x with
 | str e=>rw [e] at h;simp only at h;exact absurd h (by decide)
 | null e=>rw [e] at h;simp only at h;exact absurd h (by decide)
 | bool e=>rw [e];exact plain_bool _ w
 | int e h0 h1 h2=>rw [e];exact plain_good (int_good h2) w
 | float e h0 h1 h2 h3=>rw [e];exact plain_goodD (fl_good hx h3) w
 | time e=>rw [e] at h;simp only at h;exact absurd h (by decide)
theorem says {plain:Bool} {tag x:B} (hx:x.length≤10000) (hok:(buildV 11 tag x plain).2=true) (hk:(decideV plain tag x).1.1 ≠ 0) :
  ((decideV plain tag x).1=(1,quoteT x)∧tag=[]∧easy x=true∧buildV 11 tag x plain=((tStr,x),true)) ∨
  ((decideV plain tag x).1=(2,tagT)∧∃ y,buildV 11 tag x plain=((tTime,y),true)∧∀ w p,buildV w tTime x p=((tTime,y),true)) ∨
  ((decideV plain tag x).1.1=3∧(decideV plain tag x).1.2.length≤8 * x.length+40 * x.length+200∧∀ w,buildV w tag (decideV plain tag x).1.2 true=buildV 11 tag x plain):=by
 have hd:∀ q,decideV plain tag x=q→(decideV plain tag x).1=q.1:=fun q h=>by rw [h]
 cases hY:(buildV 12 tag x plain).2&&((buildV 11 tag x plain).1==(buildV 12 tag x plain).1) with
 | true =>
  refine absurd ?_ hk
  unfold decideV
  rw [hok,hY];rfl
 | false =>
  have hde:decideV plain tag x=(bif tag==[] then (bareV (buildV 11 tag x plain).1.1 (buildV 11 tag x plain).1.2 x,true)
    else bif (buildV 11 tag x plain).1.1==tNull then ((3,[110,117,108,108]),true) else ((3,(buildV 11 tag x plain).1.2),true)):=by
   unfold decideV
   rw [hok,hY];rfl
  rw [hde]
  clear hde hd hk
  cases ht0:tag==[] with
  | true =>
   have e:=eq_of_beq ht0
   subst e
   clear ht0
   cases plain with
   | false =>
    have e1:∀ v,buildV v [] x false=((tStr,x),true):=fun v=>rfl
    rw [e1,e1] at hY
    simp at hY
   | true =>
    have e1:∀ v,buildV v [] x true=(plainV v x,true):=fun v=>rfl
    rw [e1 11,e1 12] at hY
    rw [e1 11]
    have hne:plainV 11 x ≠ plainV 12 x:=by
     intro e
     rw [e] at hY
     simp at hY
    rw [cond_true]
    rcases bare_case hne with ⟨e,he⟩ | e | e
    ·refine .inl ⟨?_,rfl,he,by rw [e]⟩
     rw [e];rfl
    ·refine .inr (.inl ⟨?_,?_⟩)
     ·unfold bareV;rw [e];rfl
     ·cases kind_of 11 x with
      | str e2=>rw [e2] at e;simp only at e;exact absurd e (by decide)
      | null e2=>rw [e2] at e;simp only at e;exact absurd e (by decide)
      | bool e2=>rw [e2] at e;simp only at e;exact absurd e (by decide)
      | int e2=>rw [e2] at e;simp only at e;exact absurd e (by decide)
      | float e2=>rw [e2] at e;simp only at e;exact absurd e (by decide)
      | time e2 h0 h1 h2 h3 h4 h5 =>
       refine ⟨(ofT x).1,by rw [e2],fun w p=>buildV_yes (by decide) ?_⟩
       rw [ty_time]
       exact Prod.ext rfl h5
    ·have hl:=plainV_len 11 x
     have hb:bareV (plainV 11 x).1 (plainV 11 x).2 x=(3,(plainV 11 x).2):=by
      unfold bareV
      rcases e with e | e | e<;>rw [e]<;>rfl
     refine .inr (.inr ⟨by rw [hb],by rw [hb];simp only;omega,fun w=>?_⟩)
     rw [hb]
     show buildV w [] (plainV 11 x).2 true=_
     rw [show buildV w [] (plainV 11 x).2 true=(plainV w (plainV 11 x).2,true) from rfl,plain_again hx e]
  | false =>
   cases hn:needs tag with
   | false =>
    rw [build_same ht0 hn,hok] at hY
    simp at hY
   | true =>
    have hy:typedB 11 tag x=((typedB 11 tag x).1,true):=by
     refine Prod.ext rfl ?_
     rw [buildV_needs hn] at hok
     cases h:(typedB 11 tag x).2 with
     | true=>rfl
     | false=>rw [h] at hok;cases hok
    have hb:=buildV_yes (p:=plain) hn hy
    have hl:=typed_len (v:=11) (s:=x) hn
    rw [hb]
    simp only [cond_false]
    refine .inr (.inr ?_)
    cases hnl:tag==tNull with
    | true =>
     have e:=eq_of_beq hnl
     subst e
     refine ⟨rfl,by simp only [cond_true,List.length_cons,List.length_nil];omega,fun w=>?_⟩
     simp only [cond_true]
     have:(typedB 11 tNull x).1=[]:=by rw [ty_null]
     rw [this]
     refine buildV_yes (by decide) ?_
     rw [ty_null]
     rfl
    | false =>
     refine ⟨rfl,by simp only [cond_false];omega,fun w=>?_⟩
     simp only [cond_false]
     exact buildV_yes hn (typed_own hx hn (by rw [hy]) w)
end Go.Proofs.YtffmgholjdfcnaaGreatDoor
set_option linter.unusedSimpArgs false
set_option linter.unusedVariables false
namespace Go.Proofs.YtffmgholjdfcnaaGreatDoor
open Go AM St Nu
open Go.IntKind (i64 u8)
variable {C:Nat→Env→(Env→Option Out)→Option Out}
def mid (t:B):B:=(t.drop 1).dropLast
theorem mid_quote (x:B):mid (quoteT x)=x:=by
 unfold mid quoteT
 rw [List.append_assoc]
 show (x++[34]).dropLast=x
 exact List.dropLast_concat
def A57:Ty57:=fun s i K=>K (match at? s i with | some c=>(c==32) || (c==9) | none=>false)
theorem at_none {s:B} {i:Int} (h:¬ (0≤i∧i<s.length)):at? s i=none:=by
 unfold at?
 split
 ·exact List.getElem?_eq_none (by omega)
 ·rfl
theorem eq57 (s:B) (i:Int) (K:Tk57):run57 C big s i K=A57 s i K:=by
 rw [run57_eq]
 unfold A57
 by_cases h0:i ≥ 0
 ·by_cases h1:i<(s.length:Int)
  ·obtain ⟨b,hb⟩:=at_some h0 h1
   have b32:=eqB 32 (n:=32) rfl b
   have b9:=eqB 9 (n:=9) rfl b
   rw [dT h0,dT h1,cond_true,cond_true,hb,oB,oB,b32,b9]
   simp only
   cases b==32<;>rfl
  ·rw [dT h0,dF h1,cond_true,cond_false,at_none (by omega)]
 ·rw [dF h0,cond_false,at_none (by omega)]
def A52b:Ty52:=fun v s i K=>if v=12∧s.length≤1000000 then (match at? s i with | some c=>bif (c==13) || (c==10) then none else K 0 | none=>none) else none
theorem eq52b (hC:∀ key e t,C key e t=t e) (v:Int) (s:B) (i:Int) (K:Tk52) (r:Out) (h:A52b v s i K=some r):run52 C A51 big v s i K=some r:=by
 unfold A52b at h
 split at h
 ·rename_i hc
  obtain ⟨hv,hs⟩:=hc
  cases hb:at? s i with
  | none=>rw [hb] at h;cases h
  | some b =>
   rw [hb] at h
   simp only at h
   have hi:0≤i∧i<s.length:=by
    by_cases hi:0≤i∧i<s.length
    ·exact hi
    ·rw [at_none hi] at hb;cases hb
   have b13:=eqB 13 (n:=13) rfl b
   have b10:=eqB 10 (n:=10) rfl b
   cases h13:b==13 with
   | true=>rw [h13] at h;cases h
   | false =>
    cases h10:b==10 with
    | true=>rw [h13,h10] at h;cases h
    | false =>
     rw [h13,h10] at h
     have h':K 0=some r:=h
     subst hv
     rw [run52_eq,← h',dF (show ¬ i<0 by omega),cond_false,dF (show ¬ i ≥ (s.length:Int) by omega),p1_52_eq _ _ hC,cond_false,hb,oB,b13,h13,cond_false,p2_52_eq _ _ hC,cond_false,hb,oB,b10,h10,cond_false,oB,b13,h13,p3_52_eq _ _ hC,cond_false]
     rfl
 ·cases h
def A36:Ty36:=fun v t i K=>if v=12∧i=0∧t=quoteT (mid t)∧easy (mid t)=true∧t.length≤20000 then K (mid t) (t.length:Int) 0 0 else none
theorem ints_back (l:B):(l.map nI).map (fun n=>UInt8.ofNat n.toNat)=l:=by
 rw [List.map_map]
 conv=>rhs;rw [← List.map_id l]
 refine List.map_congr_left fun c _=>?_
 exact ofNat_nI c
theorem loop36d (hC:∀ key e t,C key e t=t e) {N53:Ty53} {N54:Ty54} {N55:Ty55} {N56:Ty56} {N58:Ty58} {t:B} {v2:Int} (ht:t.length≤20000) (K:Tk36) (kk:Nat):∀ (x out:B) (j:Nat),x++[34] <:+ t→x.all easyC=true→x.length<j→out.length+x.length≤20000 →
  l2_36 C A52b N53 N54 N55 N56 A57 N58 kk j 12 t v2 0 0 (out.map nI) (Pt t (x++[34])) K=K (out++x) (t.length:Int) 0 0
 | [],out,j,h,ha,hj,ho=>by
  obtain ⟨j,rfl⟩:∃ i,j=i+1:=⟨j - 1,by omega⟩
  have e:((34:UInt8).toNat:Int)=34:=rfl
  rw [List.nil_append] at h ⊢
  rw [l2_36_eq _ _ _ _ _ _ _ _ hC,dT (Pt_lt h),cond_true,at_Pt h,oB,e,show ((34:Int)==34)=true from rfl,cond_true,Pt_succ h (by omega),Pt_end,List.append_nil,ints_back]
 | c :: x,out,j,h,ha,hj,ho=>by
  obtain ⟨j,rfl⟩:∃ i,j=i+1:=⟨j - 1,by omega⟩
  rw [List.all_cons,Bool.and_eq_true] at ha
  rw [List.cons_append] at h ⊢
  have hl:x++[34] <:+ t:=(List.suffix_cons c _).trans h
  have hbe:=easyC_bdI ha.1
  simp only [List.length_cons] at hj ho
  have ih:=loop36d hC (N53:=N53) (N54:=N54) (N55:=N55) (N56:=N56) (N58:=N58) (v2:=v2) ht K kk x (out++[c]) j hl ha.2 (by omega) (by rw [List.length_append];simp;omega)
  have n34:((c.toNat:Int)==34)=false:=by simpa using hbe.2.2.1
  have n92:((c.toNat:Int)==92)=false:=by simpa using hbe.2.2.2
  have m32:(c==32)=false:=by
   rw [← eqB 32 (n:=32) rfl c]
   show ((c.toNat:Int)==32)=false
   simp;omega
  have m9:(c==9)=false:=by
   rw [← eqB 9 (n:=9) rfl c]
   show ((c.toNat:Int)==9)=false
   simp;omega
  have m13:(c==13)=false:=by
   rw [← eqB 13 (n:=13) rfl c]
   show ((c.toNat:Int)==13)=false
   simp;omega
  have m10:(c==10)=false:=by
   rw [← eqB 10 (n:=10) rfl c]
   show ((c.toNat:Int)==10)=false
   simp;omega
  have e57:∀ k,A57 t (Pt t (c :: (x++[34]))) k=k false:=by
   intro k
   unfold A57
   rw [at_Pt h]
   simp only [m32,m9]
   rfl
  have e52:∀ k,A52b 12 t (Pt t (c :: (x++[34]))) k=k 0:=by
   intro k
   unfold A52b
   rw [if_pos ⟨rfl,by omega⟩,at_Pt h]
   simp only [m13,m10]
   rfl
  have hd:decide ((out.map nI++([(c.toNat:Int)]:List Int)).length≤1099511627776)=true:=dT (by rw [List.length_append,List.length_map];simp;omega)
  have hm:out.map nI++([(c.toNat:Int)]:List Int)=(out++[c]).map nI:=by rw [List.map_append];rfl
  rw [l2_36_eq _ _ _ _ _ _ _ _ hC,dT (Pt_lt h),cond_true,at_Pt h,oB,n34,cond_false,oB,n92,cond_false,oB,n92,cond_false,e57,cond_false,e52,show decide ((0:Int) > 0)=false from rfl,cond_false,oB,hd,cond_true,hm,Pt_succ h (by omega),ih,List.append_assoc]
  rfl
theorem eq36 (hC:∀ key e t,C key e t=t e) {N53:Ty53} {N54:Ty54} {N55:Ty55} {N56:Ty56} {N58:Ty58} (v:Int) (t:B) (i:Int) (K:Tk36) (r:Out) (h:A36 v t i K=some r):run36 C A52b N53 N54 N55 N56 A57 N58 big v t i K=some r:=by
 unfold A36 at h
 split at h
 ·rename_i hc
  obtain ⟨hv,hi,ht,he,hl⟩:=hc
  subst hv;subst hi
  rw [← h]
  clear h
  generalize mid t=x at ht he
  have ht2:t=34 :: (x++[34]):=by rw [ht];rfl
  have hsuf:x++[34] <:+ t:=by rw [ht2];exact List.suffix_cons _ _
  have hlen:t.length=x.length+2:=by rw [ht2];simp
  have h0:at? t 0=some 34:=by rw [ht2];rfl
  have hp:Pt t (x++[34])=1:=by unfold Pt;rw [hlen,List.length_append];simp only [List.length_cons,List.length_nil];omega
  have:=loop36d hC (N53:=N53) (N54:=N54) (N55:=N55) (N56:=N56) (N58:=N58) (v2:=0) hl K big x [] big hsuf he (by unfold big;omega) (by simp;omega)
  rw [hp] at this
  rw [run36_eq,dF (show ¬ (0:Int)<0 by decide),cond_false,dF (show ¬ (0:Int) ≥ (t.length:Int) by omega),cond_false,h0,oB,p1_36_eq _ _ _ _ _ _ _ _ hC]
  exact this
 ·cases h
def A37:Ty37:=fun t i K=>if t=tagT∧i=0 then K true [] tTime 30 true else none
theorem loop37d (hC:∀ key e t,C key e t=t e) {N60:Ty60} {N61:Ty61} {K:Tk37} (kk:Nat):∀ (l:B) (j:Nat),l++[62,32] <:+ tagT→l.all signR=true→l.length<j→(l=[]→True) →
  l3_37 C A59 N60 N61 kk j tagT false [] [] 1 (Pt tagT (l++[62,32])) K=K true [] tTime 30 true
 | [],j,h,ha,hj,_=>by
  obtain ⟨j,rfl⟩:∃ i,j=i+1:=⟨j - 1,by omega⟩
  rw [List.nil_append] at h ⊢
  have e:((62:UInt8).toNat:Int)=nI 62:=rfl
  have s62:signR 62=false:=by decide +kernel
  have hp:Pt tagT [62,32]=29:=by decide +kernel
  have hl:(tagT.length:Int)=31:=by decide +kernel
  have hcut:cut tagT (some 2) (some 29)=some tTime:=by decide +kernel
  have hat:at? tagT 29=some 62:=by decide +kernel
  rw [l3_37_eq _ _ _ _ hC,hp,hl,dT (show (29:Int)<31 by decide),cond_true,hat,oB,e,A59_ok,s62,cond_false,show ((29:Int)==i64.wrap (1+1))=false from rfl,cond_false,show ((29:Int)==31)=false from rfl,cond_false,oB,show (((62:UInt8).toNat:Int) != 62)=false from rfl,p5_37_eq _ _ _ _ hC,cond_false,show i64.wrap ((1:Int)+1)=2 from rfl,hcut,oB]
  rfl
 | c :: l,j,h,ha,hj,_=>by
  obtain ⟨j,rfl⟩:∃ i,j=i+1:=⟨j - 1,by omega⟩
  rw [List.all_cons,Bool.and_eq_true] at ha
  rw [List.cons_append] at h ⊢
  have hl:l++[62,32] <:+ tagT:=(List.suffix_cons c _).trans h
  simp only [List.length_cons] at hj
  have ih:=loop37d hC (N60:=N60) (N61:=N61) (K:=K) kk l j hl ha.2 (by omega) (fun _=>trivial)
  have e:(c.toNat:Int)=nI c:=rfl
  rw [l3_37_eq _ _ _ _ hC,dT (Pt_lt h),cond_true,at_Pt h,oB,e,A59_ok,ha.1,cond_true,Pt_succ h (by decide),ih]
theorem eq37 (hC:∀ key e t,C key e t=t e) {N60:Ty60} {N61:Ty61} (t:B) (i:Int) (K:Tk37) (r:Out) (h:A37 t i K=some r):run37 C A59 N60 N61 big t i K=some r:=by
 unfold A37 at h
 split at h
 ·rename_i hc
  obtain ⟨ht,hi⟩:=hc
  subst ht;subst hi
  rw [← h]
  clear h
  have hl:(tagT.length:Int)=31:=by decide +kernel
  have h0:at? tagT 0=some 33:=by decide +kernel
  have h1:at? tagT 1=some 60:=by decide +kernel
  have hp:Pt tagT (tTime++[62,32])=2:=by decide +kernel
  have lp:=loop37d hC (N60:=N60) (N61:=N61) (K:=K) big tTime big ⟨[33,60],rfl⟩ (by decide +kernel) (by decide) (fun _=>trivial)
  rw [hp] at lp
  rw [run37_eq,hl,dF (show ¬ (0:Int)<0 by decide),cond_false,dF (show ¬ (0:Int) ≥ 31 by decide),cond_false,h0,oB,p1_37_eq _ _ _ _ hC,show (((33:UInt8).toNat:Int) != 33)=false from rfl,cond_false,hl,show i64.wrap ((0:Int)+1)=1 from rfl,dT (show (1:Int)<31 by decide),cond_true,h1,oB,p2_37_eq _ _ _ _ hC,show (((60:UInt8).toNat:Int)==60)=true from rfl,cond_true]
  exact lp
 ·cases h
def A38:Ty38:=fun v h s K=>bif v then K s true else none
theorem eq38 (v:Bool) (a s:B) (K:Tk38) (r:Out) (h:A38 v a s K=some r):run38 C big v a s K=some r:=by
 cases v with
 | true=>rw [run38_eq];exact h
 | false=>cases h
def A11:Ty11:=fun plain s k seed K=>if (0≤k∧k≤255)∧(∀ x,x ∈ seed→0≤x∧x≤255) then K true else none
theorem back11 (hC:∀ key e t,C key e t=t e) (kk j:Nat) {plain bare v77:Bool} {tag own t:B} {a:B × B} {X:List B} {i how:Int} {K:Tk11} (hi:0≤i∧i<2) (ht:t.length≤10000) (ho:own.length≤10000)
  (h12:buildV 12 own t bare=(a,true)) (h11:buildV 11 own t bare=(a,true)) :
  p3_11 C A26 A29 A30 A31 A32 A34 A35r A36 A37 A38 kk j plain tag t a.1 a.2 own bare X 2 i how v77 K=l2_11 C A26 A29 A30 A31 A32 A34 A35r A36 A37 A38 kk j plain tag X 2 (i+1) K:=by
 rw [p3_11_eq _ _ _ _ _ _ _ _ _ _ _ hC,A26_ok ht ho,A26_ok ht ho,A34_ok ht ho,h12,h11,surv_same h11 h12,i64_in (by omega) (by omega)]
 simp only [beq_self_eq_true,Bool.not_true,Bool.and_true,cond_false]
theorem step11 (hC:∀ key e t,C key e t=t e) (kk j:Nat) {plain:Bool} {tag x:B} {i i':Int} {X:List B} {K:Tk11} (htag:tag.length≤100) (hx:x.length≤100) (hX:X.length=2) (hi:0≤i∧i<2) (hw:X[i.toNat]?=some x) (hi':i'=i+1) :
  l2_11 C A26 A29 A30 A31 A32 A34 A35r A36 A37 A38 kk (j+1) plain tag X 2 i K=l2_11 C A26 A29 A30 A31 A32 A34 A35r A36 A37 A38 kk j plain tag X 2 i' K:=by
 subst hi'
 have hb:(decide (0≤i)&&decide (i<(X.length:Int)))=true:=by rw [hX,dT hi.1,dT (show i<((2:Nat):Int) by omega)];rfl
 have ew:i64.wrap (i+1)=i+1:=i64_in (by omega) (by omega)
 rw [l2_11_eq _ _ _ _ _ _ _ _ _ _ _ hC,dT hi.2,cond_true,hb,cond_true,hw,oB,A32_ok (by omega) (by omega),A26_ok (by omega) (by omega),decide_ok,ew,beq_self_eq_true,Bool.not_true,cond_false]
 cases hok:(buildV 11 tag x plain).2 with
 | false=>rfl
 | true =>
  rw [Bool.not_true,cond_false]
  by_cases hk:(decideV plain tag x).1.1=0
  ·rw [hk];rfl
  ·have hk0:((decideV plain tag x).1.1==0)=false:=by simpa using hk
   have h11:buildV 11 tag x plain=((buildV 11 tag x plain).1,true):=Prod.ext rfl hok
   rw [hk0,cond_false]
   rcases says (by omega) hok hk with ⟨hd,htg,he,ha⟩ | ⟨hd,y,ha,hall⟩ | ⟨hd,hl,hall⟩
   ·rw [hd,ha,htg]
    simp only
    have e36:∀ k,A36 12 (quoteT x) 0 k=k x ((quoteT x).length:Int) 0 0:=by
     intro k
     have hql:(quoteT x).length≤20000:=by unfold quoteT;simp;omega
     have h2:A36 12 (quoteT x) 0 k=k (mid (quoteT x)) ((quoteT x).length:Int) 0 0:=if_pos ⟨rfl,rfl,by rw [mid_quote],by rw [mid_quote];exact he,hql⟩
     rw [h2,mid_quote]
    rw [show ((1:Int)==1)=true from rfl,cond_true,e36,show ((0:Int) != 0)=false from rfl,cond_false]
    have hne:(((quoteT x).length:Int) != ((quoteT x).length:Int))=false:=by simp
    rw [hne,cond_false]
    exact back11 hC kk j (a:=(tStr,x)) hi (by omega) (by simp) rfl rfl
   ·rw [hd,ha]
    simp only
    have e37:∀ k,A37 tagT 0 k=k true [] tTime 30 true:=fun k=>if_pos ⟨rfl,rfl⟩
    have hl:(tagT.length:Int)=31:=by decide +kernel
    have e38:∀ k,A38 true [] tTime k=k tTime true:=fun k=>rfl
    rw [show ((2:Int)==1)=false from rfl,cond_false,show ((2:Int)==2)=true from rfl,cond_true,e37,hl,Bool.not_true,cond_false,show ((30:Int) != i64.wrap (31 - 1))=false from rfl,cond_false,e38]
    exact back11 hC kk j (a:=(tTime,y)) hi (by omega) (by decide) (hall 12 plain) (hall 11 plain)
   ·have hb1:=hall 12
    have hb2:=hall 11
    rw [hd,show ((3:Int)==1)=false from rfl,cond_false,show ((3:Int)==2)=false from rfl,cond_false]
    exact back11 hC kk j hi (by omega) (by omega) (hb1.trans h11) (hb2.trans h11)
theorem eq11 (hC:∀ key e t,C key e t=t e) (plain:Bool) (s:B) (k:Int) (seed:List Int) (K:Tk11) (r:Out) (h:A11 plain s k seed K=some r):run11 C A26 A29 A30 A31 A32 A34 A35r A36 A37 A38 big plain s k seed K=some r:=by
 unfold A11 at h
 split at h
 ·rename_i hc
  obtain ⟨hk,hb⟩:=hc
  have e29:∀ k,A29 k=k true:=fun k=>rfl
  rw [← h,run11_eq,e29]
  simp only [p1_11_eq _ _ _ _ _ _ _ _ _ _ _ hC,Bool.not_true,cond_false]
  by_cases h1:(s.length:Int) > 60
  ·rw [dT h1];rfl
  ·by_cases h3:(seed.length:Int) > 8
   ·rw [dF h1,dT h3];rfl
   ·have e35:∀ k',A35r s k'=k' (wellV s):=fun k'=>if_pos (by omega)
    rw [dF h1,dF h3,cond_false,cond_false,e35]
    cases wellV s with
    | false=>rfl
    | true =>
     have hsl:=someB_len seed
     have e30:∀ k',A30 k k'=k' (name30 k):=fun k'=>if_pos hk
     have e31:∀ k,A31 seed k=k (someB seed):=fun k=>if_pos ⟨hb,by omega⟩
     have hnl:=name30_len k
     rw [Bool.not_true,cond_false,e30,e31]
     obtain ⟨m,hm⟩:∃ m,big=m+3:=⟨big - 3,by unfold big;omega⟩
     have key:∀ kk,l2_11 C A26 A29 A30 A31 A32 A34 A35r A36 A37 A38 kk (m+3) plain (name30 k) [s,someB seed] 2 0 K=K true:=by
      intro kk
      rw [step11 hC kk (m+2) (i':=1) (x:=s) (by omega) (by omega) rfl ⟨by omega,by omega⟩ rfl rfl,step11 hC kk (m+1) (i':=2) (x:=someB seed) (by omega) (by omega) rfl ⟨by omega,by omega⟩ rfl rfl,l2_11_eq _ _ _ _ _ _ _ _ _ _ _ hC,dF (by decide),cond_false]
     rw [← hm] at key
     exact key big
 ·cases h
end Go.Proofs.YtffmgholjdfcnaaGreatDoor
