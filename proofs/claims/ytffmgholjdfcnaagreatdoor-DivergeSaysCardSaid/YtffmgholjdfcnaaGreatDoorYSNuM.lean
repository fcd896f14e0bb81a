import Derived.Test.YtffmgholjdfcnaaGreatDoorYSNuL
import Derived.Test.YtffmgholjdfcnaaGreatDoorKSD
set_option linter.unusedSimpArgs false
set_option linter.unusedVariables false
namespace Go.Proofs.YtffmgholjdfcnaaGreatDoor
open Go AM St Nu
open Go.IntKind (i64 u8)
variable {C:Nat→Env→(Env→Option Out)→Option Out}
def A160:Ty160:=fun c K=>K (decide (48≤c)&&decide (c≤57))
theorem eq160 (c:Int) (K:Tk160):run160 C big c K=A160 c K:=by
 rw [run160_eq]
 unfold A160
 by_cases h:c ≥ 48
 ·rw [dT h];rfl
 ·rw [dF h];rfl
theorem A160_dg (c:UInt8) (K:Tk160):A160 (c.toNat:Int) K=K (dg c):=by
 unfold A160 dg
 congr 1
 congr 1
 ·exact decide_eq_decide.2 (by omega)
 ·exact decide_eq_decide.2 (by omega)
theorem tailU_suf (l:B):tailU l <:+ l:=List.dropWhile_suffix _
theorem row_cut {s:B}:cut s none (some (Pt s (tailU s)))=some (s.takeWhile dgU):=by
 have h:=tailU_le s
 have e:s.takeWhile dgU++tailU s=s:=List.takeWhile_append_dropWhile
 have hl:=congrArg List.length e
 rw [List.length_append] at hl
 unfold cut Pt
 rw [if_pos (by simp only [Option.getD_some,Option.getD_none];omega)]
 simp only [Option.getD_some,Option.getD_none,Int.toNat_natCast]
 have e2:s.length - (tailU s).length=(s.takeWhile dgU).length:=by omega
 rw [e2]
 have:=List.take_left (l₁:=s.takeWhile dgU) (l₂:=tailU s)
 rw [e] at this
 rw [this]
 rfl
def A161:Ty161:=fun s K=>if s.length≤1000000 then K (Pt s (tailU s)) else none
theorem loop161 (hC:∀ key e t,C key e t=t e) {s:B} (hs:s.length≤1000000) {K:Tk161} (kk:Nat):∀ (l:B) (j:Nat),l <:+ s→l.length<j→l1_161 C A160 kk j s (Pt s l) K=K (Pt s (tailU l))
 | [],j,h,hj=>by
  obtain ⟨j,rfl⟩:∃ i,j=i+1:=⟨j - 1,by omega⟩
  rw [l1_161_eq _ _ hC,Pt_end,dF (by omega),cond_false,tailU_nil,Pt_end]
 | c :: l,j,h,hj=>by
  obtain ⟨j,rfl⟩:∃ i,j=i+1:=⟨j - 1,by omega⟩
  have hl:l <:+ s:=(List.suffix_cons c l).trans h
  have ih:=loop161 hC hs (K:=K) kk l j hl (by simp at hj;omega)
  rw [l1_161_eq _ _ hC,dT (Pt_lt h),cond_true,at_Pt h,oB,oB,eqB 95 (n:=95) rfl,A160_dg,Pt_succ h (by omega),ih]
  cases hd:dgU c with
  | true =>
   rw [tailU_yes hd]
   unfold dgU at hd
   cases h95:c==95 with
   | true=>rfl
   | false=>rw [h95,Bool.false_or] at hd;rw [hd];rfl
  | false =>
   rw [tailU_no hd]
   unfold dgU at hd
   rw [Bool.or_eq_false_iff] at hd
   rw [hd.1,hd.2]
   rfl
theorem eq161 (hC:∀ key e t,C key e t=t e) (s:B) (K:Tk161) (r:Out) (h:A161 s K=some r):run161 C A160 big s K=some r:=by
 unfold A161 at h
 split at h
 ·rename_i hs
  have:=loop161 hC hs (K:=K) big s big (List.suffix_refl s) (by unfold big;omega)
  rw [Pt_zero] at this
  rw [run161_eq,this,h]
 ·cases h
def wordK (t:B) (sgn:Bool):Int:=match isInf t with | true=>4 | false=>match isNan t&&!sgn with | true=>5 | false=>0
def A159:Ty159:=fun t sgn K=>K (wordK t sgn)
theorem eq159 (hC:∀ key e t,C key e t=t e) (t:B) (sgn:Bool) (K:Tk159):run159 C big t sgn K=A159 t sgn K:=by
 rw [run159_eq]
 simp only [p1_159_eq _ hC,p2_159_eq _ hC,p3_159_eq _ hC]
 unfold A159 wordK isInf isNan
 cases t==([46,105,110,102]:B)<;>cases t==([46,73,110,102]:B)<;>cases t==([46,73,78,70]:B)<;>cases t==([46,110,97,110]:B)<;>cases t==([46,78,97,78]:B)<;>cases t==([46,78,65,78]:B)<;>cases sgn<;>rfl
def sx (s:B):Int:=match s with
 | []=>0
 | [_]=>0
 | [c,a]=>(match c==58&&dg a with | true=>2 | false=>0)
 | c :: a :: b :: _=>match c==58&&dg a with
  | false=>0
  | true=>match decide (a.toNat≤53)&&dg b with
   | true=>3
   | false=>2
def A162:Ty162:=fun s K=>K (sx s)
theorem eq162 (hC:∀ key e t,C key e t=t e) (s:B) (K:Tk162):run162 C A160 big s K=A162 s K:=by
 have hdg:∀ x:UInt8,dg x=(decide ((x.toNat:Int) ≥ 48)&&decide ((x.toNat:Int)≤57)):=fun x=>allU8 (P:=fun x=>dg x=(decide ((x.toNat:Int) ≥ 48)&&decide ((x.toNat:Int)≤57))) (by decide +kernel) x
 have h53:∀ x:UInt8,decide ((x.toNat:Int)≤53)=decide (x.toNat≤53):=fun x=>by apply decide_eq_decide.2;omega
 rw [run162_eq]
 simp only [p1_162_eq _ _ hC,p2_162_eq _ _ hC]
 unfold A162
 match s with
 | []=>rfl
 | [c]=>rfl
 | [c,a] =>
  have e1:decide ((([c,a]:B).length:Int) > 2)=false:=rfl
  have e2:decide ((([c,a]:B).length:Int) > 1)=true:=rfl
  have e3:at? ([c,a]:B) 1=some a:=rfl
  rw [e1,e2,e3,at0]
  simp only [oB,cond_true,cond_false,eqB 58 (n:=58) rfl,A160_dg]
  show _=K (match c==58&&dg a with | true=>2 | false=>0)
  cases c==58<;>cases dg a<;>rfl
 | c :: a :: b :: l =>
  have e1:decide (((c :: a :: b :: l).length:Int) > 2)=true:=dT (by simp only [List.length_cons];omega)
  have e2:decide (((c :: a :: b :: l).length:Int) > 1)=true:=dT (by simp only [List.length_cons];omega)
  have e3:at? (c :: a :: b :: l) 1=some a:=rfl
  have e4:at? (c :: a :: b :: l) 2=some b:=rfl
  have h557:decide (a.toNat≤53)=true→decide ((a.toNat:Int)≤57)=true:=by intro h;simp at h ⊢;omega
  rw [e1,e2,e3,e4,at0]
  simp only [oB,cond_true,cond_false,eqB 58 (n:=58) rfl,A160_dg,h53]
  show _=K (match c==58&&dg a with
   | false=>0
   | true=>match decide (a.toNat≤53)&&dg b with
    | true=>3
    | false=>2)
  rw [hdg a]
  cases h5:decide (a.toNat≤53) with
  | true=>rw [h557 h5];cases c==58<;>cases decide ((a.toNat:Int) ≥ 48)<;>cases dg b<;>rfl
  | false=>cases c==58<;>cases decide ((a.toNat:Int) ≥ 48)<;>cases decide ((a.toNat:Int)≤57)<;>cases dg b<;>rfl
theorem strip_sx (s:B):(sx s=0∧strip s=s)∨(0<sx s∧sx s≤3∧(sx s).toNat≤s.length∧strip s=strip (s.drop (sx s).toNat)∧∃ t,s=58 :: t):=by
 match s with
 | []=>exact .inl ⟨rfl,rfl⟩
 | [c]=>exact .inl ⟨rfl,rfl⟩
 | [c,a] =>
  have e1:sx [c,a]=(match c==58&&dg a with | true=>2 | false=>0):=rfl
  rw [e1,strip_2]
  cases h:c==58&&dg a with
  | false=>exact .inl ⟨rfl,rfl⟩
  | true =>
   rw [Bool.and_eq_true] at h
   rw [eq_of_beq h.1]
   exact .inr ⟨by decide,by decide,by simp,rfl,[a],rfl⟩
 | c :: a :: b :: l =>
  have e1:sx (c :: a :: b :: l)=(match c==58&&dg a with
   | false=>0
   | true=>match decide (a.toNat≤53)&&dg b with
    | true=>3
    | false=>2):=rfl
  rw [e1,strip_3]
  cases h:c==58&&dg a with
  | false=>exact .inl ⟨rfl,rfl⟩
  | true =>
   rw [Bool.and_eq_true] at h
   rw [eq_of_beq h.1]
   cases decide (a.toNat≤53)&&dg b with
   | true=>exact .inr ⟨by decide,by decide,by simp,rfl,a :: b :: l,rfl⟩
   | false=>exact .inr ⟨by decide,by decide,by simp,rfl,a :: b :: l,rfl⟩
abbrev Fo:=Int × Bool × B × B × B
def noFo:Fo:=(0,false,[],[],[])
def read11 (neg sgn:Bool) (t:B):Fo:=match decide (wordK t sgn > 0) with
 | true=>(wordK t sgn,neg,[],[],[48])
 | false=>match dw 46 t with
  | []=>noFo
  | _ :: rest=>match tailE false (tailU rest) with
   | none=>noFo
   | some exp=>match tw 46 t with
    | []=>(match noU (rest.takeWhile dgU) with
     | []=>noFo
     | _ :: _=>(2,neg,[],rest.takeWhile dgU,exp))
    | c :: w=>match dg c&&sixties (tailU w) with
     | false=>noFo
     | true=>match tailU w with
      | []=>(1,neg,c :: w,rest.takeWhile dgU,exp)
      | _ :: _=>match tailU rest with
       | []=>(3,neg,c :: w,rest.takeWhile dgU,exp)
       | _ :: _=>noFo
def A106:Ty106:=fun s K=>if s.length≤1000000 then K (read11 (unsign s).1 (signed s) (unsign s).2).1 (read11 (unsign s).1 (signed s) (unsign s).2).2.1 (read11 (unsign s).1 (signed s) (unsign s).2).2.2.1 (read11 (unsign s).1 (signed s) (unsign s).2).2.2.2.1 (read11 (unsign s).1 (signed s) (unsign s).2).2.2.2.2 else none
theorem norm_nil (neg:Bool) (s:B):(norm neg s==[])=!isD s:=by
 unfold norm
 cases isD s with
 | false=>rfl
 | true =>
  simp only
  cases dropZ s with
  | nil=>rfl
  | cons c l=>cases neg<;>rfl
theorem cut2 (x y:UInt8) (m:B):cut (x :: y :: m) (some (2:Int)) none=some m:=by
 unfold cut
 rw [if_pos (by simp only [Option.getD_some,Option.getD_none,List.length_cons];omega)]
 simp only [Option.getD_some,Option.getD_none,Int.toNat_natCast,List.take_length]
 rfl
theorem tailP {s:B} (hs:s.length≤1000000) (hn:s ≠ []) (ok:B→Option Out) (bad:Option Out) :
  (bif (decide ((s.length:Int)<3)) then bad else ((at? s 0).bind fun b18=>(bif ((b18.toNat:Int) != 101) then ((at? s 0).bind fun b19=>(bif ((b19.toNat:Int) != 69) then bad else ((at? s 1).bind fun b20=>(bif ((b20.toNat:Int) != 43) then ((at? s 1).bind fun b21=>(bif ((b21.toNat:Int) != 45) then bad else ((at? s 1).bind fun b22=>((cut s (some (2:Int)) none).bind fun s23=>(A96 ((b22.toNat:Int)==45) s23 fun r24=>(bif (!(r24==([]:BY))) then (ok r24) else bad)))))) else ((at? s 1).bind fun b25=>((cut s (some (2:Int)) none).bind fun s26=>(A96 ((b25.toNat:Int)==45) s26 fun r27=>(bif (!(r27==([]:BY))) then (ok r27) else bad)))))))) else ((at? s 1).bind fun b28=>(bif ((b28.toNat:Int) != 43) then ((at? s 1).bind fun b29=>(bif ((b29.toNat:Int) != 45) then bad else ((at? s 1).bind fun b30=>((cut s (some (2:Int)) none).bind fun s31=>(A96 ((b30.toNat:Int)==45) s31 fun r32=>(bif (!(r32==([]:BY))) then (ok r32) else bad)))))) else ((at? s 1).bind fun b33=>((cut s (some (2:Int)) none).bind fun s34=>(A96 ((b33.toNat:Int)==45) s34 fun r35=>(bif (!(r35==([]:BY))) then (ok r35) else bad)))))))))
  = (match tailE false s with | some e=>ok e | none=>bad):=by
 match s,hn with
 | [c],_ =>
  have e:tailE false [c]=none:=by
   show (match c==101 || c==69 with | false=>none | true=>match (false || signed [])&&isD (unsign []).2 with | true=>some (norm (unsign []).1 (unsign []).2) | false=>none)=none
   cases c==101 || c==69<;>rfl
  rw [e]
  rfl
 | [c,d],_ =>
  have e:tailE false [c,d]=none:=by
   show (match c==101 || c==69 with | false=>none | true=>match (false || signed [d])&&isD (unsign [d]).2 with | true=>some (norm (unsign [d]).1 (unsign [d]).2) | false=>none)=none
   have:((false || signed [d])&&isD (unsign [d]).2)=false:=by
    show (isS d&&isD (match isS d with | true=>(d==45,[]) | false=>(false,[d])).2)=false
    cases isS d<;>rfl
   rw [this]
   cases c==101 || c==69<;>rfl
  rw [e]
  rfl
 | c :: d :: x :: l,_ =>
  have e1:decide (((c :: d :: x :: l).length:Int)<3)=false:=dF (by simp only [List.length_cons];omega)
  have e2:at? (c :: d :: x :: l) 1=some d:=rfl
  have e96:∀ b k,A96 b (x :: l) k=k (norm b (x :: l)):=fun b k=>if_pos (by simp only [List.length_cons] at hs ⊢;omega)
  have hu:tailE false (c :: d :: x :: l)=(match c==101 || c==69 with | false=>none | true=>match isS d&&isD (match isS d with | true=>(d==45,x :: l) | false=>(false,d :: x :: l)).2 with | true=>some (norm (match isS d with | true=>(d==45,x :: l) | false=>(false,d :: x :: l)).1 (match isS d with | true=>(d==45,x :: l) | false=>(false,d :: x :: l)).2) | false=>none):=rfl
  rw [e1,cond_false,e2,at0,cut2,hu]
  simp only [oB,neB 101 (n:=101) rfl,neB 69 (n:=69) rfl,neB 43 (n:=43) rfl,neB 45 (n:=45) rfl,eqB 45 (n:=45) rfl,e96,norm_nil,Bool.not_not]
  unfold isS
  cases hc1:c==101<;>cases hc2:c==69<;>cases hd1:d==43<;>cases hd2:d==45<;>cases hD:isD (x :: l)<;>simp only [Bool.not_true,Bool.not_false,cond_true,cond_false,Bool.or_self,Bool.or_true,Bool.true_or,Bool.or_false,Bool.false_or,Bool.and_self,Bool.true_and,Bool.false_and,hD]
theorem trimB_nil (s:B):(Lib.trimB s 95==[])=(noU s==[]):=by
 unfold Lib.trimB Lib.trimLeftB Lib.trimRightB
 have h1:=trim_nil (p:=fun c:UInt8=>c==95) s
 have h2:(noU s==[])=s.all (fun c=>c==95):=by
  induction s with
  | nil=>rfl
  | cons c l ih =>
   cases h:c==95 with
   | true=>rw [eq_of_beq h,noU_hit,ih (trim_nil l)];simp
   | false=>rw [nil_noU h,List.all_cons,h];rfl
 rw [h2]
 exact h1
theorem A163_95 {s:B} (hs:s.length≤1000000) (K:Tk163):A163 s [95] K=K (Lib.trimB s 95):=if_pos ⟨by decide,by omega⟩
theorem row_len (s:B):(s.takeWhile dgU).length≤s.length:=(List.takeWhile_prefix _).length_le
section
variable {K:Tk106}
theorem g3_ok (hC:∀ key e t,C key e t=t e) (kk:Nat):∀ j,0<j→g3_106 C A96 A159 A160 A161 A162 A163 kk j 0 false [] [] [] K=K 0 false [] [] []
 | j+1,_=>by rw [g3_106_eq _ _ _ _ _ _ _ hC]
theorem g4_ok (hC:∀ key e t,C key e t=t e) (kk:Nat) {j:Nat} (hj:1<j) (neg:Bool) {l:B} (hl:l.length≤999999) :
  g4_106 C A96 A159 A160 A161 A162 A163 kk j (46 :: l) 0 false [] [] [] 2 neg [] [] [48] 0 K=(match tailE false (tailU l) with
   | none=>K 0 false [] [] []
   | some exp=>match noU (l.takeWhile dgU) with
    | []=>K 0 false [] [] []
    | _ :: _=>K 2 neg [] (l.takeWhile dgU) exp):=by
 obtain ⟨j,rfl⟩:∃ i,j=i+1:=⟨j - 1,by omega⟩
 have e0:cut (46 :: l) none (some (0:Int))=some []:=by unfold cut;rw [if_pos (by simp;omega)];rfl
 have e1:cut (46 :: l) (some (i64.wrap ((0:Int)+1))) none=some l:=cut1 46 l
 have e161:∀ k,A161 l k=k (Pt l (tailU l)):=fun k=>if_pos (by omega)
 have hrl:=row_len l
 have htl:=tailU_le l
 have e22:((2:Int)==2)=true:=rfl
 have e23:((2:Int)==3)=false:=rfl
 rw [g4_106_eq _ _ _ _ _ _ _ hC,e0,oB,e1,oB,e161,row_cut,oB,cut_tail (tailU_suf l),oB,e22,cond_true,A163_95 (by omega),trimB_nil,e23]
 simp only [g3_ok hC kk j (by omega)]
 cases hn:noU (l.takeWhile dgU) with
 | nil =>
  have:(([]:B)==[])=true:=rfl
  rw [this,cond_true]
  cases tailE false (tailU l)<;>rfl
 | cons x t =>
  have:(x :: t==([]:B))=false:=rfl
  rw [this,cond_false]
  cases hu:tailU l with
  | nil=>rfl
  | cons a b =>
   have ha:(a :: b==([]:B))=false:=rfl
   rw [ha,cond_false,cond_false]
   rw [hu] at htl
   refine (tailP (s:=a :: b) (by omega) (by simp) (fun e=>K 2 neg [] (l.takeWhile dgU) e) (K 0 false [] [] [])).trans ?_
   cases tailE false (a :: b)<;>rfl
theorem g5_ok (hC:∀ key e t,C key e t=t e) (kk:Nat) (neg:Bool) {t:B} (ht:t.length≤1000000):∀ (n j:Nat) (x:B),x.length<n→x.length+1<j→x <:+ t →
  g5_106 C A96 A159 A160 A161 A162 A163 kk j t 0 false [] [] [] 3 neg [] [] [48] (Pt t x) K=(match strip x with
   | []=>K 0 false [] [] []
   | c :: rest=>match c==46 with
    | false=>K 0 false [] [] []
    | true=>match tailU rest with
     | []=>K 3 neg (t.take (t.length - (rest.length+1))) (rest.takeWhile dgU) [48]
     | _ :: _=>K 0 false [] [] [])
 | 0,j,x,h,_,_=>by omega
 | n+1,j,x,hn,hj,hx=>by
  obtain ⟨j,rfl⟩:∃ i,j=i+1:=⟨j - 1,by omega⟩
  have e162:∀ k,A162 x k=k (sx x):=fun k=>rfl
  rw [g5_106_eq _ _ _ _ _ _ _ hC,cut_tail hx,oB,e162]
  simp only [g3_ok hC kk j (by omega)]
  rcases strip_sx x with ⟨h0,h1⟩ | ⟨h0,h1,h2,h3,-⟩
  ·rw [h0,dF (by decide),cond_false,h1,Pt_len hx]
   cases x with
   | nil=>rw [dT rfl];rfl
   | cons c rest =>
    have hr:rest <:+ t:=(List.suffix_cons c rest).trans hx
    have hrl:=hr.length_le
    have e161:∀ k,A161 rest k=k (Pt rest (tailU rest)):=fun k=>if_pos (by omega)
    have e32:((3:Int)==2)=false:=rfl
    have e33:((3:Int)==3)=true:=rfl
    have ec:cut t none (some (Pt t (c :: rest)))=some (t.take (t.length - (rest.length+1))):=by
     have:=hx.length_le
     unfold cut Pt
     rw [if_pos (by simp only [Option.getD_some,Option.getD_none];omega)]
     simp only [Option.getD_some,Option.getD_none,Int.toNat_natCast,List.length_cons]
     rfl
    rw [dF (by simp),cond_false,at_Pt hx,oB,neB 46 (n:=46) rfl,ec,oB,Pt_succ hx (by omega),cut_tail hr,oB,e161,row_cut,oB,cut_tail (tailU_suf rest),oB,e32,cond_false,e33,cond_true]
    cases h46:c==46 with
    | false=>simp only [h46];rfl
    | true =>
     simp only [Bool.not_true,cond_false,h46]
     cases tailU rest<;>rfl
  ·have hd:x.drop (sx x).toNat <:+ x:=List.drop_suffix _ _
   have hxl:=hx.length_le
   have hdl:(x.drop (sx x).toNat).length=x.length - (sx x).toNat:=List.length_drop
   have hp:i64.wrap (Pt t x+sx x)=Pt t (x.drop (sx x).toNat):=by
    rw [i64_in (by unfold Pt;omega) (by unfold Pt;omega)]
    unfold Pt
    rw [hdl]
    omega
   rw [dT (by omega),cond_true,hp,g5_ok hC kk neg ht n j _ (by omega) (by omega) (hd.trans hx),h3]
theorem p2_ok (hC:∀ key e t,C key e t=t e) (kk:Nat) {j:Nat} (hj:1000010<j) (neg sgn:Bool) {t:B} (ht:t.length≤1000000) :
  p2_106 C A96 A159 A160 A161 A162 A163 kk j t 0 false [] [] [] 0 neg [] [] [48] sgn 0 K=K (read11 neg sgn t).1 (read11 neg sgn t).2.1 (read11 neg sgn t).2.2.1 (read11 neg sgn t).2.2.2.1 (read11 neg sgn t).2.2.2.2:=by
 have e159:∀ k,A159 t sgn k=k (wordK t sgn):=fun k=>rfl
 rw [p2_106_eq _ _ _ _ _ _ _ hC,e159]
 simp only [g3_ok hC kk j (by omega)]
 unfold read11
 cases hw:decide (wordK t sgn > 0) with
 | true=>rfl
 | false =>
  rw [cond_false]
  cases t with
  | nil=>rfl
  | cons c l =>
   have e0:(c :: l==([]:B))=false:=rfl
   simp only [List.length_cons] at ht
   rw [e0,cond_false,at0,oB,oB,eqB 46 (n:=46) rfl,A160_dg]
   cases h46:c==46 with
   | true =>
    rw [eq_of_beq h46,cond_true,g4_ok hC kk (by omega) neg (by omega),tw_hit,dw_hit]
    simp only
    cases tailE false (tailU l) with
    | none=>rfl
    | some exp =>
     simp only
     cases noU (l.takeWhile dgU)<;>rfl
   | false =>
    rw [cond_false,tw_miss h46,dw_miss h46]
    cases hd:dg c with
    | false =>
     rw [Bool.not_false,cond_true]
     simp only [hd,Bool.false_and]
     cases dw 46 l with
     | nil=>rfl
     | cons y rest =>
      simp only
      cases tailE false (tailU rest)<;>rfl
    | true =>
     have hU:=dg_dgU hd
     have htU:tailU (c :: l)=tailU l:=tailU_yes hU l
     have e161:∀ k,A161 (c :: l) k=k (Pt (c :: l) (tailU l)):=by intro k;rw [← htU];exact if_pos (by simp only [List.length_cons];omega)
     have hsuf:tailU l <:+ c :: l:=(tailU_suf l).trans (List.suffix_cons c l)
     have e162:∀ k,A162 (tailU l) k=k (sx (tailU l)):=fun k=>rfl
     have hpt:=strip_point _ (tailU l) (Nat.lt_succ_self _)
     have ⟨hr1,hr2⟩:=row_point l
     have htt:tailU (tw 46 l)=tw 46 (tailU l):=tailU_tw l
     have hul:=tailU_le l
     have hrow:cut (c :: l) none (some (Pt (c :: l) (tailU l)))=some (c :: l.takeWhile dgU):=by
      have:=row_cut (s:=c :: l)
      rw [htU,List.takeWhile_cons,hU] at this
      exact this
     rw [Bool.not_true,cond_false,e161,cut_tail hsuf,oB,e162,hr2]
     simp only [hd,htt,Bool.true_and]
     generalize hu:tailU l=u at *
     rcases strip_sx u with ⟨h0,h1⟩ | ⟨h0,h1,h2,h3,x0,hx0⟩
     ·rw [h0,dF (by decide),cond_false,Pt_len hsuf]
      cases u with
      | nil=>rw [dT rfl];rfl
      | cons x rest =>
       have hsr:rest <:+ c :: l:=(List.suffix_cons x rest).trans hsuf
       have hrl:=hsr.length_le
       simp only [List.length_cons] at hrl
       rw [dF (by simp),cond_false,at_Pt hsuf,oB,neB 46 (n:=46) rfl,hrow,oB,Pt_succ hsuf (by simp only [List.length_cons];omega),cut_tail hsr,oB]
       cases hx46:x==46 with
       | false =>
        rw [Bool.not_false,cond_true]
        have hs:sixties (tw 46 (x :: rest))=false:=by
         cases hs:sixties (tw 46 (x :: rest)) with
         | false=>rfl
         | true =>
          have:=hpt.1 hs
          rw [h1] at this
          rcases dw_cases 46 (x :: rest) with e | ⟨q,e⟩
          ·rw [e] at this;cases this
          ·rw [e] at this;cases this;cases hx46
        rw [hs]
        cases dw 46 (x :: rest) with
        | nil=>rfl
        | cons y rest' =>
         simp only
         cases tailE false (tailU rest')<;>rfl
       | true =>
        have:=eq_of_beq hx46
        subst this
        have e161':∀ k,A161 rest k=k (Pt rest (tailU rest)):=fun k=>if_pos (by omega)
        have htr:=tailU_le rest
        rw [tw_hit] at hr1
        rw [List.append_nil] at hr1
        rw [Bool.not_true,cond_false,e161',row_cut,oB,cut_tail (tailU_suf rest),oB,tw_hit,dw_hit,hr1]
        simp only [sixties_nil]
        cases hur:tailU rest with
        | nil=>rfl
        | cons a b =>
         have ha:(a :: b==([]:B))=false:=rfl
         rw [hur] at htr
         rw [ha,cond_false]
         refine (tailP (s:=a :: b) (by omega) (by simp) (fun e=>K 1 neg (c :: l.takeWhile dgU) (rest.takeWhile dgU) e) (K 0 false [] [] [])).trans ?_
         cases tailE false (a :: b)<;>rfl
     ·have hdsuf:u.drop (sx u).toNat <:+ c :: l:=(List.drop_suffix _ _).trans hsuf
      have hdl:(u.drop (sx u).toNat).length=u.length - (sx u).toNat:=List.length_drop
      have hle:=hsuf.length_le
      simp only [List.length_cons] at hle
      have hp:i64.wrap (Pt (c :: l) u+sx u)=Pt (c :: l) (u.drop (sx u).toNat):=by
       rw [i64_in (by unfold Pt;simp only [List.length_cons];omega) (by unfold Pt;simp only [List.length_cons];omega)]
       unfold Pt
       rw [hdl]
       simp only [List.length_cons]
       omega
      rw [dT (by omega),cond_true,hp,g5_ok hC kk neg (by simp only [List.length_cons];omega) _ j _ (Nat.lt_succ_self _) (by omega) hdsuf,← h3]
      have htwn:∃ a b,tw 46 u=a :: b:=by
       rw [hx0,tw_miss (by decide)]
       exact ⟨_,_,rfl⟩
      obtain ⟨a,b,htw⟩:=htwn
      cases hs:sixties (tw 46 u) with
      | true =>
       rw [hpt.1 hs]
       rcases dw_cases 46 u with e | ⟨rest,e⟩
       ·rw [e];rfl
       ·have hlen:(c :: l).take ((c :: l).length - (rest.length+1))=c :: tw 46 l:=by
         have e2:=tw_dw 46 l
         rw [hr2,e] at e2
         have e3:c :: l=(c :: tw 46 l)++46 :: rest:=by rw [List.cons_append,e2]
         have e4:=congrArg List.length e3
         rw [List.length_append] at e4
         have e5:(c :: l).length - (rest.length+1)=(c :: tw 46 l).length:=by rw [e4];simp only [List.length_cons];omega
         rw [e5]
         conv=>lhs;rw [e3]
         exact List.take_left
        rw [e]
        simp only [beq_self_eq_true]
        rw [hlen]
        cases tailU rest with
        | nil =>
         simp only [htw]
         rfl
        | cons a' b' =>
         simp only [htw]
         cases tailE false (a' :: b')<;>rfl
      | false =>
       have hno:=hpt.2 hs
       have hL:(match strip u with
        | []=>K 0 false [] [] []
        | c_1 :: rest=>match c_1==46 with
         | false=>K 0 false [] [] []
         | true=>match tailU rest with
          | []=>K 3 neg ((c :: l).take ((c :: l).length - (rest.length+1))) (rest.takeWhile dgU) [48]
          | _ :: _=>K 0 false [] [] [])=K 0 false [] [] []:=by
        cases hsu:strip u with
        | nil=>rfl
        | cons y rest =>
         have hy:(y==46)=false:=by
          cases hy:y==46 with
          | false=>rfl
          | true =>
           rw [eq_of_beq hy] at hsu
           exact absurd hsu (hno rest)
         simp only [hy]
       refine hL.trans ?_
       cases dw 46 u with
       | nil=>rfl
       | cons y rest' =>
        simp only
        cases tailE false (tailU rest')<;>rfl
end
theorem eq106 (hC:∀ key e t,C key e t=t e) (s:B) (K:Tk106) (r:Out) (h:A106 s K=some r):run106 C A96 A159 A160 A161 A162 A163 big s K=some r:=by
 unfold A106 at h
 split at h
 ·rename_i hs
  rw [← h,run106_eq]
  simp only [p1_106_eq _ _ _ _ _ _ _ hC]
  have hb:1000010<big:=by unfold big;omega
  cases s with
  | nil=>exact p2_ok hC big hb false false (by simp)
  | cons c l =>
   have h0:(c :: l==([]:B))=false:=rfl
   simp only [List.length_cons] at hs
   simp only [h0,Bool.not_false,cond_true,at0,oB,cut1,eqB 43 (n:=43) rfl,eqB 45 (n:=45) rfl]
   have hu:unsign (c :: l)=(match isS c with | true=>(c==45,l) | false=>(false,c :: l)):=rfl
   have hsg:signed (c :: l)=isS c:=rfl
   rw [hu,hsg]
   have hS:isS c=(c==43 || c==45):=rfl
   rw [hS]
   cases h43:c==43 with
   | true =>
    have h45:(c==45)=false:=by rw [eq_of_beq h43];rfl
    rw [h45]
    exact p2_ok hC big hb false true (by omega)
   | false =>
    cases h45:c==45 with
    | true=>exact p2_ok hC big hb true true (by omega)
    | false=>exact p2_ok hC big hb false false (by simp only [List.length_cons];omega)
 ·cases h
end Go.Proofs.YtffmgholjdfcnaaGreatDoor
