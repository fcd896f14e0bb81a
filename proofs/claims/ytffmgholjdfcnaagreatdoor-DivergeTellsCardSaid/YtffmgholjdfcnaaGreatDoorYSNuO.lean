import Derived.Test.YtffmgholjdfcnaaGreatDoorYSNuN
set_option linter.unusedSimpArgs false
set_option linter.unusedVariables false
namespace Go.Proofs.YtffmgholjdfcnaaGreatDoor
open Go AM St Nu
open Go.IntKind (i64 u8)
variable {C:Nat→Env→(Env→Option Out)→Option Out}
def A118:Ty118:=fun t neg sgn K=>match odd t neg sgn with
 | some d=>K d.kind d.neg d.d d.e true
 | none=>K 0 false [] [] false
theorem eq118 (hC:∀ key e t,C key e t=t e) (t:B) (neg sgn:Bool) (K:Tk118):run118 C big t neg sgn K=A118 t neg sgn K:=by
 rw [run118_eq]
 simp only [p1_118_eq _ hC,p2_118_eq _ hC,p3_118_eq _ hC]
 unfold A118 odd isInf isNan
 cases t==([46,105,110,102]:B)<;>cases t==([46,73,110,102]:B)<;>cases t==([46,73,78,70]:B)<;>cases t==([46,110,97,110]:B)<;>cases t==([46,78,97,78]:B)<;>cases t==([46,78,65,78]:B)<;>cases sgn<;>rfl
theorem signed_len (l:B):(((unsign l).2.length:Int)==(l.length:Int))=!signed l:=by
 cases l with
 | nil=>rfl
 | cons c l =>
  show (((match isS c with | true=>(c==45,l) | false=>(false,c :: l)).2.length:Int)==((c :: l).length:Int))=!isS c
  cases isS c with
  | true=>simp only [List.length_cons,Bool.not_true];simp;omega
  | false=>simp
theorem signed_lt (s:B):decide (((unsign s).2.length:Int)<(s.length:Int))=signed s:=by
 cases s with
 | nil=>rfl
 | cons c l =>
  show decide (((match isS c with | true=>(c==45,l) | false=>(false,c :: l)).2.length:Int)<((c :: l).length:Int))=isS c
  cases isS c with
  | true=>exact dT (by simp only [List.length_cons];omega)
  | false=>simp
def A119:Ty119:=fun s loose K=>if s.length≤1000000 then (match tailE loose s with | some e=>K e true | none=>K [] false) else none
theorem eq119 (hC:∀ key e t,C key e t=t e) (s:B) (loose:Bool) (K:Tk119) (r:Out) (h:A119 s loose K=some r):run119 C A114 A115 A174 big s loose K=some r:=by
 unfold A119 at h
 split at h
 ·rename_i hs
  rw [← h,run119_eq]
  simp only [p1_119_eq _ _ _ _ hC]
  cases s with
  | nil=>rfl
  | cons c l =>
   simp only [List.length_cons] at hs
   have hul:=unsign_len l
   have h0:(c :: l==([]:B))=false:=rfl
   have e114:∀ k,A114 l k=k (unsign l).2 (unsign l).1:=fun k=>rfl
   have e174:∀ k,A174 (unsign l).2 k=k (isD (unsign l).2):=fun k=>if_pos (by omega)
   have e115:∀ k,A115 (unsign l).1 (unsign l).2 k=k (norm (unsign l).1 (unsign l).2):=fun k=>if_pos (by omega)
   have ew:i64.wrap (((c :: l).length:Int) - 1)=(l.length:Int):=by simp only [List.length_cons];rw [i64_in (by omega) (by omega)];omega
   have ht:tailE loose (c :: l)=(match c==101 || c==69 with | false=>none | true=>match (loose || signed l)&&isD (unsign l).2 with | true=>some (norm (unsign l).1 (unsign l).2) | false=>none):=rfl
   rw [h0,cond_false,at0,oB,oB,neB 101 (n:=101) rfl,neB 69 (n:=69) rfl,cut1,oB,e114,ew,signed_len,e174,ht]
   simp only [p2_119_eq _ _ _ _ hC,e115]
   cases c==101<;>cases c==69<;>cases signed l<;>cases loose<;>cases isD (unsign l).2<;>rfl
 ·cases h
theorem findX_lt (x:UInt8) (s:B):decide (findX x s<0)=(dw x s==[]):=by
 unfold findX
 cases dw x s with
 | nil=>rfl
 | cons a b=>exact dF (by simp only;omega)
theorem findX_dw {x:UInt8} {s a:B} {y:UInt8} (h:dw x s=y :: a):findX x s=((tw x s).length:Int):=by
 unfold findX
 rw [h]
theorem stop75 {rest x:B} (hx:x <:+ rest) (hh:tailU x=x) (X1 X2 E:Option Out) :
  (bif (decide (Pt rest x<(rest.length:Int))) then ((at? rest (Pt rest x)).bind fun b10=>(A92 (b10.toNat:Int) fun r11=>(bif r11 then X1 else ((at? rest (Pt rest x)).bind fun b12=>(bif ((b12.toNat:Int)==95) then X2 else E))))) else E)=E:=by
 cases x with
 | nil=>rw [Pt_end,dF (by omega),cond_false]
 | cons c l =>
  have hd:dgU c=false:=by
   cases hd:dgU c with
   | false=>rfl
   | true =>
    rw [tailU_yes hd] at hh
    have:=tailU_le l
    rw [hh] at this
    simp at this
    omega
  have hd':=hd
  unfold dgU at hd'
  rw [Bool.or_eq_false_iff] at hd'
  rw [dT (Pt_lt hx),cond_true,at_Pt hx,oB,oB,A35_dg,hd'.2,eqB 95 (n:=95) rfl,hd'.1]
  rfl
theorem tailU_idem (l:B):tailU (tailU l)=tailU l:=by
 induction l with
 | nil=>rfl
 | cons c l ih =>
  cases hd:dgU c with
  | true=>rw [tailU_yes hd];exact ih
  | false=>rw [tailU_no hd];exact tailU_no hd l
def A75:Ty75:=fun s K=>if s.length≤10000 then K (fl11 s).1.kind (fl11 s).1.neg (fl11 s).1.d (fl11 s).1.e (fl11 s).2 else none
theorem loop75 (hC:∀ key e t,C key e t=t e) (kk:Nat) {t rest:B} (hr:rest.length≤1000000) {neg:Bool} {v8:Int} {K:Tk75} {R:Option Out}
  (hstop:∀ j,l1_75 C A92 A114 A116 A117 A118 A119 A120 A122 kk (j+1) 0 false [] [] t neg v8 rest (Pt rest (tailU rest)) K=R):∀ (x:B) (j:Nat),x <:+ rest→tailU x=tailU rest→x.length<j →
  l1_75 C A92 A114 A116 A117 A118 A119 A120 A122 kk j 0 false [] [] t neg v8 rest (Pt rest x) K=R
 | [],j,hx,ht,hj=>by
  obtain ⟨j,rfl⟩:∃ i,j=i+1:=⟨j - 1,by omega⟩
  have:=hstop j
  rw [← ht] at this
  exact this
 | c :: x,j,hx,ht,hj=>by
  obtain ⟨j,rfl⟩:∃ i,j=i+1:=⟨j - 1,by omega⟩
  have hx':x <:+ rest:=(List.suffix_cons c x).trans hx
  cases hd:dgU c with
  | false =>
   have:=hstop j
   rw [← ht,tailU_no hd] at this
   exact this
  | true =>
   rw [tailU_yes hd] at ht
   have ih:=loop75 hC kk hr hstop x j hx' ht (by simp at hj;omega)
   rw [l1_75_eq _ _ _ _ _ _ _ _ _ hC,dT (Pt_lt hx),cond_true,at_Pt hx,oB,A35_dg,oB,eqB 95 (n:=95) rfl,Pt_succ hx (by omega),ih]
   unfold dgU at hd
   cases h95:c==95 with
   | true=>cases dg c<;>rfl
   | false=>rw [h95,Bool.false_or] at hd;rw [hd];rfl
theorem bareR_row {l:B} (h:l.all dgU=true):bareR 10 l=noU l:=by
 unfold bareR
 have:l.all (fun c=>c==95 || decide (hexD c<10))=l.all dgU:=by
  congr 1
  funext c
  rw [hexD_dg];rfl
 rw [this,h]
theorem eq75 (hC:∀ key e t,C key e t=t e) (s:B) (K:Tk75) (r:Out) (h:A75 s K=some r):run75 C A92 A114 A116 A117 A118 A119 A120 A122 big s K=some r:=by
 unfold A75 at h
 split at h
 ·rename_i hs
  have hul:=unsign_len s
  have e114:∀ k,A114 s k=k (unsign s).2 (unsign s).1:=fun k=>rfl
  rw [← h,run75_eq,e114,signed_lt]
  unfold fl11
  generalize (unsign s).2=t at *
  generalize (unsign s).1=neg at *
  generalize signed s=sgn at *
  have e118:∀ k,A118 t neg sgn k=(match odd t neg sgn with
   | some d=>k d.kind d.neg d.d d.e true
   | none=>k 0 false [] [] false):=fun k=>rfl
  rw [e118]
  cases ho:odd t neg sgn with
  | some d =>
   have hk:d.kind=1∨d.kind=2:=by
    unfold odd at ho
    cases h1:isInf t with
    | true=>rw [h1] at ho;simp only at ho;cases ho;exact .inl rfl
    | false =>
     rw [h1] at ho
     simp only at ho
     cases h2:isNan t&&!sgn with
     | true=>rw [h2] at ho;simp only at ho;cases ho;exact .inr rfl
     | false=>rw [h2] at ho;cases ho
   have:i64.wrap (i64.wrap (4+d.kind) - 1)=3+d.kind:=by
    rcases hk with e | e<;>rw [e]<;>rfl
   simp only [cond_true]
   rw [this]
  | none =>
   simp only [cond_false]
   rw [A122_ok (x:=46) (c:=46) rfl (by omega),findX_lt]
   have hdwl:=dw_le 46 t
   have htwl:=tw_le 46 t
   cases hdw:dw 46 t with
   | nil=>rfl
   | cons y rest =>
    have hy:y=46:=by
     rcases dw_cases 46 t with e | ⟨q,e⟩
     ·rw [e] at hdw;cases hdw
     ·rw [e] at hdw;cases hdw;rfl
    subst hy
    rw [hdw] at hdwl
    simp only [List.length_cons] at hdwl
    have hsuf:46 :: rest <:+ t:=by rw [← hdw];exact dw_suf 46 t
    have hrs:rest <:+ t:=(List.suffix_cons 46 rest).trans hsuf
    have hPt:((tw 46 t).length:Int)=Pt t (46 :: rest):=by
     have:=congrArg List.length (tw_dw 46 t)
     rw [hdw,List.length_append] at this
     unfold Pt
     omega
    have hne:(46 :: rest==([]:B))=false:=rfl
    have hul2:=tailU_le rest
    have hrl:=row_len rest
    have hfd:=dgU_row rest
    rw [findX_dw hdw,hne,cond_false,hPt,Pt_succ hsuf (by omega),cut_tail hrs,oB]
    simp only
    have hmain:∀ R,(∀ j,l1_75 C A92 A114 A116 A117 A118 A119 A120 A122 big (j+1) 0 false [] [] t neg (Pt t (46 :: rest)) rest (Pt rest (tailU rest)) K=R)→l1_75 C A92 A114 A116 A117 A118 A119 A120 A122 big big 0 false [] [] t neg (Pt t (46 :: rest)) rest 0 K=R:=by
     intro R hR
     have:=loop75 hC big (by omega) hR rest big (List.suffix_refl _) rfl (by unfold big;omega)
     rw [Pt_zero] at this
     exact this
    refine hmain _ fun j=>?_
    rw [l1_75_eq _ _ _ _ _ _ _ _ _ hC]
    refine (stop75 (tailU_suf rest) (tailU_idem rest) _ _ _).trans ?_
    have e116:∀ x k,x.length≤1000000→A116 x 10 k=k (bareR 10 x) (rowB 10 x):=fun x k hx=>if_pos hx
    have e119:∀ k,A119 (tailU rest) false k=(match tailE false (tailU rest) with | some e=>k e true | none=>k [] false):=fun k=>if_pos (by omega)
    rw [row_cut,oB,e116 _ _ (by omega),cut_tail (tailU_suf rest),oB,e119,bareR_row hfd]
    cases hte:tailE false (tailU rest) with
    | none=>rfl
    | some exp =>
     obtain ⟨hg,hgl⟩:=tailE_good hte
     simp only [Bool.not_true,cond_false]
     have hnl:=noU_len (rest.takeWhile dgU)
     have e120:∀ w fr k,w.length≤1000000→fr.length≤1000000→A120 neg w fr exp k=k (makeD neg w fr exp).1.kind (makeD neg w fr exp).1.neg (makeD neg w fr exp).1.d (makeD neg w fr exp).1.e (makeD neg w fr exp).2:=fun w fr k h1 h2=>if_pos ⟨h1,h2,by omega⟩
     have p5:∀ (b:Bool) (w:B) (f:Int),w.length≤1000000→p5_75 C A92 A114 A116 A117 A118 A119 A120 A122 big 0 false [] [] neg (noU (rest.takeWhile dgU)) exp w f b K=(match b with | true=>K 0 false [] [] 0 | false=>K (makeD neg w (noU (rest.takeWhile dgU)) exp).1.kind (makeD neg w (noU (rest.takeWhile dgU)) exp).1.neg (makeD neg w (noU (rest.takeWhile dgU)) exp).1.d (makeD neg w (noU (rest.takeWhile dgU)) exp).1.e f):=by
      intro b w f hw
      rw [p5_75_eq _ _ _ _ _ _ _ _ _ hC]
      cases b with
      | true=>rfl
      | false=>rw [cond_false,e120 _ _ _ hw (by omega)]
     rw [← hPt]
     cases htw:tw 46 t with
     | nil =>
      have hz:decide (((([]:B).length:Nat):Int) > 0)=false:=rfl
      have hz2:(((([]:B).length:Nat):Int)==0)=true:=rfl
      have hrow:rowB 10 (rest.takeWhile dgU)=!(noU (rest.takeWhile dgU)==[]):=by rw [rowB_ten,hfd,Bool.true_and]
      rw [hz,cond_false,p3_75_eq _ _ _ _ _ _ _ _ _ hC,hz2,cond_true,p5 _ _ _ (by simp),hrow,Bool.not_not]
      simp only
      cases hn:noU (rest.takeWhile dgU)<;>rfl
     | cons c w =>
      rw [htw] at htwl
      simp only [List.length_cons] at htwl
      have hcw:∃ l,t=c :: l:=by
       have:=tw_dw 46 t
       rw [htw] at this
       exact ⟨w++dw 46 t,this.symm⟩
      obtain ⟨l,hl⟩:=hcw
      have hat:at? t 0=some c:=by rw [hl];rfl
      have hz:decide (((c :: w).length:Int) > 0)=true:=dT (by simp only [List.length_cons];omega)
      have hct:cut t none (some ((c :: w).length:Int))=some (c :: w):=by
       have:=cut_tw (l:=t) (x:=46)
       rw [htw] at this
       exact this
      rw [hz,cond_true,hat,oB,A35_dg,hct,oB,e116 _ _ (by simp only [List.length_cons];omega),oB]
      cases hd:dg c with
      | false=>simp only [hd,Bool.false_and];rfl
      | true =>
       have hz2:(((c :: w).length:Int)==0)=false:=by simp only [List.length_cons];simp;omega
       have p3:∀ (w':B) (f:Int),w'.length≤1000000→p3_75 C A92 A114 A116 A117 A118 A119 A120 A122 big 0 false [] [] neg ((c :: w).length:Int) (noU (rest.takeWhile dgU)) (rowB 10 (rest.takeWhile dgU)) exp w' f K=K (makeD neg w' (noU (rest.takeWhile dgU)) exp).1.kind (makeD neg w' (noU (rest.takeWhile dgU)) exp).1.neg (makeD neg w' (noU (rest.takeWhile dgU)) exp).1.d (makeD neg w' (noU (rest.takeWhile dgU)) exp).1.e f:=by
        intro w' f hw'
        rw [p3_75_eq _ _ _ _ _ _ _ _ _ hC,hz2,cond_false,p5 _ _ _ hw']
       have hnlw:=noU_len (c :: w)
       simp only [List.length_cons] at hnlw
       rw [rowB_end hd,Bool.not_true,cond_false]
       simp only [hd,Bool.true_and]
       cases hu:tailU w with
       | nil =>
        have ha:(c :: w).all dgU=true:=by rw [List.all_cons,dg_dgU hd,← tailU_all,hu];rfl
        have e0:(([]:B)==[])=true:=rfl
        rw [e0,Bool.not_true,cond_false,p2_75_eq _ _ _ _ _ _ _ _ _ hC,Bool.not_true,cond_false,show ((1:Int)==3)=false from rfl,cond_false,p4_75_eq _ _ _ _ _ _ _ _ _ hC,cond_false,bareR_row ha,p3 _ _ (by omega)]
        rfl
       | cons a b =>
        have e0:(a :: b==([]:B))=false:=rfl
        have hsx:=sixtyR_eq (c:=c) (l:=w) hd (by rw [hu];simp)
        have e117:∀ k,A117 (c :: w) k=k (sixtyR (c :: w)).1 (sixtyR (c :: w)).2:=fun k=>if_pos (by simp only [List.length_cons];omega)
        rw [e0,Bool.not_false,cond_true,e117,hsx,hu,p2_75_eq _ _ _ _ _ _ _ _ _ hC,show ((3:Int)==3)=true from rfl]
        cases hsix:sixties (a :: b) with
        | false=>rw [Bool.not_false,cond_true,p4_75_eq _ _ _ _ _ _ _ _ _ hC];rfl
        | true =>
         have hvF:=valueF_sixty hd (by rw [hu];simp) (by rw [hu];exact hsix)
         have hvl:=valueF_len (noU (c :: w))
         simp only [Bool.not_true,cond_false,cond_true]
         rw [p4_75_eq _ _ _ _ _ _ _ _ _ hC,← hvF]
         cases hur:tailU rest with
         | nil =>
          rw [Pt_end,dF (by omega),cond_false,p3 _ _ (by omega)]
         | cons a' b' =>
          have hs2:a' :: b' <:+ rest:=by rw [← hur];exact tailU_suf rest
          rw [dT (Pt_lt hs2)]
          rfl
 ·cases h
end Go.Proofs.YtffmgholjdfcnaaGreatDoor
