import Derived.Test.YtffmgholjdfcnaaGreatDoorYSNuP
import Derived.Test.YtffmgholjdfcnaaGreatDoorYSStH
set_option linter.unusedSimpArgs false
set_option linter.unusedVariables false
namespace Go.Proofs.YtffmgholjdfcnaaGreatDoor
open Go AM St Nu
open Go.IntKind (i64 u8)
variable {C:Nat→Env→(Env→Option Out)→Option Out}
def A73:Ty73:=fun s K=>if s.length≤10000 then K (fl12 s).1.kind (fl12 s).1.neg (fl12 s).1.d (fl12 s).1.e (fl12 s).2 else none
section
variable {K:Tk73}
theorem p4_73_ok (hC:∀ key e t,C key e t=t e) (kk:Nat) {t x w f:B} {neg:Bool} (ht:t.length≤1000000) (hw:w.length≤1000000) (hf:f.length≤1000000) (hx:x <:+ t) :
  p4_73 C A71 A92 A114 A118 A119 A120 kk 0 false [] [] t neg (Pt t x) w f K=K (afterD neg w f x).1.kind (afterD neg w f x).1.neg (afterD neg w f x).1.d (afterD neg w f x).1.e (afterD neg w f x).2:=by
 have hxl:=hx.length_le
 have e119:∀ k,A119 x true k=(match tailE true x with | some e=>k e true | none=>k [] false):=fun k=>if_pos (by omega)
 rw [p4_73_eq _ _ _ _ _ _ _ hC,cut_tail hx,oB,e119]
 unfold afterD
 cases hte:tailE true x with
 | none=>rfl
 | some exp =>
  have hg:=(tailE_good hte).2
  simp only [Bool.not_true,cond_false]
  exact if_pos ⟨hw,hf,by omega⟩
theorem cut_mid {t l:B} (hl:l <:+ t):cut t (some (Pt t l)) (some (Pt t (dD l)))=some (tD l):=by
 rw [cut_Pt hl (dD_suf l)]
 congr 1
 have e:=tD_dD l
 have h:=congrArg List.length e
 rw [List.length_append] at h
 have e2:l.length - (dD l).length=(tD l).length:=by omega
 rw [e2]
 have:=List.take_left (l₁:=tD l) (l₂:=dD l)
 rw [e] at this
 exact this
theorem loop73b (hC:∀ key e t,C key e t=t e) (kk:Nat) {t l w:B} {v10:Int} {neg:Bool} (ht:t.length≤1000000) (hw:w.length≤1000000) (hl:l <:+ t) (hv:i64.wrap (v10+1)=Pt t l):∀ (x:B) (j:Nat),x <:+ t→dD x=dD l→x.length<j →
  l3_73 C A71 A92 A114 A118 A119 A120 kk j 0 false [] [] t neg v10 w (Pt t x) K=K (afterD neg w (tD l) (dD l)).1.kind (afterD neg w (tD l) (dD l)).1.neg (afterD neg w (tD l) (dD l)).1.d (afterD neg w (tD l) (dD l)).1.e (afterD neg w (tD l) (dD l)).2
 | [],j,hx,hd,hj=>by
  obtain ⟨j,rfl⟩:∃ i,j=i+1:=⟨j - 1,by omega⟩
  have hll:=hl.length_le
  have htl:=tD_le l
  have hd0:dD l=[]:=by rw [← hd];rfl
  have hcm:=cut_mid hl
  rw [l3_73_eq _ _ _ _ _ _ _ hC,hv]
  rw [hd0] at hcm
  have hc:decide (Pt t []<(t.length:Int))=false:=dF (by rw [Pt_end];omega)
  rw [hc,cond_false,hcm,oB,hd0]
  exact p4_73_ok hC kk ht hw (by omega) hx
 | c :: x,j,hx,hd,hj=>by
  obtain ⟨j,rfl⟩:∃ i,j=i+1:=⟨j - 1,by omega⟩
  have hx':x <:+ t:=(List.suffix_cons c x).trans hx
  have hll:=hl.length_le
  have htl:=tD_le l
  rw [l3_73_eq _ _ _ _ _ _ _ hC,hv,dT (Pt_lt hx),cond_true,at_Pt hx,oB,A35_dg,Pt_succ hx (by omega)]
  cases hc:dg c with
  | true =>
   rw [dD_yes hc] at hd
   exact loop73b hC kk ht hw hl hv x j hx' hd (by simp at hj;omega)
  | false =>
   rw [dD_no hc] at hd
   have hcm:=cut_mid hl
   rw [← hd] at hcm ⊢
   rw [cond_false,hcm,oB]
   exact p4_73_ok hC kk ht hw (by omega) hx
theorem loop73a (hC:∀ key e t,C key e t=t e) {t:B} {neg:Bool} (ht:t.length≤1000000):∀ (x:B) (j:Nat),x <:+ t→dD x=dD t→x.length<j →
  l1_73 C A71 A92 A114 A118 A119 A120 big j 0 false [] [] t neg (Pt t x) K=(fun p:De × Bool=>K p.1.kind p.1.neg p.1.d p.1.e p.2) (match dD t with
   | []=>makeD neg (tD t) [] [48]
   | c :: l=>match c==46 with
    | true=>afterD neg (tD t) (tD l) (dD l)
    | false=>afterD neg (tD t) [] (c :: l))
 | [],j,hx,hd,hj=>by
  obtain ⟨j,rfl⟩:∃ i,j=i+1:=⟨j - 1,by omega⟩
  have htl:=tD_le t
  have hd0:dD t=[]:=by rw [← hd];rfl
  have hc:decide (Pt t []<(t.length:Int))=false:=dF (by rw [Pt_end];omega)
  have hcd:=cut_dD (s:=t)
  rw [hd0] at hcd
  rw [l1_73_eq _ _ _ _ _ _ _ hC,hc,cond_false,hcd,oB,cond_false,p2_73_eq _ _ _ _ _ _ _ hC,cond_false,p4_73_ok hC big ht (by omega) (by simp) hx,hd0]
  rfl
 | c :: x,j,hx,hd,hj=>by
  obtain ⟨j,rfl⟩:∃ i,j=i+1:=⟨j - 1,by omega⟩
  have hx':x <:+ t:=(List.suffix_cons c x).trans hx
  have htl:=tD_le t
  have hxl:=hx.length_le
  simp only [List.length_cons] at hxl
  rw [l1_73_eq _ _ _ _ _ _ _ hC,dT (Pt_lt hx),cond_true,at_Pt hx,oB,A35_dg,Pt_succ hx (by omega)]
  cases hc:dg c with
  | true =>
   rw [dD_yes hc] at hd
   exact loop73a hC ht x j hx' hd (by simp at hj;omega)
  | false =>
   rw [dD_no hc] at hd
   have hcd:=cut_dD (s:=t)
   rw [← hd] at hcd
   rw [cond_false,hcd,oB,cond_true,oB,eqB 46 (n:=46) rfl,p2_73_eq _ _ _ _ _ _ _ hC,Pt_succ hx (by omega),← hd]
   simp only
   cases h46:c==46 with
   | true=>exact loop73b hC big ht (by omega) hx' (Pt_succ hx (by omega)) x big hx' rfl (by unfold big;omega)
   | false=>exact p4_73_ok hC big ht (by omega) (by simp) hx
end
theorem eq73 (hC:∀ key e t,C key e t=t e) (s:B) (K:Tk73) (r:Out) (h:A73 s K=some r):run73 C A71 A92 A114 A118 A119 A120 big s K=some r:=by
 unfold A73 at h
 split at h
 ·rename_i hs
  have hul:=unsign_len s
  have e71:∀ k,A71 s k=k (int12 s) (!(int12 s==[])):=fun k=>if_pos (by omega)
  have e114:∀ k,A114 s k=k (unsign s).2 (unsign s).1:=fun k=>rfl
  have e118:∀ k,A118 (unsign s).2 (unsign s).1 (signed s) k=(match odd (unsign s).2 (unsign s).1 (signed s) with
   | some d=>k d.kind d.neg d.d d.e true
   | none=>k 0 false [] [] false):=fun k=>rfl
  rw [← h,run73_eq,e71,e114,signed_lt,e118,fl12_eq]
  have hne:int12 s ≠ []→odd (unsign s).2 (unsign s).1 (signed s)=none:=by
   intro hn
   have hg:=int12_isgood hn
   have hnp:∀ t:B,(unsign s).2 ≠ 46 :: t:=by
    intro t e
    apply hn
    have hnorm:norm (unsign s).1 (unsign s).2=[]:=by
     rw [e]
     have:isD (46 :: t)=false:=by unfold isD;rw [List.all_cons];rfl
     unfold norm
     rw [this]
    cases s with
    | nil=>rfl
    | cons c l =>
     cases l with
     | nil=>exact hnorm
     | cons d l =>
      have hh:int12 (c :: d :: l)=(match c==48&&d==111 with
       | true=>baseN l 8
       | false=>match c==48&&d==120 with
        | true=>baseN l 16
        | false=>norm (unsign (c :: d :: l)).1 (unsign (c :: d :: l)).2):=rfl
      rw [hh]
      have hc:(c==48)=false:=by
       cases hc:c==48 with
       | false=>rfl
       | true =>
        rw [eq_of_beq hc] at e
        have:unsign (48 :: d :: l)=(false,48 :: d :: l):=rfl
        rw [this] at e
        cases e
      rw [hc]
      exact hnorm
   have h':∀ t:B,((unsign s).2==46 :: t)=false:=by
    intro t
    cases e:(unsign s).2==46 :: t with
    | false=>rfl
    | true=>exact absurd (eq_of_beq e) (hnp t)
   unfold odd isInf isNan
   simp only [h',Bool.or_self,Bool.false_and]
  cases hi:int12 s with
  | cons a b =>
   rw [hne (by rw [hi];simp)]
   rfl
  | nil =>
   have h0:(!(([]:B)==[]))=false:=rfl
   rw [h0,cond_false]
   cases ho:odd (unsign s).2 (unsign s).1 (signed s) with
   | some d=>rfl
   | none =>
    simp only [cond_false]
    have:=loop73a hC (t:=(unsign s).2) (neg:=(unsign s).1) (K:=K) (by omega) (unsign s).2 big (List.suffix_refl _) rfl (by unfold big;omega)
    rw [Pt_zero] at this
    exact this
 ·cases h
def A42:Ty42:=fun s K=>K (nulls.contains s)
theorem nulls_eq (s:B):nulls.contains s=(s==[] || (s==[126] || (s==[110,117,108,108] || (s==[78,117,108,108] || (s==[78,85,76,76] || false))))):=by
 rw [List.contains_eq_any_beq]
 rfl
theorem eq42 (hC:∀ key e t,C key e t=t e) (s:B) (K:Tk42):run42 C big s K=A42 s K:=by
 rw [run42_eq]
 simp only [p1_42_eq _ hC]
 unfold A42
 rw [nulls_eq]
 cases s==([]:B)<;>cases s==([126]:B)<;>cases s==([110,117,108,108]:B)<;>cases s==([78,117,108,108]:B)<;>cases s==([78,85,76,76]:B)<;>rfl
def A44:Ty44:=fun s K=>K (nulls.contains s)
theorem eq44 (s:B) (K:Tk44):run44 C big s K=A44 s K:=by
 rw [run44_eq]
 unfold A44
 rw [nulls_eq]
 cases s==([]:B)<;>cases s==([126]:B)<;>cases s==([110,117,108,108]:B)<;>cases s==([78,117,108,108]:B)<;>cases s==([78,85,76,76]:B)<;>rfl
theorem yes11_eq (s:B):yes11.contains s=(s==[121] || (s==[89] || (s==[121,101,115] || (s==[89,101,115] || (s==[89,69,83] || (s==[111,110] || (s==[79,110] || (s==[79,78] || false)))))))):=by
 rw [List.contains_eq_any_beq]
 rfl
theorem no11_eq (s:B):no11.contains s=(s==[110] || (s==[78] || (s==[110,111] || (s==[78,111] || (s==[78,79] || (s==[111,102,102] || (s==[79,102,102] || (s==[79,70,70] || false)))))))):=by
 rw [List.contains_eq_any_beq]
 rfl
theorem yes12_eq (s:B):yes12.contains s=(s==[116,114,117,101] || (s==[84,114,117,101] || (s==[84,82,85,69] || false))):=by
 rw [List.contains_eq_any_beq]
 rfl
theorem no12_eq (s:B):no12.contains s=(s==[102,97,108,115,101] || (s==[70,97,108,115,101] || (s==[70,65,76,83,69] || false))):=by
 rw [List.contains_eq_any_beq]
 rfl
theorem words_apart:(∀ x ∈ yes11++no11,yes12.contains x=false∧no12.contains x=false)∧(∀ x ∈ no11,yes11.contains x=false):=by decide
theorem boolW_old {s:B} (h:yes11.contains s=true∨no11.contains s=true) (v:Int):boolW v s=(match v==11 with | false=>(false,false) | true=>(yes11.contains s,true)):=by
 have hm:s ∈ yes11++no11:=by
  rw [List.mem_append]
  rcases h with h | h
  ·exact .inl (List.contains_iff_mem.1 h)
  ·exact .inr (List.contains_iff_mem.1 h)
 obtain ⟨h1,h2⟩:=words_apart.1 s hm
 unfold boolW
 rw [h1,h2]
 have:(yes11.contains s || no11.contains s)=true:=by rcases h with h | h<;>rw [h]<;>simp
 rw [this]
 rfl
def A40:Ty40:=fun v s K=>K (boolW v s).1 (boolW v s).2
theorem eq40 (hC:∀ key e t,C key e t=t e) (v:Int) (s:B) (K:Tk40):run40 C big v s K=A40 v s K:=by
 have hrun:run40 C big v s K=p1_40 C big v false s (yes11.contains s) K:=by
  rw [run40_eq,yes11_eq]
  simp only [Bool.or_false]
  cases s==([121]:B)<;>cases s==([89]:B)<;>cases s==([121,101,115]:B)<;>cases s==([89,101,115]:B)<;>cases s==([89,69,83]:B)<;>cases s==([111,110]:B)<;>cases s==([79,110]:B)<;>rfl
 have hp1:p1_40 C big v false s false K=p3_40 C big v false s (no11.contains s) K:=by
  rw [p1_40_eq _ hC,no11_eq]
  simp only [Bool.or_false,cond_false]
  cases s==([110]:B)<;>cases s==([78]:B)<;>cases s==([110,111]:B)<;>cases s==([78,111]:B)<;>cases s==([78,79]:B)<;>cases s==([111,102,102]:B)<;>cases s==([79,102,102]:B)<;>rfl
 have hp3:p3_40 C big v false s false K=p4_40 C big false s (yes12.contains s) K:=by
  rw [p3_40_eq _ hC,yes12_eq]
  simp only [Bool.or_false,cond_false]
  cases s==([116,114,117,101]:B)<;>cases s==([84,114,117,101]:B)<;>rfl
 have hp4:p4_40 C big false s false K=p6_40 C big false (no12.contains s) K:=by
  rw [p4_40_eq _ hC,no12_eq]
  simp only [Bool.or_false,cond_false]
  cases s==([102,97,108,115,101]:B)<;>cases s==([70,97,108,115,101]:B)<;>rfl
 rw [hrun]
 unfold A40
 cases hy:yes11.contains s with
 | true =>
  rw [boolW_old (.inl hy),p1_40_eq _ hC,cond_true,p2_40_eq _ hC,hy]
  cases v==11<;>rfl
 | false =>
  rw [hp1]
  cases hn:no11.contains s with
  | true =>
   rw [boolW_old (.inr hn),p3_40_eq _ hC,cond_true,p2_40_eq _ hC,hy]
   cases v==11<;>rfl
  | false =>
   rw [hp3]
   unfold boolW
   rw [hy,hn]
   cases h1:yes12.contains s with
   | true=>rw [p4_40_eq _ hC,cond_true,p5_40_eq _ hC]
   | false =>
    rw [hp4,p6_40_eq _ hC,p5_40_eq _ hC,p7_40_eq _ hC]
    cases no12.contains s with
    | true=>rfl
    | false=>cases v==11<;>rfl
def A69:Ty69:=fun v s K=>K (boolW v s).1 (boolW v s).2
theorem eq69 (hC:∀ key e t,C key e t=t e) (v:Int) (s:B) (K:Tk69):run69 C big v s K=A69 v s K:=by
 have hrun:run69 C big v s K=p1_69 C big v s s (yes12.contains s) K:=by
  rw [run69_eq,yes12_eq]
  simp only [Bool.or_false]
  cases s==([116,114,117,101]:B)<;>cases s==([84,114,117,101]:B)<;>rfl
 have hp1:p1_69 C big v s s false K=p2_69 C big v s (no12.contains s) K:=by
  rw [p1_69_eq _ hC,no12_eq]
  simp only [Bool.or_false,cond_false]
  cases s==([102,97,108,115,101]:B)<;>cases s==([70,97,108,115,101]:B)<;>rfl
 have hp2:p2_69 C big v s false K=(bif v != 11 then K false false else p3_69 C big s (yes11.contains s) K):=by
  rw [p2_69_eq _ hC,yes11_eq]
  simp only [Bool.or_false,cond_false]
  cases s==([121]:B)<;>cases s==([89]:B)<;>cases s==([121,101,115]:B)<;>cases s==([89,101,115]:B)<;>cases s==([89,69,83]:B)<;>cases s==([111,110]:B)<;>cases s==([79,110]:B)<;>rfl
 have hp3:p3_69 C big s false K=p4_69 C big (no11.contains s) K:=by
  rw [p3_69_eq _ hC,no11_eq]
  simp only [Bool.or_false,cond_false]
  cases s==([110]:B)<;>cases s==([78]:B)<;>cases s==([110,111]:B)<;>cases s==([78,111]:B)<;>cases s==([78,79]:B)<;>cases s==([111,102,102]:B)<;>cases s==([79,102,102]:B)<;>rfl
 rw [hrun]
 unfold A69 boolW
 cases yes12.contains s with
 | true=>rw [p1_69_eq _ hC];rfl
 | false =>
  rw [hp1]
  cases no12.contains s with
  | true=>rw [p2_69_eq _ hC];rfl
  | false =>
   rw [hp2]
   unfold bne
   cases v==11 with
   | false=>rfl
   | true =>
    simp only [Bool.not_true,cond_false]
    cases yes11.contains s with
    | true=>rw [p3_69_eq _ hC];rfl
    | false =>
     rw [hp3,p4_69_eq _ hC]
     cases no11.contains s<;>rfl
def A70:Ty70:=fun b K=>K (boolT b)
theorem eq70 (b:Bool) (K:Tk70):run70 C big b K=A70 b K:=by rw [run70_eq];cases b<;>rfl
theorem makeD_len (neg:Bool) {w f e:B}:(makeD neg w f e).1.d.length≤w.length+f.length+1∧(makeD neg w f e).1.e.length≤e.length+30:=by
 unfold makeD
 cases isD (w++f)&&good e with
 | false=>exact ⟨Nat.zero_le _,Nat.zero_le _⟩
 | true =>
  have h1:=dropZ_len (Lib.trimRightB (w++f) 48)
  have h2:=trimR_len (w++f)
  rw [List.length_append] at h2
  simp only
  cases hz:dropZ (Lib.trimRightB (w++f) 48) with
  | nil=>exact ⟨by simp,by simp⟩
  | cons c l =>
   rw [hz] at h1
   refine ⟨by simp only at h1 ⊢;omega,?_⟩
   simp only
   unfold addN
   split
   ·exact Nat.zero_le _
   ·rename_i hg
    simp only [Bool.and_eq_true,decide_eq_true_eq] at hg
    obtain ⟨⟨hg1,hg2⟩,hg3⟩:=hg
    obtain ⟨hd,hdl,-⟩:=good_parts hg1
    unfold stepMax at hg2 hg3
    have hm:-1099511627776≤negIf (bare e).1 (((w++f).length:Int) - ((Lib.trimRightB (w++f) 48).length:Int) - (f.length:Int))∧negIf (bare e).1 (((w++f).length:Int) - ((Lib.trimRightB (w++f) 48).length:Int) - (f.length:Int))≤1099511627776:=by
     unfold negIf
     cases (bare e).1<;>exact ⟨by simp only;omega,by simp only;omega⟩
    generalize negIf (bare e).1 (((w++f).length:Int) - ((Lib.trimRightB (w++f) 48).length:Int) - (f.length:Int))=m at hm
    unfold addS
    by_cases h0:0≤m
    ·have hml:=mulAdd_len hd (m:=1) (k:=m) (by decide) ⟨h0,hm.2⟩
     have:=norm_len (bare e).1 (mulAdd (bare e).2 1 m)
     rw [dT h0]
     simp only
     omega
    ·have hil:=itoa_len (n:=-m) (by omega) (by omega)
     rw [dF h0]
     simp only
     split
     ·have:=norm_len (!(bare e).1) (lessD (Lib.itoa (-m)) (bare e).2)
      have:=lessD_len (a:=Lib.itoa (-m)) (b:=(bare e).2)
      omega
     ·have:=norm_len (bare e).1 (lessD (bare e).2 (Lib.itoa (-m)))
      have:=lessD_len (a:=(bare e).2) (b:=Lib.itoa (-m))
      omega
def DeLen (n:Nat) (d:De):Prop:=d.d.length≤n∧d.e.length≤n
theorem odd_len {t:B} {neg sgn:Bool} {d:De} (h:odd t neg sgn=some d):DeLen 0 d:=by
 unfold odd at h
 cases h1:isInf t with
 | true=>rw [h1] at h;simp only at h;cases h;exact ⟨Nat.le_refl _,Nat.le_refl _⟩
 | false =>
  rw [h1] at h
  simp only at h
  cases h2:isNan t&&!sgn with
  | true=>rw [h2] at h;simp only at h;cases h;exact ⟨Nat.le_refl _,Nat.le_refl _⟩
  | false=>rw [h2] at h;cases h
theorem fl11_len {s:B} (hs:s.length≤10000):DeLen 1000000 (fl11 s).1:=by
 have hul:=unsign_len s
 have hok:=read11_ok (unsign s).1 (signed s) (unsign s).2
 rw [fl11_read]
 generalize read11 (unsign s).1 (signed s) (unsign s).2=f at hok
 obtain ⟨k,fneg,w,fr,ex⟩:=f
 simp only at hok
 unfold toFl
 rcases hok with h0 | h0 | h0 | ⟨h0,h1,hf⟩
 ·subst h0;exact ⟨Nat.zero_le _,Nat.zero_le _⟩
 ·subst h0;exact ⟨Nat.zero_le _,Nat.zero_le _⟩
 ·subst h0;exact ⟨Nat.zero_le _,Nat.zero_le _⟩
 ·obtain ⟨-,-,-,q4,q5,q6⟩:=hf
  simp only at q4 q5 q6
  have hwl:=noU_len w
  have hfl:=noU_len fr
  have hvl:=valueF_len (noU w)
  have hk:(k==0)=false∧(k==4)=false∧(k==5)=false:=by rcases h0 with rfl | rfl | rfl<;>exact ⟨rfl,rfl,rfl⟩
  have hm:=makeD_len (unsign s).1 (w:=valueF (noU w)) (f:=noU fr) (e:=ex)
  simp only [hk.1,hk.2.1,hk.2.2]
  exact ⟨by omega,by omega⟩
theorem afterD_len (neg:Bool) {w f t:B}:DeLen (w.length+f.length+t.length+40) (afterD neg w f t).1:=by
 unfold afterD
 cases h:tailE true t with
 | none=>exact ⟨Nat.zero_le _,Nat.zero_le _⟩
 | some exp =>
  have:=(tailE_good h).2
  have hm:=makeD_len neg (w:=w) (f:=f) (e:=exp)
  exact ⟨by simp only;omega,by simp only;omega⟩
theorem fl12_len {s:B} (hs:s.length≤10000):DeLen 1000000 (fl12 s).1:=by
 have hul:=unsign_len s
 have htl:=tD_le (unsign s).2
 have hdl:=dD_le (unsign s).2
 rw [fl12_eq]
 cases ho:odd (unsign s).2 (unsign s).1 (signed s) with
 | some d=>have:=odd_len ho;exact ⟨Nat.le_trans this.1 (Nat.zero_le _),Nat.le_trans this.2 (Nat.zero_le _)⟩
 | none =>
  simp only
  cases int12 s with
  | cons a b=>exact ⟨Nat.zero_le _,Nat.zero_le _⟩
  | nil =>
   simp only
   cases hd:dD (unsign s).2 with
   | nil =>
    have hm:=makeD_len (unsign s).1 (w:=tD (unsign s).2) (f:=[]) (e:=[48])
    simp only [List.length_cons,List.length_nil] at hm
    exact ⟨Nat.le_trans hm.1 (by omega),Nat.le_trans hm.2 (by omega)⟩
   | cons c l =>
    rw [hd] at hdl
    simp only [List.length_cons] at hdl
    have h1:=tD_le l
    have h2:=dD_le l
    simp only
    cases c==46 with
    | true =>
     have:=afterD_len (unsign s).1 (w:=tD (unsign s).2) (f:=tD l) (t:=dD l)
     exact ⟨Nat.le_trans this.1 (by omega),Nat.le_trans this.2 (by omega)⟩
    | false =>
     have:=afterD_len (unsign s).1 (w:=tD (unsign s).2) (f:=[]) (t:=c :: l)
     simp only [List.length_cons,List.length_nil] at this
     exact ⟨Nat.le_trans this.1 (by omega),Nat.le_trans this.2 (by omega)⟩
theorem A66_ok {d:De} (h:DeLen 1000000 d) (K:Tk66):A66 d.kind d.neg d.d d.e K=K (printD d):=if_pos ⟨by have:=h.1;omega,by have:=h.2;omega⟩
theorem A74_ok {d:De} (h:DeLen 1000000 d) (K:Tk74):A74 d.kind d.neg d.d d.e K=K (printD d):=if_pos ⟨by have:=h.1;omega,by have:=h.2;omega⟩
def A41:Ty41:=fun v s K=>if s.length≤10000 then K (numV v s).1.1 (numV v s).1.2 (numV v s).2 else none
theorem eq41 (hC:∀ key e t,C key e t=t e) (v:Int) (s:B) (K:Tk41) (r:Out) (h:A41 v s K=some r):run41 C A62 A63 A64 A65 A66 A67 big v s K=some r:=by
 unfold A41 at h
 split at h
 ·rename_i hs
  have e62:∀ k,A62 s k=k (int12 s) (!(int12 s==[])):=fun k=>if_pos (by omega)
  have e63:∀ k,A63 s k=k (fl12 s).1.kind (fl12 s).1.neg (fl12 s).1.d (fl12 s).1.e (fl12 s).2:=fun k=>if_pos hs
  have e64:∀ k,A64 s k=k (int11 s).1 (!((int11 s).2==0)):=fun k=>if_pos (by omega)
  have e65:∀ k,A65 s k=k (fl11 s).1.kind (fl11 s).1.neg (fl11 s).1.d (fl11 s).1.e (!((fl11 s).2==0)):=fun k=>if_pos hs
  have e67:∀ k,A67 s k=k (ofT s).1 (ofT s).2:=fun k=>if_pos (by omega)
  rw [← h,run41_eq]
  simp only [p1_41_eq _ _ _ _ _ _ _ hC,e62,e63,e64,e65,e67,A66_ok (fl11_len hs),A66_ok (fl12_len hs)]
  unfold numV intV flV
  cases hv:v==11 with
  | true =>
   simp only [cond_true]
   cases !((int11 s).2==0) with
   | true=>rfl
   | false =>
    simp only [cond_false]
    cases !((fl11 s).2==0) with
    | true=>rfl
    | false=>cases (ofT s).2<;>rfl
  | false =>
   simp only [cond_false]
   cases !(int12 s==[]) with
   | true=>rfl
   | false =>
    simp only [cond_false]
    cases (fl12 s).2<;>rfl
 ·cases h
def A16:Ty16:=fun v s K=>if s.length≤10000 then K (plainV v s).1 (plainV v s).2 else none
theorem eq16 (hC:∀ key e t,C key e t=t e) (v:Int) (s:B) (K:Tk16) (r:Out) (h:A16 v s K=some r):run16 C A40 A41 A42 A43 big v s K=some r:=by
 unfold A16 at h
 split at h
 ·rename_i hs
  have e40:∀ k,A40 v s k=k (boolW v s).1 (boolW v s).2:=fun k=>rfl
  have e41:∀ k,A41 v s k=k (numV v s).1.1 (numV v s).1.2 (numV v s).2:=fun k=>if_pos hs
  have e42:∀ k,A42 s k=k (nulls.contains s):=fun k=>rfl
  have e43:∀ k,A43 s k=k s:=fun k=>if_pos (by omega)
  rw [← h,run16_eq,e40,e41,e42]
  simp only [p1_16_eq _ _ _ _ _ hC,e43]
  unfold plainV
  cases nulls.contains s with
  | true=>rfl
  | false =>
   cases (boolW v s).2 with
   | true=>cases (boolW v s).1<;>rfl
   | false=>cases (numV v s).2<;>rfl
 ·cases h
def typedV (v:Int) (tag s:B):B × Bool:=
 if tag=tNull then ([],nulls.contains s)
 else if tag=tBool then (match (boolW v s).2 with | true=>(boolT (boolW v s).1,true) | false=>([],false))
 else if tag=tInt then intV v s
 else if tag=tFloat then (match (flV v s).2 with | true=>(printD (flV v s).1,true) | false=>([],false))
 else if tag=tTime then ofT s
 else ([],false)
def tBin:B:=[116,97,103,58,121,97,109,108,46,111,114,103,44,50,48,48,50,58,98,105,110,97,114,121]
def A45:Ty45:=fun v tag s K=>if s.length≤10000∧tag ≠ tBin then K (typedV v tag s).1 (typedV v tag s).2 else none
theorem pos_form (s:B):decide ((int11 s).2 > 0)=!((int11 s).2==0):=by
 have h:(int11 s).2=0∨(int11 s).2 > 0:=by
  rw [int11_form]
  unfold form11
  split
  ·exact .inl rfl
  ·split
   ·split
    ·exact .inr (by decide)
    ·split
     ·split
      ·exact .inr (by decide)
      ·exact .inl rfl
     ·split
      ·split
       ·exact .inr (by decide)
       ·exact .inl rfl
      ·split
       ·exact .inr (by decide)
       ·exact .inl rfl
   ·split
    ·exact .inl rfl
    ·split
     ·exact .inr (by decide)
     ·split
      ·exact .inr (by decide)
      ·exact .inl rfl
 rcases h with e | e
 ·rw [e];rfl
 ·rw [dT e]
  have:((int11 s).2==0)=false:=by simp;omega
  rw [this];rfl
theorem eq45 {N77:Ty77} (v:Int) (tag s:B) (K:Tk45) (r:Out) (h:A45 v tag s K=some r):run45 C A44 A69 A70 A71 A72 A73 A74 A75 A76 N77 big v tag s K=some r:=by
 unfold A45 at h
 split at h
 ·rename_i hc
  obtain ⟨hs,hb⟩:=hc
  have e44:∀ k,A44 s k=k (nulls.contains s):=fun k=>rfl
  have e69:∀ k,A69 v s k=k (boolW v s).1 (boolW v s).2:=fun k=>rfl
  have e70:∀ b k,A70 b k=k (boolT b):=fun b k=>rfl
  have e71:∀ k,A71 s k=k (int12 s) (!(int12 s==[])):=fun k=>if_pos (by omega)
  have e72:∀ k,A72 s k=k (int11 s).1 (int11 s).2:=fun k=>if_pos (by omega)
  have e73:∀ k,A73 s k=k (fl12 s).1.kind (fl12 s).1.neg (fl12 s).1.d (fl12 s).1.e (fl12 s).2:=fun k=>if_pos hs
  have e75:∀ k,A75 s k=k (fl11 s).1.kind (fl11 s).1.neg (fl11 s).1.d (fl11 s).1.e (fl11 s).2:=fun k=>if_pos hs
  have e76:∀ k,A76 s k=k (ofT s).1 (ofT s).2:=fun k=>if_pos (by omega)
  have hbin:(tag==tBin)=false:=by
   cases e:tag==tBin with
   | false=>rfl
   | true=>exact absurd (eq_of_beq e) hb
  have hbeq:∀ x:B,(tag==x)=decide (tag=x):=by intro x;rw [Bool.eq_iff_iff];simp
  rw [← h,run45_eq,e44,e69,e71,e72,e73,e75,e76]
  simp only [e70,pos_form,A74_ok (fl12_len hs),A74_ok (fl11_len hs)]
  unfold typedV
  have hbin':(tag==([116,97,103,58,121,97,109,108,46,111,114,103,44,50,48,48,50,58,98,105,110,97,114,121]:B))=false:=hbin
  rw [hbin']
  by_cases h1:tag=tNull
  ·rw [if_pos h1,h1];rfl
  ·have h1':(tag==([116,97,103,58,121,97,109,108,46,111,114,103,44,50,48,48,50,58,110,117,108,108]:B))=false:=by rw [hbeq];exact dF h1
   rw [if_neg h1,h1',cond_false]
   by_cases h2:tag=tBool
   ·rw [if_pos h2,h2]
    show (bif !(boolW v s).2 then K [] false else K (boolT (boolW v s).1) true)=_
    cases (boolW v s).2<;>rfl
   ·have h2':(tag==([116,97,103,58,121,97,109,108,46,111,114,103,44,50,48,48,50,58,98,111,111,108]:B))=false:=by rw [hbeq];exact dF h2
    rw [if_neg h2,h2',cond_false]
    by_cases h3:tag=tInt
    ·rw [if_pos h3,h3]
     show (bif v != 11 then K (int12 s) (!(int12 s==[])) else K (int11 s).1 (!((int11 s).2==0)))=_
     unfold intV bne
     cases v==11<;>rfl
    ·have h3':(tag==([116,97,103,58,121,97,109,108,46,111,114,103,44,50,48,48,50,58,105,110,116]:B))=false:=by rw [hbeq];exact dF h3
     rw [if_neg h3,h3',cond_false]
     by_cases h4:tag=tFloat
     ·rw [if_pos h4,h4]
      show (bif v != 11 then (bif !(fl12 s).2 then K [] false else K (printD (fl12 s).1) true) else (bif (fl11 s).2==0 then K [] false else K (printD (fl11 s).1) true))=_
      unfold flV bne
      cases v==11 with
      | true=>simp only [Bool.not_true,cond_false];cases (fl11 s).2==0<;>rfl
      | false=>simp only [Bool.not_false,cond_true];cases (fl12 s).2<;>rfl
     ·have h4':(tag==([116,97,103,58,121,97,109,108,46,111,114,103,44,50,48,48,50,58,102,108,111,97,116]:B))=false:=by rw [hbeq];exact dF h4
      rw [if_neg h4,h4',cond_false]
      by_cases h5:tag=tTime
      ·rw [if_pos h5,h5];rfl
      ·have h5':(tag==([116,97,103,58,121,97,109,108,46,111,114,103,44,50,48,48,50,58,116,105,109,101,115,116,97,109,112]:B))=false:=by rw [hbeq];exact dF h5
       rw [if_neg h5,h5'];rfl
 ·cases h
def A17:Ty17:=fun v s K=>if s.length≤10000 then K (plainV v s).1 (plainV v s).2 else none
theorem eq17 (hC:∀ key e t,C key e t=t e) (v:Int) (s:B) (K:Tk17) (r:Out) (h:A17 v s K=some r):run17 C A44 A45 big v s K=some r:=by
 unfold A17 at h
 split at h
 ·rename_i hs
  have e44:∀ k,A44 s k=k (nulls.contains s):=fun k=>rfl
  have b:∀ k,A45 v [116,97,103,58,121,97,109,108,46,111,114,103,44,50,48,48,50,58,98,111,111,108] s k=k (typedV v tBool s).1 (typedV v tBool s).2:=fun k=>if_pos ⟨hs,by decide⟩
  have i:∀ k,A45 v [116,97,103,58,121,97,109,108,46,111,114,103,44,50,48,48,50,58,105,110,116] s k=k (typedV v tInt s).1 (typedV v tInt s).2:=fun k=>if_pos ⟨hs,by decide⟩
  have f:∀ k,A45 v [116,97,103,58,121,97,109,108,46,111,114,103,44,50,48,48,50,58,102,108,111,97,116] s k=k (typedV v tFloat s).1 (typedV v tFloat s).2:=fun k=>if_pos ⟨hs,by decide⟩
  have t:∀ k,A45 v [116,97,103,58,121,97,109,108,46,111,114,103,44,50,48,48,50,58,116,105,109,101,115,116,97,109,112] s k=k (typedV v tTime s).1 (typedV v tTime s).2:=fun k=>if_pos ⟨hs,by decide⟩
  have tb:typedV v tBool s=(match (boolW v s).2 with | true=>(boolT (boolW v s).1,true) | false=>([],false)):=by unfold typedV;rw [if_neg (by decide),if_pos rfl]
  have ti:typedV v tInt s=intV v s:=by unfold typedV;rw [if_neg (by decide),if_neg (by decide),if_pos rfl]
  have tf:typedV v tFloat s=(match (flV v s).2 with | true=>(printD (flV v s).1,true) | false=>([],false)):=by unfold typedV;rw [if_neg (by decide),if_neg (by decide),if_neg (by decide),if_pos rfl]
  have tt:typedV v tTime s=ofT s:=by unfold typedV;rw [if_neg (by decide),if_neg (by decide),if_neg (by decide),if_neg (by decide),if_pos rfl]
  rw [← h,run17_eq,e44,b,i,f,t,tb,ti,tf,tt]
  simp only [p1_17_eq _ _ _ hC]
  unfold plainV numV
  cases nulls.contains s with
  | true=>rfl
  | false =>
   cases (boolW v s).2 with
   | true=>rfl
   | false =>
    cases (intV v s).2 with
    | true=>rfl
    | false =>
     cases (flV v s).2 with
     | true=>rfl
     | false=>cases v==11<;>cases (ofT s).2<;>rfl
 ·cases h
end Go.Proofs.YtffmgholjdfcnaaGreatDoor
