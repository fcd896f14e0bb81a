import Derived.Test.YtffmgholjdfcnaaGreatDoorYSNvD
set_option linter.unusedSimpArgs false
set_option linter.unusedVariables false
namespace Go.Proofs.YtffmgholjdfcnaaGreatDoor
open Go AM St Nu
theorem time_no {t:B} (h:(ofT t).2=true):nulls.contains t=false∧boolW 11 t=(false,false)∧(int11 t).2=0∧(fl11 t).2=0:=by
 obtain ⟨a,b,c,d,r,e,ha,hb,hc,hd⟩:=ofT_form h
 have h45:dgU 45=false:=by decide
 have ht:tailU (b :: c :: d :: 45 :: r)=45 :: r:=by rw [tailU_yes (dg_dgU hb),tailU_yes (dg_dgU hc),tailU_yes (dg_dgU hd),tailU_no h45]
 have hu:unsign t=(false,t):=by rw [e];exact unsign_dg ha _
 have h11:(int11 t).2=0:=by
  rw [int11_form,hu,e]
  unfold form11
  cases h48:a==48 with
  | true =>
   have h8:rowB 8 (b :: c :: d :: 45 :: r)=false:=by
    unfold rowB
    have h1:((45:UInt8)==95 || decide (hexD 45<8))=false:=by decide
    simp only [List.all_cons,h1,Bool.false_and,Bool.and_false]
   simp only [h48,dg_not hb (x:=98) (by decide),dg_not hb (x:=120) (by decide),h8]
  | false =>
   simp only [h48,ha,ht]
   rw [sixties_no (by decide)]
 have hf:(fl11 t).2=0:=by
  unfold fl11
  have ho:odd (unsign t).2 (unsign t).1 (signed t)=none:=by
   rw [hu,e]
   exact odd_dg (fun h=>by rw [h] at ha;exact absurd ha (by decide)) _ _ _
  rw [ho,hu]
  simp only
  cases dw 46 t with
  | nil=>rfl
  | cons y rest =>
   simp only
   cases tailE false (tailU rest) with
   | none=>rfl
   | some exp =>
    have htw:tw 46 t=a :: b :: c :: d :: 45 :: tw 46 r:=by rw [e,tw_miss (dg_46 ha),tw_miss (dg_46 hb),tw_miss (dg_46 hc),tw_miss (dg_46 hd),tw_miss (by decide)]
    rw [htw]
    have ht2:tailU (b :: c :: d :: 45 :: tw 46 r)=45 :: tw 46 r:=by rw [tailU_yes (dg_dgU hb),tailU_yes (dg_dgU hc),tailU_yes (dg_dgU hd),tailU_no h45]
    simp only
    rw [ht2,sixties_no (by decide),Bool.and_false]
 have h1:nulls.contains t=false:=by rw [e];exact noNull (dg_lt ha) _
 have h2:boolW 11 t=(false,false):=by rw [e];exact noWord (dg_lt ha) _ 11
 exact ⟨h1,h2,h11,hf⟩
theorem dw_none:∀ {l:B},(∀ x,x ∈ l→x ≠ 46)→dw 46 l=[]
 | [],h=>rfl
 | c :: l,h=>by
  have hc:(c==46)=false:=by simpa using h c (by simp)
  have ih:=dw_none (l:=l) (fun x hx=>h x (List.mem_cons_of_mem _ hx))
  unfold dw at ih ⊢
  rw [List.dropWhile_cons_of_pos (by rw [hc];rfl),ih]
theorem rowB_no {b:Int} (hb:b≤16) {l:B} (h:rowB b l=true):∀ x,x ∈ l→x ≠ 46:=by
 intro x hx e
 subst e
 unfold rowB at h
 rw [Bool.and_eq_true] at h
 have:=List.all_eq_true.1 h.1 46 hx
 have h2:hexD 46=99:=by decide
 simp [h2] at this
 omega
theorem okP_no {p:B} (h:okP p=true):∀ x,x ∈ p→x ≠ 46:=by
 intro x hx e
 subst e
 unfold okP at h
 split at h
 ·rename_i a
  simp only [List.mem_singleton] at hx
  subst hx
  exact absurd h (by decide)
 ·rename_i a b
  simp only [Bool.and_eq_true] at h
  simp only [List.mem_cons,List.not_mem_nil,or_false] at hx
  rcases hx with hx | hx
  ·subst hx;exact absurd h.1.1 (by decide)
  ·subst hx;exact absurd h.2 (by decide)
 ·cases h
theorem parts_mem:∀ (l:B) (x:UInt8),x ∈ l→x=58∨∃ p,p ∈ parts l∧x ∈ p
 | [],x,h=>by cases h
 | c :: l,x,h=>by
  have hne:parts l ≠ []:=by
   cases l with
   | nil=>intro h;cases h
   | cons d l =>
    unfold parts
    cases d==58 with
    | true=>intro h;cases h
    | false =>
     simp only
     cases parts l with
     | nil=>intro h;cases h
     | cons p ps=>intro h;cases h
  rw [parts]
  cases hc:c==58 with
  | true =>
   simp only
   rcases List.mem_cons.1 h with h | h
   ·exact .inl (by rw [h];exact eq_of_beq hc)
   ·rcases parts_mem l x h with e | ⟨p,hp,hx⟩
    ·exact .inl e
    ·exact .inr ⟨p,List.mem_cons_of_mem _ hp,hx⟩
  | false =>
   simp only
   cases hp:parts l with
   | nil=>exact absurd hp hne
   | cons q ps =>
    simp only
    rcases List.mem_cons.1 h with h | h
    ·exact .inr ⟨c :: q,List.mem_cons_self,by rw [h];exact List.mem_cons_self⟩
    ·rcases parts_mem l x h with e | ⟨p,hp',hx⟩
     ·exact .inl e
     ·rw [hp] at hp'
      rcases List.mem_cons.1 hp' with e | e
      ·subst e;exact .inr ⟨c :: p,List.mem_cons_self,List.mem_cons_of_mem _ hx⟩
      ·exact .inr ⟨p,List.mem_cons_of_mem _ e,hx⟩
theorem sixties_noPt {l:B} (h:sixties l=true):∀ x,x ∈ l→x ≠ 46:=by
 intro x hx
 cases l with
 | nil=>cases hx
 | cons c l =>
  unfold sixties at h
  simp only at h
  cases hc:c==58 with
  | false=>rw [hc] at h;cases h
  | true =>
   rw [hc] at h
   simp only at h
   rcases List.mem_cons.1 hx with e | e
   ·rw [e,eq_of_beq hc];decide
   ·rcases parts_mem l x e with e | ⟨p,hp,hxp⟩
    ·rw [e];decide
    ·exact okP_no (List.all_eq_true.1 h p hp) x hxp
theorem tail_no:∀ {l:B},(∀ x,x ∈ tailU l→x ≠ 46)→∀ x,x ∈ l→x ≠ 46
 | [],h,x,hx=>by cases hx
 | c :: l,h,x,hx=>by
  cases hd:dgU c with
  | false=>rw [tailU_no hd] at h;exact h x hx
  | true =>
   rw [tailU_yes hd] at h
   rcases List.mem_cons.1 hx with e | e
   ·rw [e];intro e2;rw [e2] at hd;exact absurd hd (by decide)
   ·exact tail_no h x e
theorem i11_noPt {s:B} (h:((int11 s).2==0)=false):∃ c l,(unsign s).2=c :: l∧c ≠ 46∧∀ x,x ∈ c :: l→x ≠ 46:=by
 unfold int11 at h
 cases hu:(unsign s).2 with
 | nil=>rw [hu] at h;cases h
 | cons c l =>
  rw [hu] at h
  simp only at h
  have fin:c ≠ 46→(∀ x,x ∈ l→x ≠ 46)→∃ c' l',c :: l=c' :: l'∧c' ≠ 46∧∀ x,x ∈ c' :: l'→x ≠ 46:=fun h1 h2=>⟨c,l,rfl,h1,fun x hx=>by
   rcases List.mem_cons.1 hx with e | e
   ·rw [e];exact h1
   ·exact h2 x e⟩
  have rown:∀ (neg:Bool) (b f:Int) (l:B),((rowN neg b f l).2==0)=false→rowB b l=true:=by
   intro neg b f l h
   unfold rowN at h
   cases hr:rowB b l with
   | true=>rfl
   | false=>rw [hr] at h;cases h
  cases h48:c==48 with
  | true =>
   have hc:c ≠ 46:=by rw [eq_of_beq h48];decide
   rw [h48] at h
   simp only at h
   cases l with
   | nil=>exact fin hc (fun x hx=>by cases hx)
   | cons d l' =>
    simp only at h
    refine fin hc ?_
    cases h98:d==98 with
    | true =>
     rw [h98] at h
     have:=rowB_no (by decide) (rown _ _ _ _ h)
     intro x hx
     rcases List.mem_cons.1 hx with e | e
     ·rw [e,eq_of_beq h98];decide
     ·exact this x e
    | false =>
     rw [h98] at h
     simp only at h
     cases h120:d==120 with
     | true =>
      rw [h120] at h
      have:=rowB_no (by decide) (rown _ _ _ _ h)
      intro x hx
      rcases List.mem_cons.1 hx with e | e
      ·rw [e,eq_of_beq h120];decide
      ·exact this x e
     | false =>
      rw [h120] at h
      exact rowB_no (by decide) (rown _ _ _ _ h)
  | false =>
   rw [h48] at h
   simp only at h
   cases hd:dg c with
   | false=>rw [hd] at h;cases h
   | true =>
    rw [hd] at h
    simp only at h
    refine fin (fun e=>by rw [e] at hd;exact absurd hd (by decide)) (tail_no ?_)
    cases ht:tailU l with
    | nil=>intro x hx;cases hx
    | cons y l' =>
     rw [ht] at h
     simp only at h
     cases hs:sixties (y :: l') with
     | false=>rw [hs] at h;cases h
     | true=>exact sixties_noPt hs
theorem odd_int12 {s:B} {neg sgn:Bool} {d:De} (h:odd (unsign s).2 neg sgn=some d):int12 s=[]:=by
 have key:∀ t ∈ ([[46,105,110,102],[46,73,110,102],[46,73,78,70],[46,110,97,110],[46,78,97,78],[46,78,65,78]]:List B),int12 t=[]∧int12 (43 :: t)=[]∧int12 (45 :: t)=[]:=by decide +kernel
 have hm:(unsign s).2 ∈ ([[46,105,110,102],[46,73,110,102],[46,73,78,70],[46,110,97,110],[46,78,97,78],[46,78,65,78]]:List B):=by
  unfold odd at h
  cases hi:isInf (unsign s).2 with
  | true =>
   unfold isInf at hi
   simp only [Bool.or_eq_true,beq_iff_eq] at hi
   rcases hi with (e | e) | e<;>rw [e]<;>simp
  | false =>
   rw [hi] at h
   simp only at h
   cases hn:isNan (unsign s).2&&!sgn with
   | false=>rw [hn] at h;cases h
   | true =>
    rw [Bool.and_eq_true] at hn
    have hn:=hn.1
    unfold isNan at hn
    simp only [Bool.or_eq_true,beq_iff_eq] at hn
    rcases hn with (e | e) | e<;>rw [e]<;>simp
 obtain ⟨k1,k2,k3⟩:=key _ hm
 cases s with
 | nil=>rfl
 | cons c l =>
  cases hs:isS c with
  | false =>
   have:(unsign (c :: l)).2=c :: l:=by unfold unsign;simp only [hs]
   rw [this] at k1
   exact k1
  | true =>
   have:(unsign (c :: l)).2=l:=by unfold unsign;simp only [hs]
   rw [this] at k2 k3
   unfold isS at hs
   simp only [Bool.or_eq_true,beq_iff_eq] at hs
   rcases hs with e | e
   ·rw [e];exact k2
   ·rw [e];exact k3
theorem int_no_float {v:Int} {s:B} (h:(intV v s).2=true):(flV v s).2=false:=by
 unfold intV at h
 unfold flV
 cases hv:v==11 with
 | true =>
  rw [hv] at h
  simp only at h ⊢
  have h':((int11 s).2==0)=false:=by simpa using h
  obtain ⟨c,l,e,hc,hno⟩:=i11_noPt h'
  have:(fl11 s).2=0:=by
   unfold fl11
   rw [e,odd_dg hc]
   simp only
   rw [dw_none hno]
  rw [this];rfl
 | false =>
  rw [hv] at h
  simp only at h ⊢
  have h':int12 s ≠ []:=by simpa using h
  unfold fl12
  cases ho:odd (unsign s).2 (unsign s).1 (signed s) with
  | some d=>exact absurd (odd_int12 ho) h'
  | none =>
   simp only
   cases hi:int12 s with
   | nil=>exact absurd hi h'
   | cons a b=>rfl
end Go.Proofs.YtffmgholjdfcnaaGreatDoor
set_option linter.unusedSimpArgs false
set_option linter.unusedVariables false
namespace Go.Proofs.YtffmgholjdfcnaaGreatDoor
open Go AM St Nu
theorem buildV_needs {w:Int} {t z:B} {p:Bool} (h:needs t=true):buildV w t z p=(bif (typedB w t z).2 then ((t,(typedB w t z).1),true) else (([],[]),false)):=by
 rcases needs_cases h with e | e | e | e | e | e<;>subst e<;>rfl
theorem buildV_yes {w:Int} {t z y:B} {p:Bool} (h:needs t=true) (hz:typedB w t z=(y,true)):buildV w t z p=((t,y),true):=by
 rw [buildV_needs h,hz];rfl
theorem int_good {v:Int} {s:B} (hi:(intV v s).2=true):good (intV v s).1=true:=by
 unfold intV at hi ⊢
 cases hv:v==11 with
 | true =>
  rw [hv] at hi
  simp only at hi ⊢
  exact int11_isgood (by simpa using hi)
 | false =>
  rw [hv] at hi
  simp only at hi ⊢
  exact int12_isgood (by simpa using hi)
theorem fl_good {v:Int} {s:B} (hs:s.length≤10000) (hf:(flV v s).2=true):goodD (flV v s).1=true:=by
 unfold flV at hf ⊢
 cases hv:v==11 with
 | true =>
  rw [hv] at hf
  simp only at hf ⊢
  exact fl11_good hs (by simpa using hf)
 | false =>
  rw [hv] at hf
  simp only at hf ⊢
  exact fl12_good hs hf
theorem int_again {a:B} (h:good a=true) (w:Int):intV w a=(a,true):=by
 unfold intV
 cases w==11 with
 | true =>
  obtain ⟨k,h1,h2⟩:=int11_good h
  simp only [h1,h2];rfl
 | false =>
  simp only [int12_good h,good_ne h];rfl
theorem plain_null {v:Int} {s:B} (h:nulls.contains s=true):plainV v s=(tNull,[]):=by unfold plainV;rw [h]
theorem plain_isBool {v:Int} {s:B} (h0:nulls.contains s=false) (h:(boolW v s).2=true):plainV v s=(tBool,boolT (boolW v s).1):=by unfold plainV;rw [h0,h]
theorem plain_isInt {v:Int} {s:B} (h0:nulls.contains s=false) (h1:(boolW v s).2=false) (h:(intV v s).2=true):plainV v s=(tInt,(intV v s).1):=by unfold plainV numV;rw [h0,h1,h]
theorem plain_isFloat {v:Int} {s:B} (h0:nulls.contains s=false) (h1:(boolW v s).2=false) (h2:(intV v s).2=false) (h:(flV v s).2=true):plainV v s=(tFloat,printD (flV v s).1):=by unfold plainV numV;rw [h0,h1,h2,h]
theorem plain_isTime {v:Int} {s:B} (h0:nulls.contains s=false) (h1:(boolW v s).2=false) (h2:(intV v s).2=false) (h3:(flV v s).2=false) (hv:(v==11&&(ofT s).2)=true):plainV v s=(tTime,(ofT s).1):=by unfold plainV numV;rw [h0,h1,h2,h3,hv]
theorem plain_isStr {v:Int} {s:B} (h0:nulls.contains s=false) (h1:(boolW v s).2=false) (h2:(intV v s).2=false) (h3:(flV v s).2=false) (hv:(v==11&&(ofT s).2)=false):plainV v s=(tStr,s):=by unfold plainV numV;rw [h0,h1,h2,h3,hv]
theorem plain_typed (v:Int) (s:B):plainV v s=(tStr,s)∨(needs (plainV v s).1=true∧typedB v (plainV v s).1 s=((plainV v s).2,true)):=by
 cases h0:nulls.contains s with
 | true=>rw [plain_null h0];exact .inr ⟨rfl,by rw [ty_null,h0]⟩
 | false =>
  cases h1:(boolW v s).2 with
  | true=>rw [plain_isBool h0 h1];exact .inr ⟨rfl,by rw [ty_bool,h1];rfl⟩
  | false =>
   cases h2:(intV v s).2 with
   | true=>rw [plain_isInt h0 h1 h2];exact .inr ⟨rfl,by rw [ty_int,← h2]⟩
   | false =>
    cases h3:(flV v s).2 with
    | true=>rw [plain_isFloat h0 h1 h2 h3];exact .inr ⟨rfl,by rw [ty_float,h3];rfl⟩
    | false =>
     cases h4:v==11&&(ofT s).2 with
     | true =>
      rw [plain_isTime h0 h1 h2 h3 h4]
      rw [Bool.and_eq_true] at h4
      exact .inr ⟨rfl,by rw [ty_time,← h4.2]⟩
     | false=>exact .inl (plain_isStr h0 h1 h2 h3 h4)
theorem plain_build (v:Int) (s:B):buildV v (plainV v s).1 s true=(plainV v s,true):=by
 rcases plain_typed v s with h | ⟨h1,h2⟩
 ·rw [h];rfl
 ·exact buildV_yes h1 h2
theorem typed_own {v:Int} {t s:B} (hs:s.length≤10000) (hn:needs t=true) (h:(typedB v t s).2=true) (w:Int):typedB w t (typedB v t s).1=((typedB v t s).1,true):=by
 rcases needs_cases hn with e | e | e | e | e | e<;>subst e
 ·rw [ty_null,ty_null];rfl
 ·rw [ty_bool v s] at h ⊢
  cases hb:(boolW v s).2 with
  | false=>rw [hb] at h;cases h
  | true =>
   show typedB w tBool (boolT (boolW v s).1)=(boolT (boolW v s).1,true)
   rw [ty_bool]
   cases (boolW v s).1<;>rfl
 ·rw [ty_int] at h ⊢
  rw [ty_int]
  exact int_again (int_good h) w
 ·rw [ty_float v s] at h ⊢
  cases hf:(flV v s).2 with
  | false=>rw [hf] at h;cases h
  | true =>
   show typedB w tFloat (printD (flV v s).1)=(printD (flV v s).1,true)
   have hp:=plain_goodD (fl_good hs hf) w
   rcases plain_typed w (printD (flV v s).1) with h1 | ⟨-,h2⟩
   ·rw [hp] at h1
    have:=congrArg Prod.fst h1
    exact absurd this (show ¬ tFloat=tStr by decide)
   ·rw [hp] at h2
    exact h2
 ·rw [ty_time] at h ⊢
  rw [ty_time]
  exact ofT_idem h
 ·rw [ty_bin] at h ⊢
  rw [ty_bin,binT_again h]
  cases hb:binT s with
  | mk a b=>rw [hb] at h;simp only at h;rw [h]
theorem build_str (w:Int) (x:B) (p:Bool):buildV w tStr x p=((tStr,x),true):=by cases p<;>rfl
def forms5:List B:=[tNull,tBool,tInt,tFloat,tTime]
theorem only_one {v:Int} {s t:B} (hv:v=11∨v=12) (ht:t ∈ forms5) (hx:¬ (t=tTime∧v=12)):(typedB v t s).2=(t==(plainV v s).1):=by
 cases h0:nulls.contains s with
 | true =>
  have key:∀ s ∈ nulls,∀ t ∈ forms5,(typedB 11 t s).2=(t==(plainV 11 s).1)∧(typedB 12 t s).2=(t==(plainV 12 s).1):=by decide +kernel
  have:=key s (List.contains_iff_mem.1 h0) t ht
  rcases hv with e | e<;>subst e
  ·exact this.1
  ·exact this.2
 | false =>
  cases h1:(boolW v s).2 with
  | true =>
   have hm:s ∈ yes12++no12∨(v=11∧s ∈ yes11++no11):=by
    unfold boolW at h1
    cases hy:yes12.contains s with
    | true=>exact .inl (List.mem_append.2 (.inl (List.contains_iff_mem.1 hy)))
    | false =>
     cases hn:no12.contains s with
     | true=>exact .inl (List.mem_append.2 (.inr (List.contains_iff_mem.1 hn)))
     | false =>
      rw [hy,hn] at h1
      simp only at h1
      cases h11:v==11 with
      | false=>rw [h11] at h1;cases h1
      | true =>
       rw [h11] at h1
       simp only [Bool.or_eq_true] at h1
       refine .inr ⟨eq_of_beq h11,?_⟩
       rcases h1 with h | h
       ·exact List.mem_append.2 (.inl (List.contains_iff_mem.1 h))
       ·exact List.mem_append.2 (.inr (List.contains_iff_mem.1 h))
   have k1:∀ s ∈ yes12++no12,∀ t ∈ forms5,(typedB 11 t s).2=(t==(plainV 11 s).1)∧(typedB 12 t s).2=(t==(plainV 12 s).1):=by decide +kernel
   have k2:∀ s ∈ yes11++no11,∀ t ∈ forms5,(typedB 11 t s).2=(t==(plainV 11 s).1):=by decide +kernel
   rcases hm with hm | ⟨e,hm⟩
   ·have:=k1 s hm t ht
    rcases hv with e | e<;>subst e
    ·exact this.1
    ·exact this.2
   ·subst e;exact k2 s hm t ht
  | false =>
   have tm:(v==11&&(ofT s).2)=true→(intV v s).2=false∧(flV v s).2=false:=by
    intro h
    rw [Bool.and_eq_true] at h
    obtain ⟨-,-,h3,h4⟩:=time_no h.2
    unfold intV flV
    rw [h.1]
    simp only [h3,h4]
    exact ⟨rfl,rfl⟩
   simp only [forms5,List.mem_cons,List.not_mem_nil,or_false] at ht
   cases h2:(intV v s).2 with
   | true =>
    have hf:=int_no_float h2
    rw [plain_isInt h0 h1 h2]
    rcases ht with e | e | e | e | e<;>subst e
    ·rw [ty_null];exact h0
    ·rw [ty_bool,h1];rfl
    ·rw [ty_int];exact h2
    ·rw [ty_float,hf];rfl
    ·rw [ty_time]
     have h11:v=11:=by rcases hv with e | e;exact e;exact absurd ⟨rfl,e⟩ hx
     cases ho:(ofT s).2 with
     | false=>rfl
     | true =>
      have:=(tm (by rw [h11,ho];rfl)).1
      rw [h2] at this;cases this
   | false =>
    cases h3:(flV v s).2 with
    | true =>
     rw [plain_isFloat h0 h1 h2 h3]
     rcases ht with e | e | e | e | e<;>subst e
     ·rw [ty_null];exact h0
     ·rw [ty_bool,h1];rfl
     ·rw [ty_int];exact h2
     ·rw [ty_float,h3];rfl
     ·rw [ty_time]
      have h11:v=11:=by rcases hv with e | e;exact e;exact absurd ⟨rfl,e⟩ hx
      cases ho:(ofT s).2 with
      | false=>rfl
      | true =>
       have:=(tm (by rw [h11,ho];rfl)).2
       rw [h3] at this;cases this
    | false =>
     cases h4:v==11&&(ofT s).2 with
     | true =>
      rw [plain_isTime h0 h1 h2 h3 h4]
      rw [Bool.and_eq_true] at h4
      rcases ht with e | e | e | e | e<;>subst e
      ·rw [ty_null];exact h0
      ·rw [ty_bool,h1];rfl
      ·rw [ty_int];exact h2
      ·rw [ty_float,h3];rfl
      ·rw [ty_time];exact h4.2
     | false =>
      rw [plain_isStr h0 h1 h2 h3 h4]
      rcases ht with e | e | e | e | e<;>subst e
      ·rw [ty_null];exact h0
      ·rw [ty_bool,h1];rfl
      ·rw [ty_int];exact h2
      ·rw [ty_float,h3];rfl
      ·rw [ty_time]
       have h11:v=11:=by rcases hv with e | e;exact e;exact absurd ⟨rfl,e⟩ hx
       rw [h11] at h4
       have h5:(ofT s).2=false:=by simpa using h4
       rw [h5];rfl
theorem plain_tag_len (v:Int) (s:B):(plainV v s).1.length≤40:=by
 rcases plain_typed v s with h | ⟨h1,-⟩
 ·rw [h];show tStr.length≤40;decide
 ·rcases needs_cases h1 with e | e | e | e | e | e<;>rw [e]<;>decide
theorem typed_len {v:Int} {t s:B} (hn:needs t=true):(typedB v t s).1.length≤40 * s.length+200:=by
 rcases needs_cases hn with e | e | e | e | e | e<;>subst e
 ·rw [ty_null];simp
 ·rw [ty_bool];cases (boolW v s).2<;>simp;cases (boolW v s).1<;>simp [boolT]<;>omega
 ·rw [ty_int]
  unfold intV
  have:=int11_len s
  have:=int12_len s
  cases v==11<;>simp only<;>omega
 ·rw [ty_float]
  have hf:DeLen (17 * s.length+60) (flV v s).1:=by
   unfold flV
   cases v==11 with
   | true=>exact fl11_len2 s
   | false=>exact fl12_len2 s
  have:=printD_len (flV v s).1
  have h1:=hf.1
  have h2:=hf.2
  cases (flV v s).2<;>simp;omega
 ·rw [ty_time]
  have:=ofT_len s
  omega
 ·rw [ty_bin]
  unfold binT
  have:=clean_len s
  cases dec64 (clean s)<;>simp;omega
end Go.Proofs.YtffmgholjdfcnaaGreatDoor
