import Derived.Test.YtffmgholjdfcnaaGreatDoorYSNuM
set_option linter.unusedSimpArgs false
set_option linter.unusedVariables false
namespace Go.Proofs.YtffmgholjdfcnaaGreatDoor
open Go AM St Nu
open Go.IntKind (i64 u8)
variable {C:Nat→Env→(Env→Option Out)→Option Out}
theorem tailE_good {loose:Bool} {s e:B} (h:tailE loose s=some e):good e=true∧e.length≤s.length+1:=by
 cases s with
 | nil =>
  have h:some [48]=some e:=h
  cases h
  exact ⟨rfl,by simp⟩
 | cons c l =>
  have h:(match c==101 || c==69 with | false=>none | true=>match (loose || signed l)&&isD (unsign l).2 with | true=>some (norm (unsign l).1 (unsign l).2) | false=>none)=some e:=h
  cases hc:c==101 || c==69 with
  | false=>rw [hc] at h;cases h
  | true =>
   rw [hc] at h
   simp only at h
   cases hd:(loose || signed l)&&isD (unsign l).2 with
   | false=>rw [hd] at h;cases h
   | true =>
    rw [hd] at h
    simp only at h
    cases h
    rw [Bool.and_eq_true] at hd
    have h1:=norm_len (unsign l).1 (unsign l).2
    have h2:=unsign_len l
    exact ⟨norm_good _ _ hd.2,by simp only [List.length_cons];omega⟩
theorem dw_suf (x:UInt8) (l:B):dw x l <:+ l:=⟨tw x l,tw_dw x l⟩
structure FoOk (n:Nat) (f:Fo):Prop where
 w:(parts (noU f.2.2.1)).tail.all okP=true
 d:isD (valueF (noU f.2.2.1)++noU f.2.2.2.1)=true
 e:good f.2.2.2.2=true
 lw:f.2.2.1.length≤n
 lf:f.2.2.2.1.length≤n
 le:f.2.2.2.2.length≤n+1
theorem dgU_row (l:B):(l.takeWhile dgU).all dgU=true:=List.all_takeWhile
theorem parts_one {w:B} (h:w.all dgU=true):(parts (noU w)).tail=[]:=by
 have ⟨h1,h2⟩:=tw_all58 h
 rw [parts_noU,parts_eq,h1,h2]
 rfl
theorem parts_sixty {c:UInt8} {w:B} (hd:dg c=true) (hs:sixties (tailU w)=true):(parts (noU (c :: w))).tail.all okP=true:=by
 have h58:=dg_58 hd
 rw [parts_noU,parts_eq,tw_miss h58,dw_miss h58,List.map_cons,List.tail_cons]
 rcases tailU_dw w with ⟨h1,h2⟩ | ⟨h1,y,t,h2,h3⟩
 ·rw [h2] at hs
  rcases dw_cases 58 w with e | ⟨t,e⟩
  ·rw [e];rfl
  ·rw [e] at hs ⊢
   rw [sixties_one] at hs
   simp only
   rw [map_noU hs]
   exact hs
 ·rw [h2,sixties_no h3] at hs;cases hs
theorem read11_ok (neg sgn:Bool) (t:B):(read11 neg sgn t).1=0∨(read11 neg sgn t).1=4∨(read11 neg sgn t).1=5∨(((read11 neg sgn t).1=1∨(read11 neg sgn t).1=2∨(read11 neg sgn t).1=3)∧(read11 neg sgn t).2.1=neg∧FoOk t.length (read11 neg sgn t)):=by
 unfold read11
 cases hw:decide (wordK t sgn > 0) with
 | true =>
  simp only
  unfold wordK at hw ⊢
  cases h1:isInf t with
  | true=>exact .inr (.inl rfl)
  | false =>
   rw [h1] at hw
   simp only at hw ⊢
   cases h2:isNan t&&!sgn with
   | true=>exact .inr (.inr (.inl rfl))
   | false=>rw [h2] at hw;cases hw
 | false =>
  simp only
  have hdwl:=dw_le 46 t
  have htwl:=tw_le 46 t
  cases hdw:dw 46 t with
  | nil=>exact .inl rfl
  | cons y rest =>
   rw [hdw] at hdwl
   simp only [List.length_cons] at hdwl
   have hul:=tailU_le rest
   have hrl:=row_len rest
   simp only
   cases hte:tailE false (tailU rest) with
   | none=>exact .inl rfl
   | some exp =>
    obtain ⟨hg,hgl⟩:=tailE_good hte
    simp only
    have hfd:=noU_all (dgU_row rest)
    cases htw:tw 46 t with
    | nil =>
     simp only
     cases hn:noU (rest.takeWhile dgU) with
     | nil=>exact .inl rfl
     | cons a b =>
      refine .inr (.inr (.inr ⟨.inr (.inl rfl),rfl,?_⟩))
      refine ⟨rfl,?_,hg,Nat.zero_le _,by simp only;omega,by simp only;omega⟩
      simp only
      rw [hn] at hfd ⊢
      exact isD_of hfd (by simp)
    | cons c w =>
     rw [htw] at htwl
     simp only
     cases hds:dg c&&sixties (tailU w) with
     | false=>exact .inl rfl
     | true =>
      rw [Bool.and_eq_true] at hds
      simp only
      cases hu:tailU w with
      | nil =>
       have ha:w.all dgU=true:=by rw [← tailU_all,hu];rfl
       have hca:(c :: w).all dgU=true:=by rw [List.all_cons,ha,dg_dgU hds.1];rfl
       refine .inr (.inr (.inr ⟨.inl rfl,rfl,?_⟩))
       refine ⟨by simp only;rw [parts_one hca];rfl,?_,hg,htwl,by simp only;omega,by simp only;omega⟩
       simp only
       rw [valueF_row hca]
       exact isD_app (row_isD hds.1 ha) hfd
      | cons a b =>
       simp only
       cases hur:tailU rest with
       | cons a' b'=>exact .inl rfl
       | nil =>
        refine .inr (.inr (.inr ⟨.inr (.inr rfl),rfl,?_⟩))
        refine ⟨parts_sixty hds.1 hds.2,?_,hg,htwl,by simp only;omega,by simp only;omega⟩
        simp only
        rw [valueF_sixty hds.1 (by rw [hu];simp) hds.2]
        exact isD_app (value_good hds.1 hds.2).1 hfd
def toFl (neg:Bool) (f:Fo):De × Int:=match f.1==0 with
 | true=>(noDe,0)
 | false=>match f.1==4 with
  | true=>(⟨1,neg,[],[]⟩,4)
  | false=>match f.1==5 with
   | true=>(⟨2,false,[],[]⟩,5)
   | false=>((makeD neg (valueF (noU f.2.2.1)) (noU f.2.2.2.1) f.2.2.2.2).1,f.1)
theorem fl11_read (s:B):fl11 s=toFl (unsign s).1 (read11 (unsign s).1 (signed s) (unsign s).2):=by
 unfold fl11 read11 odd wordK
 generalize (unsign s).2=t
 generalize (unsign s).1=neg
 generalize signed s=sgn
 cases isInf t with
 | true=>rfl
 | false =>
  simp only
  cases isNan t&&!sgn with
  | true=>rfl
  | false =>
   simp only [show decide ((0:Int) > 0)=false from rfl]
   cases dw 46 t with
   | nil=>rfl
   | cons y rest =>
    simp only
    cases tailE false (tailU rest) with
    | none=>rfl
    | some exp =>
     simp only
     cases tw 46 t with
     | nil =>
      simp only
      cases hn:noU (rest.takeWhile dgU) with
      | nil=>rfl
      | cons a b=>show _=((makeD neg (valueF (noU [])) (noU (rest.takeWhile dgU)) exp).1,(2:Int));rw [hn];rfl
     | cons c w =>
      simp only
      cases hds:dg c&&sixties (tailU w) with
      | false=>rfl
      | true =>
       rw [Bool.and_eq_true] at hds
       simp only
       cases hu:tailU w with
       | nil =>
        have ha:w.all dgU=true:=by rw [← tailU_all,hu];rfl
        have hca:(c :: w).all dgU=true:=by rw [List.all_cons,ha,dg_dgU hds.1];rfl
        show _=((makeD neg (valueF (noU (c :: w))) (noU (rest.takeWhile dgU)) exp).1,(1:Int))
        rw [valueF_row hca]
       | cons a b =>
        simp only
        cases tailU rest<;>rfl
def A107:Ty107:=fun s K=>if s.length≤1000000 then K (noU s) else none
theorem eq107 (s:B) (K:Tk107) (r:Out) (h:A107 s K=some r):run107 C A102 big s K=some r:=by
 unfold A107 at h
 split at h
 ·rename_i hs
  rw [run107_eq,← h]
  exact if_pos ⟨rfl,rfl,hs⟩
 ·cases h
def A108:Ty108:=fun s K=>if (parts s).tail.all okP=true∧s.length≤1000000 then K (valueF s) else none
theorem step108 (hC:∀ key e t,C key e t=t e) (kk j j1:Nat) {l p:B} {c:UInt8} (hp:p.length≤1000) (h:c :: l <:+ p) (hc:dg c=true) {n:Int} {x3:List B} {x4:B} {xa xn:Nat} {x16 x17:Int} (hn:0≤n∧n≤1000) (K:Tk108) :
  l3_108 C A96 A103 A104 kk j (j1+1) x3 x4 p n xa xn x16 x17 (p.length:Int) (Pt p (c :: l)) K=l3_108 C A96 A103 A104 kk j j1 x3 x4 p (10 * n+dv c) xa xn x16 x17 (p.length:Int) (Pt p l) K:=by
 have hd:=dv_bd hc
 have e:(c.toNat:Int) - 48=dv c:=rfl
 rw [l3_108_eq _ _ _ _ hC,dT (Pt_lt h),cond_true,at_Pt h,oB,Pt_succ h (by omega),e,u8_in hd.1 (by omega),i64_in (n:=dv c) (by omega) (by omega),i64_in (n:=10 * n) (by omega) (by omega),i64_in (by omega) (by omega)]
theorem end108 (hC:∀ key e t,C key e t=t e) (kk j j1:Nat) {p:B} {n:Int} {x3:List B} {x4:B} {xa xn:Nat} {x16 x17:Int} (hx:x4.length≤1000000000) (K:Tk108) :
  l3_108 C A96 A103 A104 kk j (j1+1) x3 x4 p n xa xn x16 x17 (p.length:Int) (Pt p []) K=l1_108 C A96 A103 A104 kk j x3 (mulAddG x4 60 n) xa xn x16 (i64.wrap (x17+1)) K:=by
 have e104:∀ k,A104 x4 60 n k=k (mulAddG x4 60 n):=fun k=>if_pos hx
 rw [l3_108_eq _ _ _ _ hC,Pt_end,dF (by omega),cond_false,e104]
theorem p2_108_ok (hC:∀ key e t,C key e t=t e) (kk j:Nat) (hkk:3≤kk) {p:B} (ho:okP p=true) {x3:List B} {x4:B} {xa xn:Nat} {x16 x17:Int} (hx:x4.length≤1000000000) (K:Tk108) :
  p2_108 C A96 A103 A104 kk j x3 x4 p xa xn x16 x17 K=l1_108 C A96 A103 A104 kk j x3 (mulAddG x4 60 (val p)) xa xn x16 (i64.wrap (x17+1)) K:=by
 rw [p2_108_eq _ _ _ _ hC]
 obtain ⟨m,hm⟩:∃ m,kk=m+3:=⟨kk - 3,by omega⟩
 have key:∀ kk,l3_108 C A96 A103 A104 kk j (m+3) x3 x4 p 0 xa xn x16 x17 (p.length:Int) (Pt p p) K=l1_108 C A96 A103 A104 kk j x3 (mulAddG x4 60 (val p)) xa xn x16 (i64.wrap (x17+1)) K:=by
  intro kk
  unfold okP at ho
  split at ho
  ·rename_i a
   rw [step108 hC kk _ _ (by simp) (List.suffix_refl _) ho (by decide),end108 hC kk _ _ hx]
   rfl
  ·rename_i a b
   simp only [Bool.and_eq_true] at ho
   have:=dv_bd ho.1.1
   rw [step108 hC kk _ _ (by simp) (List.suffix_refl _) ho.1.1 (by decide),step108 hC kk _ _ (by simp) (List.suffix_cons a [b]) ho.2 (by omega),end108 hC kk _ _ hx]
   rfl
  ·cases ho
 have:=key kk
 rw [← hm,Pt_zero] at this
 exact this
theorem loop108 (hC:∀ key e t,C key e t=t e) (kk:Nat) (hkk:3≤kk) (ps:List B) (hps:ps.tail.all okP=true) (hl:ps.length≤1000001) (K:Tk108):∀ (q p:Nat) (j:Nat) (n:B),ps.length=p+1+q→q<j→n.length≤10000000+15 * p →
  l1_108 C A96 A103 A104 kk j ps n 1 (ps.length - 1) ((ps.length - 1:Nat):Int) (p:Int) K=K (match p,q with | 0,_+1=>foldM (norm false n) (ps.drop (p+1)) | _,_=>foldM n (ps.drop (p+1)))
 | 0,p,j,n,hp,hj,hn=>by
  obtain ⟨j,rfl⟩:∃ i,j=i+1:=⟨j - 1,by omega⟩
  rw [l1_108_eq _ _ _ _ hC,dF (by omega),cond_false,List.drop_eq_nil_of_le (by omega)]
  cases p<;>rfl
 | q+1,p,j,n,hp,hj,hn=>by
  obtain ⟨j,rfl⟩:∃ i,j=i+1:=⟨j - 1,by omega⟩
  have hlt:p+1<ps.length:=by omega
  have hok:okP ps[p+1]=true:=by
   have h1:ps[p+1] ∈ ps.tail:=by
    have:ps.tail[p]?=some ps[p+1]:=by rw [List.getElem?_tail];exact List.getElem?_eq_getElem hlt
    exact List.mem_of_getElem? this
   exact List.all_eq_true.1 hps _ h1
  have e1:ps[1+(p:Int).toNat]?=some ps[p+1]:=by
   rw [Int.toNat_natCast,Nat.add_comm]
   exact List.getElem?_eq_getElem hlt
  have ew:i64.wrap ((p:Int)+1)=((p+1:Nat):Int):=by rw [i64_in (by omega) (by omega)];omega
  have hstep:∀ n:B,n.length≤10000001+15 * p→p2_108 C A96 A103 A104 kk j ps n ps[p+1] 1 (ps.length - 1) ((ps.length - 1:Nat):Int) (p:Int) K=K (foldM n (ps.drop (p+1))):=by
   intro n hn
   have hml:=mulAddG_len n 60 (val ps[p+1])
   rw [p2_108_ok hC kk j hkk hok (by omega),ew,loop108 hC kk hkk ps hps hl K q (p+1) j _ (by omega) (by omega) (by omega),List.drop_eq_getElem_cons hlt]
   rfl
  have hnn:=norm_len false n
  have e96:∀ k,A96 false n k=k (norm false n):=fun k=>if_pos (by omega)
  rw [l1_108_eq _ _ _ _ hC,dT (show (p:Int)<((ps.length - 1:Nat):Int) by omega),cond_true,dT (show 0≤(p:Int) by omega),Bool.and_self,cond_true,e1,oB,hstep n (by omega),e96,hstep _ (by omega)]
  cases p with
  | zero=>rfl
  | succ p =>
   have:(((p+1:Nat):Int)==0)=false:=by simp;omega
   rw [this]
   rfl
theorem valueF_parts (s:B):valueF s=(match parts s with | []=>[] | p :: []=>p | p :: q :: ps=>foldM (norm false p) (q :: ps)):=rfl
theorem eq108 (hC:∀ key e t,C key e t=t e) (s:B) (K:Tk108) (r:Out) (h:A108 s K=some r):run108 C A96 A103 A104 big s K=some r:=by
 unfold A108 at h
 split at h
 ·rename_i hc
  obtain ⟨hok,hs⟩:=hc
  have e103:∀ k,A103 s [58] k=k (parts s):=fun k=>if_pos ⟨rfl,by omega⟩
  have hpl:=parts_len s
  have hpe:=parts_eq s
  have htw:=tw_le 58 s
  rw [← h,run108_eq,e103,valueF_parts]
  cases hp:parts s with
  | nil=>exact absurd hp (parts_ne _)
  | cons p0 ps =>
   rw [hp] at hok hpl hpe
   simp only [List.length_cons] at hpl
   have hp0:p0.length≤1000000:=by cases hpe;omega
   have h0:(decide (0≤(0:Int))&&decide ((0:Int)<((p0 :: ps).length:Int)))=true:=by rw [dT (by decide),dT (by simp only [List.length_cons];omega)];rfl
   have e1:(1:Int)=((1:Nat):Int):=rfl
   rw [h0,cond_true]
   simp only [List.getElem?_cons_zero,oB]
   rw [e1,cutN_from (by simp only [List.length_cons];omega),oB]
   have:=loop108 hC big (by unfold big;omega) (p0 :: ps) hok (by simp only [List.length_cons];omega) K ps.length 0 big p0 (by simp only [List.length_cons];omega) (by unfold big;omega) (by omega)
   refine this.trans ?_
   cases ps<;>rfl
 ·cases h
theorem valueF_len (s:B):(valueF s).length≤16 * s.length+15:=by
 rw [valueF_parts]
 have hpl:=parts_len s
 have hpe:=parts_eq s
 have htw:=tw_le 58 s
 cases hp:parts s with
 | nil=>exact Nat.zero_le _
 | cons p ps =>
  rw [hp] at hpl hpe
  injection hpe with hpe _
  rw [← hpe] at htw
  cases ps with
  | nil=>simp only;omega
  | cons q ps =>
   simp only
   have h1:=foldM_len (q :: ps) (norm false p)
   have h2:=norm_len false p
   simp only [List.length_cons] at h1 hpl
   omega
def A65:Ty65:=fun s K=>if s.length≤10000 then K (fl11 s).1.kind (fl11 s).1.neg (fl11 s).1.d (fl11 s).1.e (!((fl11 s).2==0)) else none
theorem eq65 (s:B) (K:Tk65) (r:Out) (h:A65 s K=some r):run65 C A99 A106 A107 A108 big s K=some r:=by
 unfold A65 at h
 split at h
 ·rename_i hs
  have e106:∀ k,A106 s k=k (read11 (unsign s).1 (signed s) (unsign s).2).1 (read11 (unsign s).1 (signed s) (unsign s).2).2.1 (read11 (unsign s).1 (signed s) (unsign s).2).2.2.1 (read11 (unsign s).1 (signed s) (unsign s).2).2.2.2.1 (read11 (unsign s).1 (signed s) (unsign s).2).2.2.2.2:=fun k=>if_pos (by omega)
  have hul:=unsign_len s
  have hok:=read11_ok (unsign s).1 (signed s) (unsign s).2
  rw [← h,run65_eq,e106,fl11_read]
  have hneg:(read11 (unsign s).1 (signed s) (unsign s).2).1=4→(read11 (unsign s).1 (signed s) (unsign s).2).2.1=(unsign s).1:=by
   intro h4
   unfold read11 at h4 ⊢
   cases hw:decide (wordK (unsign s).2 (signed s) > 0) with
   | true=>rfl
   | false =>
    rw [hw] at h4
    simp only at h4 ⊢
    exfalso
    revert h4
    cases dw 46 (unsign s).2 with
    | nil=>intro h4;cases h4
    | cons y rest =>
     simp only
     cases tailE false (tailU rest) with
     | none=>intro h4;cases h4
     | some exp =>
      simp only
      cases tw 46 (unsign s).2 with
      | nil =>
       simp only
       cases noU (rest.takeWhile dgU) with
       | nil=>intro h4;cases h4
       | cons a b=>intro h4;cases h4
      | cons c w =>
       simp only
       cases dg c&&sixties (tailU w) with
       | false=>intro h4;cases h4
       | true =>
        simp only
        cases tailU w with
        | nil=>intro h4;cases h4
        | cons a b =>
         simp only
         cases tailU rest with
         | nil=>intro h4;cases h4
         | cons a b=>intro h4;cases h4
  generalize (unsign s).2=t at *
  generalize (unsign s).1=neg at *
  generalize signed s=sgn at *
  generalize read11 neg sgn t=f at *
  obtain ⟨k,fneg,w,fr,ex⟩:=f
  simp only at hok hneg ⊢
  rcases hok with h0 | h0 | h0 | ⟨h0,h1,hf⟩
  ·subst h0;rfl
  ·subst h0
   rw [hneg rfl];rfl
  ·subst h0;rfl
  ·subst h1
   obtain ⟨q1,q2,q3,q4,q5,q6⟩:=hf
   simp only at q1 q2 q3 q4 q5 q6
   have hwl:=noU_len w
   have hfl:=noU_len fr
   have hvl:=valueF_len (noU w)
   have e107:∀ x k,x.length≤10000→A107 x k=k (noU x):=fun x k hx=>if_pos (by omega)
   have e108:∀ k,A108 (noU w) k=k (valueF (noU w)):=fun k=>if_pos ⟨q1,by omega⟩
   have e99:∀ k,A99 fneg (valueF (noU w)) (noU fr) ex k=k (makeD fneg (valueF (noU w)) (noU fr) ex).1.kind (makeD fneg (valueF (noU w)) (noU fr) ex).1.neg (makeD fneg (valueF (noU w)) (noU fr) ex).1.d (makeD fneg (valueF (noU w)) (noU fr) ex).1.e (makeD fneg (valueF (noU w)) (noU fr) ex).2:=fun k=>if_pos ⟨by omega,by omega,by omega⟩
   have hmk:(makeD fneg (valueF (noU w)) (noU fr) ex).2=true:=by
    unfold makeD
    rw [q2,q3]
    simp only [Bool.and_self]
    cases dropZ (Lib.trimRightB (valueF (noU w)++noU fr) 48)<;>rfl
   have hk:(k==0)=false∧(k==4)=false∧(k==5)=false:=by rcases h0 with rfl | rfl | rfl<;>exact ⟨rfl,rfl,rfl⟩
   rw [hk.1,hk.2.1,hk.2.2]
   simp only [cond_false]
   rw [e107 _ _ (by omega),e108,e107 _ _ (by omega),e99,hmk]
   unfold toFl
   simp only [hk.1,hk.2.1,hk.2.2]
   rfl
 ·cases h
end Go.Proofs.YtffmgholjdfcnaaGreatDoor
