import Derived.Test.YtffmgholjdfcnaaGreatDoorYSNuK
set_option linter.unusedSimpArgs false
set_option linter.unusedVariables false
namespace Go.Proofs.YtffmgholjdfcnaaGreatDoor
open Go AM St Nu
open Go.IntKind (i64 u8)
variable {C:Nat→Env→(Env→Option Out)→Option Out}
def bareR (b:Int) (s:B):B:=match s.all (fun c=>c==95 || decide (hexD c<b)) with | true=>noU s | false=>[]
def A116:Ty116:=fun s b K=>if s.length≤1000000 then K (bareR b s) (rowB b s) else none
theorem loop116 (hC:∀ key e t,C key e t=t e) {s:B} (hs:s.length≤1000000) {b:Int} {K:Tk116} (kk:Nat):∀ (l acc:B) (j:Nat),l <:+ s→l.length<j→acc.length+l.length≤1000000 →
  l1_116 C A90 kk j s b (acc.map nI) (Pt s l) K=(match l.all (fun c=>c==95 || decide (hexD c<b)) with | true=>K (acc++noU l) (!(acc++noU l==[])) | false=>K [] false)
 | [],acc,j,h,hj,ha=>by
  obtain ⟨j,rfl⟩:∃ i,j=i+1:=⟨j - 1,by omega⟩
  rw [l1_116_eq _ _ hC,Pt_end,dF (by omega),cond_false,map_nI]
  have e0:noU ([]:B)=[]:=rfl
  have e1:decide (((acc.map nI).length:Int) > 0)=!(acc==[]):=by
   cases acc with
   | nil=>rfl
   | cons x t=>exact dT (by simp only [List.length_map,List.length_cons];omega)
  rw [e0,List.append_nil,e1]
  rfl
 | c :: l,acc,j,h,hj,ha=>by
  obtain ⟨j,rfl⟩:∃ i,j=i+1:=⟨j - 1,by omega⟩
  have hl:l <:+ s:=(List.suffix_cons c l).trans h
  simp only [List.length_cons] at ha hj
  have e90:∀ k,A90 (c.toNat:Int) k=k (hexD c):=fun k=>if_pos (u8_bd c)
  have ea:acc.map nI++[(c.toNat:Int)]=(acc++[c]).map nI:=by rw [List.map_append];rfl
  rw [l1_116_eq _ _ hC,dT (Pt_lt h),cond_true,at_Pt h]
  simp only [oB,e90,ea,p2_116_eq _ _ hC,Pt_succ h (by omega:s.length≤1099511627776),eqB 95 (n:=95) rfl,List.all_cons]
  rw [loop116 hC hs kk l acc j hl (by omega) (by omega),loop116 hC hs kk l (acc++[c]) j hl (by omega) (by simp;omega)]
  cases h95:c==95 with
  | true=>rw [eq_of_beq h95,noU_hit];rfl
  | false =>
   rw [noU_miss h95]
   by_cases hb:hexD c ≥ b
   ·rw [dT hb,dF (show ¬ hexD c<b by omega)];rfl
   ·rw [dF hb,dT (show hexD c<b by omega),dT (show ((acc++[c]).map nI).length≤1099511627776 by simp;omega)]
    simp only [cond_false,cond_true,Bool.false_or,Bool.true_and,List.append_assoc,List.singleton_append]
theorem eq116 (hC:∀ key e t,C key e t=t e) (s:B) (b:Int) (K:Tk116) (r:Out) (h:A116 s b K=some r):run116 C A90 big s b K=some r:=by
 unfold A116 at h
 split at h
 ·rename_i hs
  have:=loop116 hC hs (b:=b) (K:=K) big s [] big (List.suffix_refl s) (by unfold big;omega) (by simp;omega)
  rw [Pt_zero] at this
  rw [run116_eq,← h]
  refine this.trans ?_
  unfold bareR rowB
  simp only [List.nil_append]
  cases s.all (fun c=>c==95 || decide (hexD c<b))<;>rfl
 ·cases h
def findX (x:UInt8) (s:B):Int:=match dw x s with | []=>-1 | _ :: _=>((tw x s).length:Int)
def A122:Ty122:=fun s c K=>if 0≤c∧c≤255∧s.length≤1000000 then K (findX c.toNat.toUInt8 s) else none
theorem loop122 (hC:∀ key e t,C key e t=t e) {s:B} (hs:s.length≤1000000) {x:UInt8} {K:Tk122} (kk:Nat):∀ (l:B) (j:Nat),l <:+ s→l.length<j → 
  l1_122 C kk j s (x.toNat:Int) (Pt s l) K=K (match dw x l with | []=>-1 | _ :: _=>Pt s l+((tw x l).length:Int))
 | [],j,h,hj=>by
  obtain ⟨j,rfl⟩:∃ i,j=i+1:=⟨j - 1,by omega⟩
  rw [l1_122_eq _ hC,Pt_end,dF (by omega),cond_false]
  rfl
 | c :: l,j,h,hj=>by
  obtain ⟨j,rfl⟩:∃ i,j=i+1:=⟨j - 1,by omega⟩
  have hl:l <:+ s:=(List.suffix_cons c l).trans h
  have hp:=Pt_cons h
  rw [l1_122_eq _ hC,dT (Pt_lt h),cond_true,at_Pt h,oB,eqB x rfl,Pt_succ h (by omega),loop122 hC hs kk l j hl (by simp at hj;omega)]
  cases hc:c==x with
  | true =>
   rw [eq_of_beq hc,dw_hit,tw_hit]
   simp
  | false =>
   rw [dw_miss hc,tw_miss hc,cond_false]
   cases dw x l with
   | nil=>rfl
   | cons a t =>
    simp only [List.length_cons]
    congr 1
    omega
theorem eq122 (hC:∀ key e t,C key e t=t e) (s:B) (c:Int) (K:Tk122) (r:Out) (h:A122 s c K=some r):run122 C big s c K=some r:=by
 unfold A122 at h
 split at h
 ·rename_i hc
  have hx:((c.toNat.toUInt8).toNat:Int)=c:=by
   have:(c.toNat.toUInt8).toNat=c.toNat % 256:=rfl
   omega
  have:=loop122 hC hc.2.2 (x:=c.toNat.toUInt8) (K:=K) big s big (List.suffix_refl s) (by unfold big;omega)
  rw [hx,Pt_zero] at this
  rw [run122_eq,this,← h]
  unfold findX
  cases dw c.toNat.toUInt8 s with
  | nil=>rfl
  | cons a t=>simp only [Int.zero_add]
 ·cases h
theorem A122_ok {s:B} {x:UInt8} {c:Int} (hx:c=(x.toNat:Int)) (hs:s.length≤1000000) (K:Tk122):A122 s c K=K (findX x s):=by
 subst hx
 have e:((x.toNat:Int).toNat).toUInt8=x:=by simp
 have:=u8_bd x
 unfold A122
 rw [if_pos ⟨this.1,this.2,hs⟩,e]
def A117:Ty117:=fun w K=>if w.length≤1000000 then K (sixtyR w).1 (sixtyR w).2 else none
theorem okP_is (p:B):okP p=(isD p&&!decide ((p.length:Int) > 2)&&!(((p.length:Int)==2)&&decide (((p.headD 0).toNat:Int) > 53))):=by
 match p with
 | []=>rfl
 | [a] =>
  have e1:decide ((([a]:B).length:Int) > 2)=false:=rfl
  have e2:((([a]:B).length:Int)==2)=false:=rfl
  rw [e1,e2]
  show dg a=_
  unfold isD
  simp
 | [a,b] =>
  have e1:decide ((([a,b]:B).length:Int) > 2)=false:=rfl
  have e2:((([a,b]:B).length:Int)==2)=true:=rfl
  have e3:decide (((([a,b]:B).headD 0).toNat:Int) > 53)=!decide (a.toNat≤53):=by
   rw [List.headD_cons,← decide_not]
   apply decide_eq_decide.2
   omega
  rw [e1,e2,e3]
  show (dg a&&decide (a.toNat≤53)&&dg b)=_
  have:isD [a,b]=(dg a&&dg b):=by unfold isD;simp
  rw [this]
  cases dg a<;>cases dg b<;>cases decide (a.toNat≤53)<;>rfl
 | a :: b :: c :: l =>
  have e1:decide (((a :: b :: c :: l).length:Int) > 2)=true:=dT (by simp only [List.length_cons];omega)
  rw [e1,okP_long]
  simp
theorem cut_tw {l:B} {x:UInt8}:cut l none (some ((tw x l).length:Int))=some (tw x l):=by
 have h:=tw_le x l
 have e:l.take (tw x l).length=tw x l:=by
  conv=>lhs;rw [← tw_dw x l]
  have:=List.take_left (l₁:=tw x l) (l₂:=dw x l)
  rw [tw_dw] at this ⊢
  exact this
 unfold cut
 rw [if_pos (by simp only [Option.getD_some,Option.getD_none];omega)]
 simp only [Option.getD_some,Option.getD_none,Int.toNat_natCast]
 rw [e]
 rfl
theorem step117 (hC:∀ key e t,C key e t=t e) (kk j j1:Nat) {s l p:B} {c:UInt8} (hp:p.length≤1000) (h:c :: l <:+ p) (hc:dg c=true) {n v4 v9:Int} {v7 x54:B} {x55:Int} {x56:Bool} {x59:B} {x60:Int} {x61 x62 x66:Bool} (hn:0≤n∧n≤1000) (K:Tk117) :
  l4_117 C A92 A115 A116 A122 A174 A175 kk j (j1+1) s v4 v7 p v9 n (Pt p (c :: l)) x54 x55 x56 x59 x60 x61 x62 x66 K=l4_117 C A92 A115 A116 A122 A174 A175 kk j j1 s v4 v7 p v9 (10 * n+dv c) (Pt p l) x54 x55 x56 x59 x60 x61 x62 x66 K:=by
 have hd:=dv_bd hc
 have e:(c.toNat:Int) - 48=dv c:=rfl
 rw [l4_117_eq _ _ _ _ _ _ _ hC,dT (Pt_lt h),cond_true,at_Pt h,oB,Pt_succ h (by omega),e,u8_in hd.1 (by omega),i64_in (n:=dv c) (by omega) (by omega),i64_in (n:=10 * n) (by omega) (by omega),i64_in (by omega) (by omega)]
theorem end117 (hC:∀ key e t,C key e t=t e) (kk j j1:Nat) {s p:B} {n v4 v9:Int} {v7 x54:B} {x55:Int} {x56:Bool} {x59:B} {x60:Int} {x61 x62 x66:Bool} (hv:v7.length≤1000000000) (K:Tk117) :
  l4_117 C A92 A115 A116 A122 A174 A175 kk j (j1+1) s v4 v7 p v9 n (Pt p []) x54 x55 x56 x59 x60 x61 x62 x66 K=l2_117 C A92 A115 A116 A122 A174 A175 kk j s (i64.wrap (i64.wrap (v4+1)+v9)) (mulAddG v7 60 n) K:=by
 have e175:∀ k,A175 v7 60 n k=k (mulAddG v7 60 n):=fun k=>if_pos hv
 rw [l4_117_eq _ _ _ _ _ _ _ hC,Pt_end,dF (by omega),cond_false,e175]
theorem val117 (hC:∀ key e t,C key e t=t e) (kk j:Nat) {s p:B} (ho:okP p=true) {v4 v9:Int} {v7 x54:B} {x55:Int} {x56:Bool} {x59:B} {x60:Int} {x61 x62 x66:Bool} (hv:v7.length≤1000000000) (K:Tk117) :
  l4_117 C A92 A115 A116 A122 A174 A175 kk j big s v4 v7 p v9 0 0 x54 x55 x56 x59 x60 x61 x62 x66 K=l2_117 C A92 A115 A116 A122 A174 A175 kk j s (i64.wrap (i64.wrap (v4+1)+v9)) (mulAddG v7 60 (val p)) K:=by
 obtain ⟨m,hm⟩:∃ m,big=m+3:=⟨big - 3,by unfold big;omega⟩
 have key:l4_117 C A92 A115 A116 A122 A174 A175 kk j (m+3) s v4 v7 p v9 0 (Pt p p) x54 x55 x56 x59 x60 x61 x62 x66 K=l2_117 C A92 A115 A116 A122 A174 A175 kk j s (i64.wrap (i64.wrap (v4+1)+v9)) (mulAddG v7 60 (val p)) K:=by
  unfold okP at ho
  split at ho
  ·rename_i a
   rw [step117 hC kk _ _ (by simp) (List.suffix_refl _) ho (by decide),end117 hC kk _ _ hv]
   rfl
  ·rename_i a b
   simp only [Bool.and_eq_true] at ho
   have:=dv_bd ho.1.1
   rw [step117 hC kk _ _ (by simp) (List.suffix_refl _) ho.1.1 (by decide),step117 hC kk _ _ (by simp) (List.suffix_cons a [b]) ho.2 (by omega),end117 hC kk _ _ hv]
   rfl
  ·cases ho
 rw [Pt_zero,← hm] at key
 exact key
theorem Pt_dw {s:B} {x c:UInt8} {t:B} (h:c :: t <:+ s):Pt s t+((tw x t).length:Int)=Pt s (dw x t)∧dw x t <:+ s:=by
 have hl:=h.length_le
 have e:=congrArg List.length (tw_dw x t)
 rw [List.length_append] at e
 simp only [List.length_cons] at hl
 refine ⟨by unfold Pt;omega,?_⟩
 exact (List.IsSuffix.trans ⟨tw x t,tw_dw x t⟩ (List.suffix_cons c t)).trans h
theorem loop117 (hC:∀ key e t,C key e t=t e) {s:B} (hs:s.length≤1000000) {K:Tk117}:∀ (j:Nat) (t:B) (n:B),58 :: t <:+ s→t.length+1<j→n.length+14 * t.length≤100000000 →
  l2_117 C A92 A115 A116 A122 A174 A175 big j s (Pt s (58 :: t)) n K=(match (parts t).all okP with | true=>K (foldM n (parts t)) true | false=>K [] false)
 | 0,t,n,h,hj,hn=>by omega
 | j+1,t,n,h,hj,hn=>by
  have ht:t <:+ s:=(List.suffix_cons 58 t).trans h
  have hle:=h.length_le
  simp only [List.length_cons] at hle
  have hcut:cut s (some (Pt s t)) none=some t:=cut_tail ht
  rw [l2_117_eq _ _ _ _ _ _ _ hC,dT (Pt_lt h),cond_true,Pt_succ h (by omega),hcut,oB,A122_ok (x:=58) (c:=58) rfl (by omega)]
  have hfind:∀ p:Int→Option Out,(bif decide (findX 58 t<0) then p (t.length:Int) else p (findX 58 t))=p ((tw 58 t).length:Int):=by
   intro p
   unfold findX
   have e:=congrArg List.length (tw_dw 58 t)
   rw [List.length_append] at e
   cases hd:dw 58 t with
   | nil =>
    rw [hd] at e
    simp only [List.length_nil] at e
    have:(tw 58 t).length=t.length:=by omega
    rw [this];rfl
   | cons a l =>
    simp only
    rw [dF (by omega),cond_false]
  rw [hfind fun v=>p3_117 C A92 A115 A116 A122 A174 A175 big j s (Pt s (58 :: t)) n t v K,p3_117_eq _ _ _ _ _ _ _ hC,cut_tw,oB]
  have htw:=tw_le 58 t
  have e174:∀ k,A174 (tw 58 t) k=k (isD (tw 58 t)):=fun k=>if_pos (by omega)
  have hok:=okP_is (tw 58 t)
  rw [e174,parts_eq,List.all_cons]
  generalize hp:tw 58 t=p at hok htw ⊢
  have hval:∀ {x54:B} {x55:Int} {x56:Bool} {x59:B} {x60:Int} {x61 x62 x66:Bool},okP p=true→l4_117 C A92 A115 A116 A122 A174 A175 big j big s (Pt s (58 :: t)) n p ((p.length:Nat):Int) 0 0 x54 x55 x56 x59 x60 x61 x62 x66 K=(match (true&&(match dw 58 t with | []=>[] | _ :: t=>parts t).all okP) with | true=>K (foldM n (p :: (match dw 58 t with | []=>[] | _ :: t=>parts t))) true | false=>K [] false):=by
   intro x54 x55 x56 x59 x60 x61 x62 x66 ho
   have ⟨q1,q2⟩:=Pt_dw (x:=58) h
   have hPn:=Pt_nn s t
   have hPl:=Pt_le s t
   have hw:i64.wrap (i64.wrap (Pt s (58 :: t)+1)+((p.length:Nat):Int))=Pt s (dw 58 t):=by
    rw [Pt_succ h (by omega),i64_in (by omega) (by omega),← hp]
    exact q1
   have hml:=mulAddG_len n 60 (val p)
   have hdl:=dw_le 58 t
   rw [val117 hC big j ho (by omega),hw]
   have hfm:foldM n (p :: (match dw 58 t with | []=>[] | _ :: t=>parts t))=foldM (mulAddG n 60 (val p)) (match dw 58 t with | []=>[] | _ :: t=>parts t):=rfl
   rw [hfm,Bool.true_and]
   rcases dw_cases 58 t with e | ⟨t',e⟩
   ·rw [e]
    obtain ⟨i,rfl⟩:∃ i,j=i+1:=⟨j - 1,by omega⟩
    rw [l2_117_eq _ _ _ _ _ _ _ hC,Pt_end,dF (by omega),cond_false]
    rfl
   ·rw [e] at q2 hdl
    simp only [List.length_cons] at hdl
    rw [e]
    exact loop117 hC hs j t' _ q2 (by omega) (by omega)
  cases hD:isD p with
  | false =>
   rw [hD] at hok
   rw [hok]
   rfl
  | true =>
   rw [hD,Bool.true_and] at hok
   rw [Bool.not_true,cond_false]
   cases h2:decide ((p.length:Int) > 2) with
   | true =>
    rw [h2] at hok
    rw [hok]
    rfl
   | false =>
    rw [h2,Bool.not_false,Bool.true_and] at hok
    rw [cond_false]
    cases h3:((p.length:Int)==2) with
    | false =>
     rw [h3,Bool.false_and,Bool.not_false] at hok
     rw [cond_false,hok]
     exact hval hok
    | true =>
     rw [h3,Bool.true_and] at hok
     have hat:at? p 0=some (p.headD 0):=by
      cases p with
      | nil=>cases hD
      | cons a l=>rfl
     rw [cond_true,hat,oB]
     cases h4:decide (((p.headD 0).toNat:Int) > 53) with
     | true =>
      rw [h4] at hok
      rw [cond_true,hok]
      rfl
     | false =>
      rw [h4,Bool.not_false] at hok
      rw [cond_false,hok]
      exact hval hok
theorem eq117 (hC:∀ key e t,C key e t=t e) (w:B) (K:Tk117) (r:Out) (h:A117 w K=some r):run117 C A92 A115 A116 A122 A174 A175 big w K=some r:=by
 unfold A117 at h
 split at h
 ·rename_i hw
  rw [← h,run117_eq,A122_ok (x:=58) (c:=58) rfl hw]
  simp only [p1_117_eq _ _ _ _ _ _ _ hC]
  unfold sixtyR findX
  have htl:=tw_le 58 w
  rcases dw_cases 58 w with e | ⟨t,e⟩
  ·rw [e];rfl
  ·rw [e]
   simp only
   cases w with
   | nil=>cases e
   | cons c l =>
    have e92:∀ k,A92 (c.toNat:Int) k=k (dg c):=fun k=>A35_dg c k
    cases h58:c==58 with
    | true =>
     rw [eq_of_beq h58,tw_hit]
     rfl
    | false =>
     have htw:=tw_miss h58 l
     rw [dF (show ¬ ((tw 58 (c :: l)).length:Int)<1 by rw [htw];simp only [List.length_cons];omega),cond_false,at0,oB,e92,List.headD_cons]
     cases hd:dg c with
     | false=>rfl
     | true =>
      have e116:∀ k,A116 (tw 58 (c :: l)) 10 k=k (bareR 10 (tw 58 (c :: l))) (rowB 10 (tw 58 (c :: l))):=fun k=>if_pos (by omega)
      rw [Bool.not_true,cond_false,cut_tw,oB,e116,Bool.true_and]
      cases hr:rowB 10 (tw 58 (c :: l)) with
      | false=>rfl
      | true =>
       have hb:bareR 10 (tw 58 (c :: l))=noU (tw 58 (c :: l)):=by
        have:=hr
        unfold rowB at this
        rw [Bool.and_eq_true] at this
        unfold bareR
        rw [this.1]
       have hnl:=noU_len (tw 58 (c :: l))
       have e115:∀ k,A115 false (noU (tw 58 (c :: l))) k=k (norm false (noU (tw 58 (c :: l)))):=fun k=>if_pos (by omega)
       have hnn:=norm_len false (noU (tw 58 (c :: l)))
       have hsuf:58 :: t <:+ c :: l:=⟨tw 58 (c :: l),by rw [← e];exact tw_dw 58 _⟩
       have hPt:((tw 58 (c :: l)).length:Int)=Pt (c :: l) (58 :: t):=by
        have:=congrArg List.length (tw_dw 58 (c :: l))
        rw [e,List.length_append] at this
        unfold Pt
        omega
       have htl2:=hsuf.length_le
       simp only [List.length_cons] at htl2 hw htl
       rw [Bool.not_true,cond_false,hb,e115,hPt,loop117 hC (by simp only [List.length_cons];omega) big t _ hsuf (by unfold big;omega) (by omega)]
       unfold foldM
       cases (parts t).all okP<;>rfl
 ·cases h
def A72:Ty72:=fun s K=>if s.length≤1000000 then K (int11 s).1 (int11 s).2 else none
theorem eq72 (hC:∀ key e t,C key e t=t e) (s:B) (K:Tk72) (r:Out) (h:A72 s K=some r):run72 C A113 A114 A115 A116 A117 big s K=some r:=by
 unfold A72 at h
 split at h
 ·rename_i hs
  have htl:=unsign_len s
  have e114:∀ k,A114 s k=k (unsign s).2 (unsign s).1:=fun k=>rfl
  have e115:∀ b x k,x.length≤100000000→A115 b x k=k (norm b x):=fun b x k hx=>if_pos (by omega)
  have e116:∀ x b k,x.length≤1000000→A116 x b k=k (bareR b x) (rowB b x):=fun x b k hx=>if_pos hx
  have e117:∀ x k,x.length≤1000000→A117 x k=k (sixtyR x).1 (sixtyR x).2:=fun x k hx=>if_pos hx
  have e113:∀ x b k,x.length≤1000000→A113 x b k=k (baseN x b):=fun x b k hx=>if_pos hx
  have hbare:∀ b x,rowB b x=true→bareR b x=noU x:=by
   intro b x hr
   have:=hr
   unfold rowB at this
   rw [Bool.and_eq_true] at this
   unfold bareR
   rw [this.1]
  rw [← h,run72_eq,e114]
  unfold int11
  generalize (unsign s).2=t at htl ⊢
  generalize (unsign s).1=neg
  have p4:∀ b l f,l.length≤1000000→p4_72 C A113 A114 A115 A116 A117 big neg b l f K=K (rowN neg b f l).1 (rowN neg b f l).2:=by
   intro b l f hl
   have hbl:=baseN_len (noU l) b
   have hnl:=noU_len l
   rw [p4_72_eq _ _ _ _ _ _ hC,e116 _ _ _ hl]
   unfold rowN
   cases hr:rowB b l with
   | false=>rfl
   | true =>
    rw [Bool.not_true,cond_false,hbare b l hr,e113 _ _ _ (by omega),e115 _ _ _ (by omega)]
  cases t with
  | nil=>rw [p1_72_eq _ _ _ _ _ _ hC];rw [p3_72_eq _ _ _ _ _ _ hC];rfl
  | cons c l =>
   simp only [List.length_cons] at htl
   have at1:∀ (d:UInt8) (m:B),at? (c :: d :: m) 1=some d:=fun _ _=>rfl
   have cut2:∀ (x y:UInt8) (m:B),cut (x :: y :: m) (some (2:Int)) none=some m:=by
    intro x y m
    unfold cut
    rw [if_pos (by simp only [Option.getD_some,Option.getD_none,List.length_cons];omega)]
    simp only [Option.getD_some,Option.getD_none,Int.toNat_natCast,List.take_length]
    rfl
   have h49:(c==48)=false→∀ p:Bool→Option Out,(bif decide ((c.toNat:Int)<49) then p true else p (decide ((c.toNat:Int) > 57)))=p (!dg c):=by
    intro hc p
    have h49:dg c=(!decide ((c.toNat:Int)<49)&&!decide ((c.toNat:Int) > 57)):=by
     have:=allU8 (P:=fun c=>(c==48)=false→dg c=(!decide ((c.toNat:Int)<49)&&!decide ((c.toNat:Int) > 57))) (by decide +kernel) c
     exact this hc
    rw [h49]
    cases decide ((c.toNat:Int)<49)<;>cases decide ((c.toNat:Int) > 57)<;>rfl
   have hrest:(c==48)=false→p1_72 C A113 A114 A115 A116 A117 big (c :: l) neg false K=(match dg c with
    | false=>K [] 0
    | true=>match tailU l with
     | []=>K (norm neg (noU (c :: l))) 5
     | x :: l'=>match sixties (x :: l') with
      | true=>K (norm neg (value (noU (c :: l)))) 6
      | false=>K [] 0):=by
    intro hc
    have hne:(c :: l==([48]:B))=false:=by
     cases h:c :: l==([48]:B) with
     | false=>rfl
     | true=>have:=eq_of_beq h;cases this;cases hc
    have hne2:(c :: l==([]:B))=false:=rfl
    rw [p1_72_eq _ _ _ _ _ _ hC,cond_false,hne,cond_false,hne2,cond_false,at0]
    simp only [oB]
    rw [h49 hc fun b=>p3_72 C A113 A114 A115 A116 A117 big (c :: l) neg b K,p3_72_eq _ _ _ _ _ _ hC]
    cases hd:dg c with
    | false=>rfl
    | true =>
     have hnl:=noU_len (c :: l)
     simp only [List.length_cons] at hnl
     rw [Bool.not_true,cond_false,e116 _ _ _ (by simp only [List.length_cons];omega),rowB_end hd]
     cases ht:tailU l with
     | nil =>
      have hr:rowB 10 (c :: l)=true:=by rw [rowB_end hd,ht];rfl
      have e0:(([]:B)==[])=true:=rfl
      simp only
      rw [e0,cond_true,hbare _ _ hr,e115 _ _ _ (by omega)]
     | cons x l' =>
      have e0:(x :: l'==([]:B))=false:=rfl
      have hsx:=sixtyR_eq (c:=c) (l:=l) hd (by rw [ht];simp)
      simp only
      rw [e0,cond_false,e117 _ _ (by simp only [List.length_cons];omega),hsx,ht]
      cases hsx2:sixties (x :: l') with
      | false=>rfl
      | true =>
       simp only [cond_true]
       refine e115 _ _ _ ?_
       have hpl:=parts_len (noU (c :: l))
       have:(value (noU (c :: l))).length≤100000000:=by
        unfold value
        cases hp:parts (noU (c :: l)) with
        | nil=>exact Nat.zero_le _
        | cons p ps =>
         have h1:=foldM_len ps (norm false p)
         have h2:=norm_len false p
         have h3:p.length≤(noU (c :: l)).length:=by
          have:=parts_eq (noU (c :: l))
          rw [hp] at this
          cases this
          exact tw_le _ _
         rw [hp] at hpl
         simp only [List.length_cons] at hpl
         unfold foldM at h1
         simp only
         omega
       exact this
   cases l with
   | nil =>
    have hlen:decide ((([c]:B).length:Int) ≥ 2)=false:=rfl
    rw [hlen,cond_false]
    cases hc:c==48 with
    | true=>rw [eq_of_beq hc,p1_72_eq _ _ _ _ _ _ hC];rfl
    | false =>
     rw [hrest hc]
     simp only [hc]
     cases dg c with
     | false=>rfl
     | true=>rfl
   | cons d l =>
    have hlen:decide (((c :: d :: l).length:Int) ≥ 2)=true:=dT (by simp only [List.length_cons];omega)
    simp only [List.length_cons] at htl
    rw [hlen,cond_true,at0,oB,eqB 48 (n:=48) rfl]
    cases hc:c==48 with
    | true =>
     rw [p1_72_eq _ _ _ _ _ _ hC,cond_true,cut1,oB,at1,oB,cut2,oB,eqB 98 (n:=98) rfl,p2_72_eq _ _ _ _ _ _ hC,p2_72_eq _ _ _ _ _ _ hC]
     simp only [hc,at1,cut2,oB,eqB 120 (n:=120) rfl]
     rw [p4 _ _ _ (by omega),p4 _ _ _ (by omega),p4 _ _ _ (by simp only [List.length_cons];omega)]
     cases hd:d==98 with
     | true =>
      rw [eq_of_beq hd]
      rfl
     | false=>cases d==120<;>rfl
    | false =>
     rw [hrest hc]
     simp only [hc]
     cases dg c with
     | false=>rfl
     | true =>
      simp only
      cases tailU (d :: l) with
      | nil=>rfl
      | cons x l'=>simp only;cases sixties (x :: l')<;>rfl
 ·cases h
end Go.Proofs.YtffmgholjdfcnaaGreatDoor
