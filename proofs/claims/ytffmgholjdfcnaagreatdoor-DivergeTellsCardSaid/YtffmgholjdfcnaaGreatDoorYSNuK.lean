import Derived.Test.YtffmgholjdfcnaaGreatDoorYSNuJ
set_option linter.unusedSimpArgs false
set_option linter.unusedVariables false
namespace Go.Proofs.YtffmgholjdfcnaaGreatDoor
open Go AM St Nu
open Go.IntKind (i64 u8)
variable {C:Nat→Env→(Env→Option Out)→Option Out}
theorem eqB (x:UInt8) {n:Int} (hx:n=(x.toNat:Int)) (c:UInt8):((c.toNat:Int)==n)=(c==x):=by
 subst hx
 cases h:c==x with
 | true=>rw [eq_of_beq h];simp
 | false =>
  have:c ≠ x:=by simpa using h
  have:c.toNat ≠ x.toNat:=fun e=>this (UInt8.toNat_inj.1 e)
  simp;omega
theorem neB (x:UInt8) {n:Int} (hx:n=(x.toNat:Int)) (c:UInt8):((c.toNat:Int) != n)=!(c==x):=by
 unfold bne
 rw [eqB x hx]
def A101:Ty101:=fun s K=>K (unsign s).1 (unsign s).2
theorem eq101 (hC:∀ key e t,C key e t=t e) (s:B) (K:Tk101):run101 C big s K=A101 s K:=by
 rw [run101_eq]
 unfold A101
 simp only [p1_101_eq _ hC]
 cases s with
 | nil=>rfl
 | cons c l =>
  have h0:(c :: l==([]:B))=false:=rfl
  simp only [h0,Bool.not_false,cond_true,at0,oB,cut1,eqB 43 (n:=43) rfl,eqB 45 (n:=45) rfl]
  show _=K (match isS c with | true=>(c==45,l) | false=>(false,c :: l)).1 (match isS c with | true=>(c==45,l) | false=>(false,c :: l)).2
  unfold isS
  cases c==43<;>cases c==45<;>rfl
def A114:Ty114:=fun s K=>K (unsign s).2 (unsign s).1
theorem eq114 (hC:∀ key e t,C key e t=t e) (s:B) (K:Tk114):run114 C big s K=A114 s K:=by
 rw [run114_eq]
 unfold A114
 simp only [p1_114_eq _ hC]
 cases s with
 | nil=>rfl
 | cons c l =>
  have h0:decide (((c :: l).length:Int) > 0)=true:=dT (by simp only [List.length_cons];omega)
  simp only [h0,cond_true,at0,oB,cut1,eqB 43 (n:=43) rfl,eqB 45 (n:=45) rfl]
  show _=K (match isS c with | true=>(c==45,l) | false=>(false,c :: l)).2 (match isS c with | true=>(c==45,l) | false=>(false,c :: l)).1
  unfold isS
  cases c==43<;>cases c==45<;>rfl
theorem unsign_len:∀ s,(unsign s).2.length≤s.length
 | []=>Nat.le_refl _
 | c :: l=>by
  show (match isS c with | true=>(c==45,l) | false=>(false,c :: l)).2.length≤_
  cases isS c<;>simp
def A94:Ty94:=fun s p K=>K (Lib.hasPrefix s p)
def hexB:B:=[48,49,50,51,52,53,54,55,56,57,97,98,99,100,101,102,65,66,67,68,69,70]
def octB:B:=[48,49,50,51,52,53,54,55]
def head11 (s:B):Int × B × Int:=match s with
 | []=>(5,tenB,0)
 | c :: l=>match c==48 with
  | false=>(5,tenB,0)
  | true=>match l with
   | []=>(4,[],1)
   | d :: _=>match d==98 with
    | true=>(1,[48,49],2)
    | false=>match d==120 with
     | true=>(2,hexB,2)
     | false=>(3,octB,1)
theorem pre_nil (p:UInt8) (q:B):Lib.hasPrefix [] (p :: q)=false:=rfl
theorem pre_cons (c p:UInt8) (l q:B):Lib.hasPrefix (c :: l) (p :: q)=(p==c&&Lib.hasPrefix l q):=rfl
theorem pre_end (l:B):Lib.hasPrefix l []=true:=by cases l<;>rfl
theorem beq_sym (a b:UInt8):(a==b)=(b==a):=BEq.comm
def A154:Ty154:=fun s K=>K (head11 s).1 (head11 s).2.1 (head11 s).2.2
theorem eq154 (s:B) (K:Tk154):run154 C A94 big s K=A154 s K:=by
 rw [run154_eq]
 unfold A94 A154
 have hc:cut ([48,49,50,51,52,53,54,55,56,57]:BY) none (some (8:Int))=some octB:=rfl
 rw [hc]
 cases s with
 | nil=>rfl
 | cons c l =>
  simp only [pre_cons,pre_end,oB,Bool.and_true]
  have hh:head11 (c :: l)=(match c==48 with
   | false=>(5,tenB,0)
   | true=>match l with
    | []=>(4,[],1)
    | d :: _=>match d==98 with
     | true=>(1,[48,49],2)
     | false=>match d==120 with
      | true=>(2,hexB,2)
      | false=>(3,octB,1)):=rfl
  rw [hh,beq_sym 48 c]
  cases hc:c==48 with
  | false =>
   have:(c :: l==([48]:B))=false:=by
    cases h:c :: l==([48]:B) with
    | false=>rfl
    | true=>have:=eq_of_beq h;cases this;cases hc
   rw [this];rfl
  | true =>
   rw [eq_of_beq hc]
   cases l with
   | nil=>rfl
   | cons d l =>
    have:((48:UInt8) :: d :: l==([48]:B))=false:=rfl
    simp only [pre_cons,pre_end,Bool.true_and,Bool.and_true,this,cond_false,cond_true]
    rw [beq_sym 98 d,beq_sym 120 d]
    cases d==98 with
    | true=>rfl
    | false=>cases d==120<;>rfl
def form11 (t:B):Int:=match t with
 | []=>0
 | c :: l=>match c==48 with
  | true=>(match l with
   | []=>4
   | d :: l'=>match d==98 with
    | true=>(match rowB 2 l' with | true=>1 | false=>0)
    | false=>match d==120 with
     | true=>(match rowB 16 l' with | true=>2 | false=>0)
     | false=>match rowB 8 (d :: l') with | true=>3 | false=>0)
  | false=>match dg c with
   | false=>0
   | true=>match tailU l with
    | []=>5
    | x :: l'=>match sixties (x :: l') with | true=>6 | false=>0
theorem int11_form (s:B):(int11 s).2=form11 (unsign s).2:=by
 unfold int11 form11
 cases (unsign s).2 with
 | nil=>rfl
 | cons c l =>
  simp only
  cases c==48 with
  | true =>
   simp only
   cases l with
   | nil=>rfl
   | cons d l =>
    simp only
    unfold rowN
    cases d==98 with
    | true=>simp only;cases rowB 2 l<;>rfl
    | false =>
     cases d==120 with
     | true=>simp only;cases rowB 16 l<;>rfl
     | false=>simp only;cases rowB 8 (d :: l)<;>rfl
  | false =>
   simp only
   cases dg c with
   | false=>rfl
   | true =>
    simp only
    cases tailU l with
    | nil=>rfl
    | cons x l=>simp only;cases sixties (x :: l)<;>rfl
theorem idx_two (c:UInt8):decide (Lib.indexByte [48,49] ((c.toNat:Int).toNat.toUInt8)<0)=!decide (hexD c<2):=allU8 (P:=fun c=>decide (Lib.indexByte [48,49] ((c.toNat:Int).toNat.toUInt8)<0)=!decide (hexD c<2)) (by decide +kernel) c
theorem idx_oct (c:UInt8):decide (Lib.indexByte octB ((c.toNat:Int).toNat.toUInt8)<0)=!decide (hexD c<8):=allU8 (P:=fun c=>decide (Lib.indexByte octB ((c.toNat:Int).toNat.toUInt8)<0)=!decide (hexD c<8)) (by decide +kernel) c
theorem idx_hex (c:UInt8):decide (Lib.indexByte hexB ((c.toNat:Int).toNat.toUInt8)<0)=!decide (hexD c<16):=allU8 (P:=fun c=>decide (Lib.indexByte hexB ((c.toNat:Int).toNat.toUInt8)<0)=!decide (hexD c<16)) (by decide +kernel) c
theorem idx_ten (c:UInt8):decide (Lib.indexByte tenB ((c.toNat:Int).toNat.toUInt8)<0)=!dg c:=allU8 (P:=fun c=>decide (Lib.indexByte tenB ((c.toNat:Int).toNat.toUInt8)<0)=!dg c) (by decide +kernel) c
theorem nil_noU {c:UInt8} {l:B} (h:(c==95)=false):(noU (c :: l)==[])=false:=by rw [noU_miss h];rfl
theorem loop100a (hC:∀ key e t,C key e t=t e) {t:B} (ht:t.length≤1000000) {b f:Int} {D:B} (hD:∀ c:UInt8,decide (Lib.indexByte D ((c.toNat:Int).toNat.toUInt8)<0)=!decide (hexD c<b)) {K:Tk100} (kk:Nat):∀ (l:B) (j:Nat) (some1:Bool),l <:+ t→l.length<j →
  g4_100 C A101 A154 A155 kk j t f D (Pt t l) some1 K=(match l.all (fun c=>c==95 || decide (hexD c<b))&&(some1 || !(noU l==[])) with | true=>K f | false=>K 0)
 | [],j,s1,h,hj=>by
  obtain ⟨j,rfl⟩:∃ i,j=i+1:=⟨j - 1,by omega⟩
  rw [g4_100_eq _ _ _ _ hC,Pt_len h,dT rfl,cond_true]
  have:(noU ([]:B)==[])=true:=rfl
  rw [this]
  cases s1<;>rfl
 | c :: l,j,s1,h,hj=>by
  obtain ⟨j,rfl⟩:∃ i,j=i+1:=⟨j - 1,by omega⟩
  have hl:l <:+ t:=(List.suffix_cons c l).trans h
  have ih:=fun s1=>loop100a hC ht hD (f:=f) (K:=K) kk l j s1 hl (by simp at hj;omega)
  have e155:∀ k,A155 D (c.toNat:Int) k=k (Lib.indexByte D ((c.toNat:Int).toNat.toUInt8)):=fun k=>rfl
  rw [g4_100_eq _ _ _ _ hC,Pt_len h,dF (by simp),cond_false,at_Pt h,oB,oB,neB 95 (n:=95) rfl,e155,hD]
  simp only [p2_100_eq _ _ _ _ hC,Pt_succ h (by omega:t.length≤1099511627776),ih,List.all_cons]
  cases h95:c==95 with
  | true =>
   rw [eq_of_beq h95,noU_hit]
   rfl
  | false =>
   rw [nil_noU h95]
   cases decide (hexD c<b) with
   | false=>rfl
   | true =>
    simp only [Bool.not_false,Bool.not_true,cond_true,cond_false,Bool.false_or,Bool.true_and,Bool.or_true,Bool.true_or,Bool.and_true]
theorem loop100b (hC:∀ key e t,C key e t=t e) {t:B} (ht:t.length≤1000000) {K:Tk100} (kk:Nat):∀ (j:Nat) (l:B),l <:+ t→l.length<j →
  g5_100 C A101 A154 A155 kk j t 6 (Pt t l) K=(match sixties l with | true=>K 6 | false=>K 0)
 | 0,l,h,hj=>by omega
 | j+1,[],h,hj=>by
  rw [g5_100_eq _ _ _ _ hC,Pt_len h,dT rfl,cond_true]
  rfl
 | j+1,c :: l,h,hj=>by
  have hl:l <:+ t:=(List.suffix_cons c l).trans h
  rw [g5_100_eq _ _ _ _ hC,Pt_len h,dF (by simp),cond_false,at_Pt h,oB,neB 58 (n:=58) rfl,Pt_succ h (by omega)]
  cases h58:c==58 with
  | false=>rw [sixties_no h58];rfl
  | true =>
   have:=eq_of_beq h58
   subst this
   simp only [Bool.not_true,cond_false]
   match l,hl,hj with
   | [],hl,hj =>
    have hw:i64.wrap (Pt t []+1)=(t.length:Int)+1:=by rw [Pt_end];exact i64_in (by omega) (by omega)
    rw [hw,dF (by omega),cond_false,Pt_len hl,dT rfl,cond_true]
    rfl
   | a :: l',hl,hj =>
    have hl':l' <:+ t:=(List.suffix_cons a l').trans hl
    have hdg:∀ x:UInt8,dg x=(!decide ((x.toNat:Int)<48)&&!decide ((x.toNat:Int) > 57)):=lo_hi
    have d57:∀ x:UInt8,dg x=(decide ((x.toNat:Int) ≥ 48)&&decide ((x.toNat:Int)≤57)):=fun x=>allU8 (P:=fun x=>dg x=(decide ((x.toNat:Int) ≥ 48)&&decide ((x.toNat:Int)≤57))) (by decide +kernel) x
    have h53:∀ x:UInt8,decide ((x.toNat:Int)≤53)=decide (x.toNat≤53):=fun x=>by apply decide_eq_decide.2;omega
    have h48:∀ x:UInt8,decide ((x.toNat:Int) ≥ 48)=!decide ((x.toNat:Int)<48):=fun x=>by rw [← decide_not];apply decide_eq_decide.2;omega
    rw [Pt_succ hl (by omega),Pt_len hl,dF (show ¬ (a :: l'=[]) by simp),at_Pt hl]
    simp only [oB,cond_false]
    have ih':=loop100b hC ht (K:=K) kk j l' hl' (by simp at hj;omega)
    have one:(bif decide ((a.toNat:Int)<48) then K 0 else (bif decide ((a.toNat:Int) > 57) then K 0 else (g5_100 C A101 A154 A155 kk j t 6 (Pt t l') K)))=(match dg a&&sixties l' with | true=>K 6 | false=>K 0):=by
     rw [ih',hdg a]
     cases decide ((a.toNat:Int)<48)<;>cases decide ((a.toNat:Int) > 57)<;>rfl
    rw [one]
    match l',hl',hj with
    | [],hl',hj =>
     rw [Pt_end,dF (by omega),cond_false,sixties_a,sixties_nil,Bool.and_true]
    | b :: l'',hl',hj =>
     have hl'':l'' <:+ t:=(List.suffix_cons b l'').trans hl'
     have ih'':=loop100b hC ht (K:=K) kk j l'' hl'' (by simp at hj;omega)
     rw [dT (Pt_lt hl'),cond_true,at_Pt hl',Pt_len hl',dF (show ¬ (b :: l''=[]) by simp),Pt_succ hl' (by omega),ih'',sixties_two]
     simp only [oB,cond_false]
     rw [hdg b,hdg a,h53,h48,h48]
     have h57:decide ((b.toNat:Int)≤57)=!decide ((b.toNat:Int) > 57):=by rw [← decide_not];apply decide_eq_decide.2;omega
     have h557:decide (a.toNat≤53)=true→decide ((a.toNat:Int) > 57)=false:=by intro h;simp at h ⊢;omega
     rw [h57]
     cases h5:decide (a.toNat≤53) with
     | true =>
      rw [h557 h5]
      cases decide ((a.toNat:Int)<48)<;>cases decide ((b.toNat:Int)<48)<;>cases decide ((b.toNat:Int) > 57)<;>rfl
     | false=>cases decide ((a.toNat:Int)<48)<;>cases decide ((a.toNat:Int) > 57)<;>cases decide ((b.toNat:Int)<48)<;>cases decide ((b.toNat:Int) > 57)<;>rfl
theorem loop100c (hC:∀ key e t,C key e t=t e) {t:B} (ht:t.length≤1000000) {K:Tk100} (kk:Nat):∀ (l:B) (j:Nat),l <:+ t→l.length+1<j →
  g6_100 C A101 A154 A155 kk j t 5 (Pt t l) K=(match tailU l with | []=>K 5 | x :: l'=>match sixties (x :: l') with | true=>K 6 | false=>K 0)
 | [],j,h,hj=>by
  obtain ⟨j,rfl⟩:∃ i,j=i+1:=⟨j - 1,by omega⟩
  rw [g6_100_eq _ _ _ _ hC,Pt_len h,dT rfl,cond_true]
  rfl
 | c :: l,j,h,hj=>by
  obtain ⟨j,rfl⟩:∃ i,j=i+1:=⟨j - 1,by omega⟩
  have hl:l <:+ t:=(List.suffix_cons c l).trans h
  have ih:=loop100c hC ht (K:=K) kk l j hl (by simp only [List.length_cons] at hj;omega)
  have e155:∀ k,A155 tenB (c.toNat:Int) k=k (Lib.indexByte tenB ((c.toNat:Int).toNat.toUInt8)):=fun k=>rfl
  have hten:([48,49,50,51,52,53,54,55,56,57]:BY)=tenB:=rfl
  rw [g6_100_eq _ _ _ _ hC,Pt_len h,dF (by simp),cond_false,at_Pt h]
  simp only [oB]
  rw [eqB 58 (n:=58) rfl,neB 95 (n:=95) rfl,hten,e155,idx_ten,Pt_succ h (by omega),ih,loop100b hC ht kk j (c :: l) h (by omega)]
  cases h58:c==58 with
  | true =>
   rw [eq_of_beq h58,tailU_no dgU_58]
   rfl
  | false =>
   cases h95:c==95 with
   | true=>rw [eq_of_beq h95,tailU_yes (by decide)];rfl
   | false =>
    cases hd:dg c with
    | true=>rw [tailU_yes (dg_dgU hd)];rfl
    | false =>
     rw [tailU_no (by unfold dgU;rw [h95,hd];rfl)]
     simp only
     rw [sixties_no h58]
     rfl
def A100:Ty100:=fun s K=>if s.length≤1000000 then K (form11 (unsign s).2) else none
theorem first_row (hC:∀ key e t,C key e t=t e) {t:B} (ht:t.length≤1000000) {b f:Int} {D:B} (hD:∀ c:UInt8,decide (Lib.indexByte D ((c.toNat:Int).toNat.toUInt8)<0)=!decide (hexD c<b)) {K:Tk100} (kk:Nat) (hkk:t.length<kk) (l:B) (h:l <:+ t) :
  (bif (Pt t l==(t.length:Int)) then (K 0) else ((at? t (Pt t l)).bind fun b6=>(bif ((b6.toNat:Int) != 95) then ((at? t (Pt t l)).bind fun b7=>(A155 D (b7.toNat:Int) fun r8=>(bif (decide (r8<0)) then (K 0) else (p2_100 C A101 A154 A155 kk kk t f D (Pt t l) true K)))) else (p2_100 C A101 A154 A155 kk kk t f D (Pt t l) false K))))=(match rowB b l with | true=>K f | false=>K 0):=by
 have hlk:=h.length_le
 have:=loop100a hC ht hD (f:=f) (K:=K) kk l (kk+1) false h (by omega)
 rw [g4_100_eq _ _ _ _ hC] at this
 rw [Bool.false_or] at this
 exact this
theorem eq100 (hC:∀ key e t,C key e t=t e) (s:B) (K:Tk100) (r:Out) (h:A100 s K=some r):run100 C A101 A154 A155 big s K=some r:=by
 unfold A100 at h
 split at h
 ·rename_i hs
  have htl:=unsign_len s
  have e101:∀ k,A101 s k=k (unsign s).1 (unsign s).2:=fun k=>rfl
  rw [← h,run100_eq,e101]
  generalize (unsign s).2=t at htl ⊢
  have e154:∀ k,A154 t k=k (head11 t).1 (head11 t).2.1 (head11 t).2.2:=fun k=>rfl
  have ht:t.length≤1000000:=by omega
  rw [e154]
  cases t with
  | nil =>
   have e1:head11 []=(5,tenB,0):=rfl
   rw [e1]
   have e2:((5:Int)==4)=false:=rfl
   have e3:((5:Int)==5)=true:=rfl
   rw [e2,e3,cond_false,cond_true]
   obtain ⟨m,hm⟩:∃ m,big=m+1:=⟨big - 1,by unfold big;omega⟩
   have:=g1_100_eq (C:=C) A101 A154 A155 hC big m [] 5 0 K
   rw [← hm] at this
   rw [this]
   simp only [p3_100_eq _ _ _ _ hC]
   rfl
  | cons c l =>
   have hl:l <:+ c :: l:=List.suffix_cons c l
   have p1:(1:Int)=Pt (c :: l) l:=by unfold Pt;simp
   cases hc:c==48 with
   | true =>
    have:=eq_of_beq hc
    subst this
    cases l with
    | nil=>rfl
    | cons d l =>
     have hl2:l <:+ 48 :: d :: l:=(List.suffix_cons d l).trans hl
     have p2:(2:Int)=Pt (48 :: d :: l) l:=by unfold Pt;simp only [List.length_cons];omega
     have hh:head11 (48 :: d :: l)=(match d==98 with
      | true=>(1,[48,49],2)
      | false=>match d==120 with
       | true=>(2,hexB,2)
       | false=>(3,octB,1)):=rfl
     have hf:form11 (48 :: d :: l)=(match d==98 with
      | true=>(match rowB 2 l with | true=>1 | false=>0)
      | false=>match d==120 with
       | true=>(match rowB 16 l with | true=>2 | false=>0)
       | false=>match rowB 8 (d :: l) with | true=>3 | false=>0):=rfl
     have hbig:(48 :: d :: l).length<big:=by unfold big;omega
     rw [hh,hf]
     cases d==98 with
     | true =>
      have e2:((1:Int)==4)=false:=rfl
      have e3:((1:Int)==5)=false:=rfl
      simp only [e2,e3,cond_false]
      have:=first_row hC ht (f:=1) (K:=K) idx_two big hbig l hl2
      rw [← p2] at this
      rw [this]
      cases rowB 2 l<;>rfl
     | false =>
      simp only
      cases d==120 with
      | true =>
       have e2:((2:Int)==4)=false:=rfl
       have e3:((2:Int)==5)=false:=rfl
       simp only [e2,e3,cond_false]
       have:=first_row hC ht (f:=2) (K:=K) idx_hex big hbig l hl2
       rw [← p2] at this
       rw [this]
       cases rowB 16 l<;>rfl
      | false =>
       have e2:((3:Int)==4)=false:=rfl
       have e3:((3:Int)==5)=false:=rfl
       simp only [e2,e3,cond_false]
       have:=first_row hC ht (f:=3) (K:=K) idx_oct big hbig (d :: l) hl
       rw [← p1] at this
       rw [this]
       cases rowB 8 (d :: l)<;>rfl
   | false =>
    have hh:head11 (c :: l)=(5,tenB,0):=by
     unfold head11
     simp only [hc]
    have hf:form11 (c :: l)=(match dg c with
      | false=>0
      | true=>match tailU l with
       | []=>5
       | x :: l'=>match sixties (x :: l') with | true=>6 | false=>0):=by
     unfold form11
     simp only [hc]
    have e2:((5:Int)==4)=false:=rfl
    have e3:((5:Int)==5)=true:=rfl
    have e4:(c :: l==([]:B))=false:=rfl
    obtain ⟨m,hm⟩:∃ m,big=m+1:=⟨big - 1,by unfold big;omega⟩
    have hg1:=g1_100_eq (C:=C) A101 A154 A155 hC big m (c :: l) 5 0 K
    rw [← hm] at hg1
    rw [hh,hf,e2,e3,cond_false,cond_true,hg1,e4,cond_false,at0]
    simp only [oB]
    have hx:∀ p:Bool→Option Out,(bif decide ((c.toNat:Int)<49) then p true else p (decide ((c.toNat:Int) > 57)))=p (!dg c):=by
     intro p
     have h49:dg c=(!decide ((c.toNat:Int)<49)&&!decide ((c.toNat:Int) > 57)):=by
      have:=allU8 (P:=fun c=>(c==48)=false→dg c=(!decide ((c.toNat:Int)<49)&&!decide ((c.toNat:Int) > 57))) (by decide +kernel) c
      exact this hc
     rw [h49]
     cases decide ((c.toNat:Int)<49)<;>cases decide ((c.toNat:Int) > 57)<;>rfl
    rw [hx fun b=>p3_100 C A101 A154 A155 big m (c :: l) 5 0 b K,p3_100_eq _ _ _ _ hC]
    cases hd:dg c with
    | false=>rfl
    | true =>
     have e1:i64.wrap ((0:Int)+1)=Pt (c :: l) l:=by rw [← p1];exact i64_in (by decide) (by decide)
     have hm2:l.length+1<m+1:=by rw [← hm];unfold big;simp at ht;omega
     have:=loop100c hC ht (K:=K) big l (m+1) hl hm2
     rw [g6_100_eq _ _ _ _ hC] at this
     rw [Bool.not_true,cond_false,e1]
     refine this.trans ?_
     simp only
     cases tailU l with
     | nil=>rfl
     | cons x l'=>simp only;cases sixties (x :: l')<;>rfl
 ·cases h
def A105:Ty105:=fun s K=>if okP s=true then K (val s) else none
theorem step105 (hC:∀ key e t,C key e t=t e) (kk j:Nat) {s l:B} {c:UInt8} (hs:s.length≤1000) (h:c :: l <:+ s) (hc:dg c=true) {n:Int} (hn:0≤n∧n≤1000) (K:Tk105) :
  l1_105 C kk (j+1) s n (s.length:Int) (Pt s (c :: l)) K=l1_105 C kk j s (10 * n+dv c) (s.length:Int) (Pt s l) K:=by
 have hd:=dv_bd hc
 have e:(c.toNat:Int) - 48=dv c:=rfl
 rw [l1_105_eq _ hC,dT (Pt_lt h),cond_true,at_Pt h,oB,Pt_succ h (by omega),e,u8_in hd.1 (by omega),i64_in (n:=dv c) (by omega) (by omega),i64_in (n:=10 * n) (by omega) (by omega),i64_in (by omega) (by omega)]
theorem end105 (hC:∀ key e t,C key e t=t e) (kk j:Nat) {s:B} {n:Int} (K:Tk105):l1_105 C kk (j+1) s n (s.length:Int) (Pt s []) K=K n:=by
 rw [l1_105_eq _ hC,Pt_end,dF (by omega),cond_false]
theorem eq105 (hC:∀ key e t,C key e t=t e) (s:B) (K:Tk105) (r:Out) (h:A105 s K=some r):run105 C big s K=some r:=by
 unfold A105 at h
 split at h
 ·rename_i ho
  obtain ⟨m,hm⟩:∃ m,big=m+3:=⟨big - 3,by unfold big;omega⟩
  have key:∀ kk,l1_105 C kk (m+3) s 0 (s.length:Int) (Pt s s) K=K (val s):=by
   intro kk
   unfold okP at ho
   split at ho
   ·rename_i a
    rw [step105 hC kk _ (by simp) (List.suffix_refl _) ho (by decide),end105 hC]
    rfl
   ·rename_i a b
    simp only [Bool.and_eq_true] at ho
    have:=dv_bd ho.1.1
    rw [step105 hC kk _ (by simp) (List.suffix_refl _) ho.1.1 (by decide),step105 hC kk _ (by simp) (List.suffix_cons a [b]) ho.2 (by omega),end105 hC]
    rfl
   ·cases ho
  rw [← hm,Pt_zero] at key
  rw [run105_eq,key,h]
 ·cases h
def A102:Ty102:=fun s o n K=>if o=[95]∧n=[]∧s.length≤1000000 then K (noU s) else none
def A103:Ty103:=fun s p K=>if p=[58]∧s.length≤1000000 then K (parts s) else none
theorem baseGo_len {b:Int} (hb:b=2∨b=8∨b=16):∀ (l acc:B),isD acc=true→(baseGo b acc l).length≤acc.length+14 * l.length
 | [],acc,_=>Nat.le_refl _
 | c :: l,acc,h=>by
  unfold baseGo
  have hn:=hexD_nn c
  by_cases hc:hexD c ≥ b
  ·rw [dT hc];exact Nat.zero_le _
  ·rw [dF hc]
   have h1:=mulAdd_isD h (m:=b) (k:=hexD c) (by omega) (by omega)
   have h2:=mulAdd_len h (m:=b) (k:=hexD c) (by omega) (by omega)
   have h3:=baseGo_len hb l _ h1.1
   simp only [List.length_cons]
   omega
theorem baseN_len (l:B) (b:Int):(baseN l b).length≤14 * l.length+1:=by
 unfold baseN
 split
 ·rename_i h
  rw [Bool.and_eq_true] at h
  have hb:b=2∨b=8∨b=16:=by have:=h.1;simp at this;omega
  have:=baseGo_len hb l [48] rfl
  simp at this
  omega
 ·exact Nat.zero_le _
theorem mulAddG_len (a:B) (m k:Int):(mulAddG a m k).length≤a.length+14:=by
 unfold mulAddG
 split
 ·rename_i h
  simp only [Bool.and_eq_true,Bool.not_eq_true'] at h
  exact mulAdd_len (good_D h.1.1.1 h.1.1.2).1 (inStep_iff.1 h.1.2) (inStep_iff.1 h.2)
 ·exact Nat.zero_le _
def foldM (n:B) (ps:List B):B:=ps.foldl (fun n q=>mulAddG n 60 (val q)) n
theorem foldM_len:∀ (ps:List B) (n:B),(foldM n ps).length≤n.length+14 * ps.length
 | [],n=>Nat.le_refl _
 | p :: ps,n=>by
  have h1:=mulAddG_len n 60 (val p)
  have h2:=foldM_len ps (mulAddG n 60 (val p))
  have:foldM n (p :: ps)=foldM (mulAddG n 60 (val p)) ps:=rfl
  rw [this]
  simp only [List.length_cons]
  omega
theorem parts_len:∀ l,(parts l).length≤l.length+1
 | []=>Nat.le_refl _
 | c :: l=>by
  have ih:=parts_len l
  cases h:c==58 with
  | true=>rw [eq_of_beq h,parts_hit];simp;omega
  | false =>
   obtain ⟨p,ps,e1,e2⟩:=parts_miss h l
   rw [e1] at ih
   rw [e2]
   simp at ih ⊢
   omega
theorem loop64 (hC:∀ key e t,C key e t=t e) (kk:Nat) (neg:Bool) (ps:List B) (hps:ps.tail.all okP=true) (hl:ps.length≤1000001) (K:Tk64):∀ (q p:Nat) (j:Nat) (n:B),ps.length=p+1+q→q<j→n.length≤10000000+14 * p →
  l2_64 C A95 A96 A100 A101 A102 A103 A104 A105 kk j neg n ps 1 (ps.length - 1) ((ps.length - 1:Nat):Int) (p:Int) K=K (norm neg (foldM n (ps.drop (p+1)))) true
 | 0,p,j,n,hp,hj,hn=>by
  obtain ⟨j,rfl⟩:∃ i,j=i+1:=⟨j - 1,by omega⟩
  rw [l2_64_eq _ _ _ _ _ _ _ _ _ hC,dF (by omega),cond_false,p1_64_eq _ _ _ _ _ _ _ _ _ hC,List.drop_eq_nil_of_le (by omega)]
  exact if_pos (by omega)
 | q+1,p,j,n,hp,hj,hn=>by
  obtain ⟨j,rfl⟩:∃ i,j=i+1:=⟨j - 1,by omega⟩
  have hlt:p+1<ps.length:=by omega
  have hok:okP ps[p+1]=true:=by
   have h1:ps[p+1] ∈ ps.tail:=by
    have:ps.tail[p]?=some ps[p+1]:=by rw [List.getElem?_tail];exact List.getElem?_eq_getElem hlt
    exact List.mem_of_getElem? this
   exact List.all_eq_true.1 hps _ h1
  have e1:ps[1+(p:Int).toNat]?=some ps[p+1]:=by
   rw [Int.toNat_natCast,Nat.add_comm]
   exact List.getElem?_eq_getElem hlt
  have e105:∀ k,A105 ps[p+1] k=k (val ps[p+1]):=fun k=>if_pos hok
  have hml:=mulAddG_len n 60 (val ps[p+1])
  have e104:∀ m k,A104 n 60 m k=k (mulAddG n 60 m):=fun m k=>if_pos (by omega)
  have ew:i64.wrap ((p:Int)+1)=((p+1:Nat):Int):=by rw [i64_in (by omega) (by omega)];omega
  rw [l2_64_eq _ _ _ _ _ _ _ _ _ hC,dT (show (p:Int)<((ps.length - 1:Nat):Int) by omega),cond_true,dT (show 0≤(p:Int) by omega),Bool.and_self,cond_true,e1,oB,e105,e104,ew,
   loop64 hC kk neg ps hps hl K q (p+1) j _ (by omega) (by omega) (by omega),List.drop_eq_getElem_cons hlt]
  rfl
theorem noU_zero {l:B}:noU (48 :: l)=48 :: noU l:=noU_miss rfl l
def A64:Ty64:=fun s K=>if s.length≤1000000 then K (int11 s).1 (!((int11 s).2==0)) else none
theorem eq64 (hC:∀ key e t,C key e t=t e) (s:B) (K:Tk64) (r:Out) (h:A64 s K=some r):run64 C A95 A96 A100 A101 A102 A103 A104 A105 big s K=some r:=by
 unfold A64 at h
 split at h
 ·rename_i hs
  have htl:=unsign_len s
  have e100:∀ k,A100 s k=k (form11 (unsign s).2):=fun k=>if_pos hs
  have e101:∀ k,A101 s k=k (unsign s).1 (unsign s).2:=fun k=>rfl
  have e102:∀ k,A102 (unsign s).2 [95] [] k=k (noU (unsign s).2):=fun k=>if_pos ⟨rfl,rfl,by omega⟩
  have e96:∀ b x k,x.length≤100000000→A96 b x k=k (norm b x):=fun b x k hx=>if_pos (by omega)
  rw [← h,run64_eq,e100,e101,e102,int11_form]
  simp only [p1_64_eq _ _ _ _ _ _ _ _ _ hC]
  unfold int11
  generalize (unsign s).2=t at htl ⊢
  generalize (unsign s).1=neg
  have hnl:=noU_len t
  cases t with
  | nil=>rfl
  | cons c l =>
   simp only [List.length_cons] at htl
   have hnl2:=noU_len l
   cases hc:c==48 with
   | true =>
    have:=eq_of_beq hc
    subst this
    cases l with
    | nil=>cases neg<;>rfl
    | cons d l =>
     simp only [List.length_cons] at htl
     have hnl3:=noU_len l
     have hf:form11 (48 :: d :: l)=(match d==98 with
      | true=>(match rowB 2 l with | true=>1 | false=>0)
      | false=>match d==120 with
       | true=>(match rowB 16 l with | true=>2 | false=>0)
       | false=>match rowB 8 (d :: l) with | true=>3 | false=>0):=rfl
     have e95:∀ x b k,x.length≤1000000→A95 x b k=k (baseN x b):=fun x b k hx=>if_pos hx
     have cut2:∀ (x y:UInt8) (m:B),cut (x :: y :: m) (some (2:Int)) none=some m:=by
      intro x y m
      unfold cut
      rw [if_pos (by simp only [Option.getD_some,Option.getD_none,List.length_cons];omega)]
      simp only [Option.getD_some,Option.getD_none,Int.toNat_natCast,List.take_length]
      rfl
     have hbl:=fun x b=>baseN_len x b
     rw [hf,noU_zero]
     simp only
     unfold rowN
     cases hd:d==98 with
     | true =>
      rw [eq_of_beq hd,noU_miss rfl]
      cases hr:rowB 2 l with
      | false=>rfl
      | true =>
       simp only [show ((1:Int)==0)=false from rfl,show ((1:Int)==1)=true from rfl,cond_false,cond_true,cut2,oB]
       rw [e95 _ _ _ (by omega),e96 _ _ _ (by have:=hbl (noU l) 2;omega)]
       rfl
     | false =>
      simp only
      cases hx:d==120 with
      | true =>
       rw [eq_of_beq hx,noU_miss rfl]
       cases hr:rowB 16 l with
       | false=>rfl
       | true =>
        simp only [show ((2:Int)==0)=false from rfl,show ((2:Int)==1)=false from rfl,show ((2:Int)==2)=true from rfl,cond_false,cond_true,cut2,oB]
        rw [e95 _ _ _ (by omega),e96 _ _ _ (by have:=hbl (noU l) 16;omega)]
        rfl
      | false =>
       have hnl4:=noU_len (d :: l)
       simp only [List.length_cons] at hnl4
       cases hr:rowB 8 (d :: l) with
       | false=>rfl
       | true =>
        simp only [show ((3:Int)==0)=false from rfl,show ((3:Int)==1)=false from rfl,show ((3:Int)==2)=false from rfl,show ((3:Int)==3)=true from rfl,cond_false,cond_true,cut1,oB]
        rw [e95 _ _ _ (by omega),e96 _ _ _ (by have:=hbl (noU (d :: l)) 8;omega)]
        rfl
   | false =>
    have hf:form11 (c :: l)=(match dg c with
      | false=>0
      | true=>match tailU l with
       | []=>5
       | x :: l'=>match sixties (x :: l') with | true=>6 | false=>0):=by
     unfold form11
     simp only [hc]
    rw [hf]
    simp only [hc]
    simp only [List.length_cons] at hnl
    cases hd:dg c with
    | false=>rfl
    | true =>
     simp only
     cases ht:tailU l with
     | nil =>
      simp only [show ((5:Int)==0)=false from rfl,show ((5:Int)==1)=false from rfl,show ((5:Int)==2)=false from rfl,show ((5:Int)==3)=false from rfl,show ((5:Int)==6)=false from rfl,cond_false]
      rw [e96 _ _ _ (by omega)]
      rfl
     | cons x l' =>
      simp only
      cases hsx:sixties (x :: l') with
      | false=>rfl
      | true =>
       simp only [show ((6:Int)==0)=false from rfl,show ((6:Int)==1)=false from rfl,show ((6:Int)==2)=false from rfl,show ((6:Int)==3)=false from rfl,show ((6:Int)==6)=true from rfl,cond_false,cond_true]
       have e103:∀ k,A103 (noU (c :: l)) [58] k=k (parts (noU (c :: l))):=fun k=>if_pos ⟨rfl,by omega⟩
       have hpl:=parts_len (noU (c :: l))
       obtain ⟨p0,ps,hps⟩:∃ p0 ps,parts (noU (c :: l))=p0 :: ps:=by
        cases hp:parts (noU (c :: l)) with
        | nil=>exact absurd hp (parts_ne _)
        | cons p0 ps=>exact ⟨p0,ps,rfl⟩
       have hall:ps.all okP=true∧p0.length≤1000000:=by
        have h58:=dg_58 hd
        have hpe:=parts_eq (c :: l)
        rw [parts_noU,hpe,tw_miss h58,dw_miss h58,List.map_cons] at hps
        cases hps
        have htw:=tw_le 58 l
        have hnl5:=noU_len (c :: tw 58 l)
        simp only [List.length_cons] at hnl5
        refine ⟨?_,by omega⟩
        rcases tailU_dw l with ⟨h1,h2⟩ | ⟨h1,y,t,h2,h3⟩
        ·rw [← ht,h2] at hsx
         rcases dw_cases 58 l with e | ⟨t,e⟩
         ·rw [e];rfl
         ·rw [e] at hsx ⊢
          rw [sixties_one] at hsx
          simp only
          rw [map_noU hsx]
          exact hsx
        ·rw [← ht,h2,sixties_no h3] at hsx;cases hsx
       have hpl':ps.length≤1000000:=by rw [hps] at hpl;simp only [List.length_cons] at hpl;omega
       have hval:value (noU (c :: l))=foldM (norm false p0) ps:=by unfold value;rw [hps];rfl
       have h0:(decide (0≤(0:Int))&&decide ((0:Int)<((p0 :: ps).length:Int)))=true:=by rw [dT (by decide),dT (by simp only [List.length_cons];omega)];rfl
       have e1:(1:Int)=((1:Nat):Int):=rfl
       have hnn:=norm_len false p0
       rw [e103,hps,h0,cond_true,hval]
       simp only [List.getElem?_cons_zero,oB]
       rw [e96 _ _ _ (by omega),e1,cutN_from (by simp only [List.length_cons];omega),oB]
       have:=loop64 hC big neg (p0 :: ps) hall.1 (by simp only [List.length_cons];omega) K ps.length 0 big (norm false p0) (by simp only [List.length_cons];omega) (by unfold big;omega) (by omega)
       exact this
 ·cases h
end Go.Proofs.YtffmgholjdfcnaaGreatDoor
