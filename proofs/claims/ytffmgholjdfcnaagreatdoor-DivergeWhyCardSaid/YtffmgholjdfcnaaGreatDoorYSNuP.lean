import Derived.Test.YtffmgholjdfcnaaGreatDoorYSNuO
import Derived.Test.YtffmgholjdfcnaaGreatDoorKSC
set_option linter.unusedSimpArgs false
set_option linter.unusedVariables false
namespace Go.Proofs.YtffmgholjdfcnaaGreatDoor
open Go AM St Nu
open Go.IntKind (i64 u8)
variable {C:Nat→Env→(Env→Option Out)→Option Out}
def sgnB (s:B):B:=match s with | []=>[] | c :: _=>match isS c with | true=>[c] | false=>[]
theorem sgnB_45 (s:B):(sgnB s==[45])=(unsign s).1:=by
 cases s with
 | nil=>rfl
 | cons c l =>
  show ((match isS c with | true=>[c] | false=>[])==([45]:B))=(match isS c with | true=>(c==45,l) | false=>(false,c :: l)).1
  cases isS c with
  | true=>simp only [List.cons_beq_cons];simp
  | false=>rfl
theorem sgnB_nil (s:B):(sgnB s==[])=!signed s:=by
 cases s with
 | nil=>rfl
 | cons c l =>
  show ((match isS c with | true=>[c] | false=>[])==([]:B))=!isS c
  cases isS c<;>rfl
def A93:Ty93:=fun s K=>K (sgnB s) (unsign s).2
theorem cut_1 (c:UInt8) (l:B):cut (c :: l) none (some (1:Int))=some [c]:=by
 unfold cut
 rw [if_pos (by simp only [Option.getD_some,Option.getD_none,List.length_cons];omega)]
 simp
theorem eq93 (hC:∀ key e t,C key e t=t e) (s:B) (K:Tk93):run93 C big s K=A93 s K:=by
 rw [run93_eq]
 unfold A93
 simp only [p1_93_eq _ hC]
 cases s with
 | nil=>rfl
 | cons c l =>
  have h0:(c :: l==([]:B))=false:=rfl
  simp only [h0,Bool.not_false,cond_true,at0,oB,cut1,cut_1,eqB 43 (n:=43) rfl,eqB 45 (n:=45) rfl]
  show _=K (match isS c with | true=>[c] | false=>[]) (match isS c with | true=>(c==45,l) | false=>(false,c :: l)).2
  unfold isS
  cases c==43<;>cases c==45<;>rfl
def dD (l:B):B:=l.dropWhile dg
def tD (l:B):B:=l.takeWhile dg
theorem tD_dD (l:B):tD l++dD l=l:=List.takeWhile_append_dropWhile
theorem dD_suf (l:B):dD l <:+ l:=List.dropWhile_suffix _
theorem dD_le (l:B):(dD l).length≤l.length:=(dD_suf l).length_le
theorem tD_le (l:B):(tD l).length≤l.length:=(List.takeWhile_prefix _).length_le
theorem dD_yes {c:UInt8} (h:dg c=true) (l:B):dD (c :: l)=dD l:=by unfold dD;rw [List.dropWhile_cons,h];rfl
theorem dD_no {c:UInt8} (h:dg c=false) (l:B):dD (c :: l)=c :: l:=by unfold dD;rw [List.dropWhile_cons,h];rfl
theorem cut_dD {s:B}:cut s none (some (Pt s (dD s)))=some (tD s):=by
 have h:=dD_le s
 have e:=tD_dD s
 have hl:=congrArg List.length e
 rw [List.length_append] at hl
 unfold cut Pt
 rw [if_pos (by simp only [Option.getD_some,Option.getD_none];omega)]
 simp only [Option.getD_some,Option.getD_none,Int.toNat_natCast]
 have e2:s.length - (dD s).length=(tD s).length:=by omega
 rw [e2]
 have:=List.take_left (l₁:=tD s) (l₂:=dD s)
 rw [e] at this
 rw [this]
 rfl
def A98:Ty98:=fun s K=>if s.length≤1000000 then K (tD s) (dD s) else none
theorem eq98 (s:B) (K:Tk98) (r:Out) (h:A98 s K=some r):run98 C A148 big s K=some r:=by
 unfold A98 at h
 split at h
 ·rename_i hs
  have hd:Lib.trimLeftS s tenB=dD s:=by
   unfold Lib.trimLeftS dD
   have:(tenB.contains ·)=dg:=funext ten_dg
   rw [this]
  have e148:∀ k,A148 s [48,49,50,51,52,53,54,55,56,57] k=k (dD s):=by
   intro k
   rw [← hd]
   exact if_pos ⟨rfl,by decide,by omega⟩
  have hl:=dD_le s
  have hp:i64.wrap ((s.length:Int) - ((dD s).length:Int))=Pt s (dD s):=by
   rw [i64_in (by omega) (by omega)]
   unfold Pt
   omega
  rw [← h,run98_eq,e148,hp,cut_dD,oB]
 ·cases h
def A97:Ty97:=fun g t K=>match isInf t with
 | true=>K 1 (g==[45]) [] [] true
 | false=>match isNan t with
  | true=>K 2 false [] [] (g==[])
  | false=>K 0 false [] [] false
theorem eq97 (hC:∀ key e t,C key e t=t e) (g t:B) (K:Tk97):run97 C big g t K=A97 g t K:=by
 rw [run97_eq]
 simp only [p1_97_eq _ hC,p2_97_eq _ hC]
 unfold A97 isInf isNan
 cases t==([46,105,110,102]:B)<;>cases t==([46,73,110,102]:B)<;>cases t==([46,73,78,70]:B)<;>cases t==([46,110,97,110]:B)<;>cases t==([46,78,97,78]:B)<;>cases t==([46,78,65,78]:B)<;>rfl
def A62:Ty62:=fun s K=>if s.length≤1000000 then K (int12 s) (!(int12 s==[])) else none
theorem eq62 (hC:∀ key e t,C key e t=t e) (s:B) (K:Tk62) (r:Out) (h:A62 s K=some r):run62 C A93 A94 A95 A96 big s K=some r:=by
 unfold A62 at h
 split at h
 ·rename_i hs
  have hul:=unsign_len s
  have e93:∀ k,A93 s k=k (sgnB s) (unsign s).2:=fun k=>rfl
  have e94:∀ p k,A94 s p k=k (Lib.hasPrefix s p):=fun p k=>rfl
  have e95:∀ x b k,x.length≤1000000→A95 x b k=k (baseN x b):=fun x b k hx=>if_pos hx
  have e96:∀ k,A96 (unsign s).1 (unsign s).2 k=k (norm (unsign s).1 (unsign s).2):=fun k=>if_pos (by omega)
  rw [← h,run62_eq,e93,e94,e94,sgnB_45]
  simp only [p1_62_eq _ _ _ _ _ hC,e96]
  match s with
  | []=>rfl
  | [c] =>
   have h1:Lib.hasPrefix [c] [48,111]=false:=by rw [pre_cons,pre_nil,Bool.and_false]
   have h2:Lib.hasPrefix [c] [48,120]=false:=by rw [pre_cons,pre_nil,Bool.and_false]
   rw [h1,h2]
   rfl
  | c :: d :: l =>
   have hh:int12 (c :: d :: l)=(match c==48&&d==111 with
    | true=>baseN l 8
    | false=>match c==48&&d==120 with
     | true=>baseN l 16
     | false=>norm (unsign (c :: d :: l)).1 (unsign (c :: d :: l)).2):=rfl
   simp only [List.length_cons] at hs
   rw [pre_cons,pre_cons,pre_cons,pre_cons,pre_end,Bool.and_true,Bool.and_true,beq_sym 48 c,beq_sym 111 d,beq_sym 120 d,cut2,hh]
   simp only [oB]
   rw [e95 _ _ _ (by omega),e95 _ _ _ (by omega)]
   cases c==48<;>cases d==111<;>cases d==120<;>rfl
 ·cases h
def A71:Ty71:=fun s K=>if s.length≤1000000 then K (int12 s) (!(int12 s==[])) else none
theorem int12_two (c d : UInt8) : int12 [c, d] = norm (unsign [c, d]).1 (unsign [c, d]).2 := by
  have hh : int12 [c, d] = (match c == 48 && d == 111 with
        | true => baseN [] 8
        | false => match c == 48 && d == 120 with
          | true => baseN [] 16
          | false => norm (unsign [c, d]).1 (unsign [c, d]).2) := rfl
  rw [hh]
  cases hc : c == 48 with
  | false => rfl
  | true =>
    rw [eq_of_beq hc]
    cases hd : d == 111 with
    | true => rw [eq_of_beq hd]; rfl
    | false =>
      cases hx : d == 120 with
      | true => rw [eq_of_beq hx]; rfl
      | false => rfl
theorem eq71 (hC:∀ key e t,C key e t=t e) (s:B) (K:Tk71) (r:Out) (h:A71 s K=some r):run71 C A113 A114 A115 big s K=some r:=by
 unfold A71 at h
 split at h
 ·rename_i hs
  have hul:=unsign_len s
  have e114:∀ k,A114 s k=k (unsign s).2 (unsign s).1:=fun k=>rfl
  have e113:∀ x b k,x.length≤1000000→A113 x b k=k (baseN x b):=fun x b k hx=>if_pos hx
  have e115:∀ k,A115 (unsign s).1 (unsign s).2 k=k (norm (unsign s).1 (unsign s).2):=fun k=>if_pos (by omega)
  rw [← h,run71_eq]
  simp only [p1_71_eq _ _ _ _ hC,p2_71_eq _ _ _ _ hC,e114,e115]
  match s with
  | []=>rfl
  | [c]=>rfl
  | [c,d]=>rw [int12_two];rfl
  | c :: d :: x :: l =>
   have hh:int12 (c :: d :: x :: l)=(match c==48&&d==111 with
    | true=>baseN (x :: l) 8
    | false=>match c==48&&d==120 with
     | true=>baseN (x :: l) 16
     | false=>norm (unsign (c :: d :: x :: l)).1 (unsign (c :: d :: x :: l)).2):=rfl
   have e1:at? (c :: d :: x :: l) 1=some d:=rfl
   have e0:decide (((c :: d :: x :: l).length:Int) > 2)=true:=dT (by simp only [List.length_cons];omega)
   simp only [List.length_cons] at hs
   rw [e0,at0,e1,cut2,hh]
   simp only [oB,cond_true,eqB 48 (n:=48) rfl,eqB 111 (n:=111) rfl,eqB 120 (n:=120) rfl]
   rw [e113 _ _ _ (by simp only [List.length_cons];omega),e113 _ _ _ (by simp only [List.length_cons];omega)]
   cases hc:c==48 with
   | false=>rfl
   | true =>
    cases hd:d==111 with
    | true=>rw [eq_of_beq hd];rfl
    | false=>cases d==120<;>rfl
 ·cases h
theorem makeD_none {neg:Bool} {w f e:B} (h:w++f=[]):makeD neg w f e=(noDe,false):=by
 unfold makeD
 rw [h]
 rfl
def A63:Ty63:=fun s K=>if s.length≤10000 then K (fl12 s).1.kind (fl12 s).1.neg (fl12 s).1.d (fl12 s).1.e (fl12 s).2 else none
def afterD (neg:Bool) (w f t:B):De × Bool:=match tailE true t with
 | none=>(noDe,false)
 | some exp=>makeD neg w f exp
theorem fl12_eq (s:B):fl12 s=(match odd (unsign s).2 (unsign s).1 (signed s) with
 | some d=>(d,true)
 | none=>match int12 s with
  | _ :: _=>(noDe,false)
  | []=>match dD (unsign s).2 with
   | []=>makeD (unsign s).1 (tD (unsign s).2) [] [48]
   | c :: l=>match c==46 with
    | true=>afterD (unsign s).1 (tD (unsign s).2) (tD l) (dD l)
    | false=>afterD (unsign s).1 (tD (unsign s).2) [] (c :: l)):=rfl
section
variable {K:Tk63}
theorem exp63 (hC:∀ key e t,C key e t=t e) (g w f t:B) (hw:w.length≤1000000) (hf:f.length≤1000000) (ht:t.length≤1000000) (g1:Option Out) (hg1:g1=K 0 false [] [] false) (g3:Option Out) (hg3:g3=A99 (g==[45]) w f [48] K) :
  ((cat w f).bind fun s16=>(bif (s16==([]:BY)) then g1 else (bif (t==([]:BY)) then g3 else ((at? t 0).bind fun b17=>(bif ((b17.toNat:Int) != 101) then ((at? t 0).bind fun b18=>(bif ((b18.toNat:Int) != 69) then g1 else ((cut t (some (1:Int)) none).bind fun s19=>(A93 s19 fun r20 r21=>(A96 (r20==([45]:BY)) r21 fun r22=>(bif (r22==([]:BY)) then g1 else (A99 (g==([45]:BY)) w f r22 K))))))) else ((cut t (some (1:Int)) none).bind fun s28=>(A93 s28 fun r29 r30=>(A96 (r29==([45]:BY)) r30 fun r31=>(bif (r31==([]:BY)) then g1 else (A99 (g==([45]:BY)) w f r31 K)))))))))) =
  K (afterD (g==[45]) w f t).1.kind (afterD (g==[45]) w f t).1.neg (afterD (g==[45]) w f t).1.d (afterD (g==[45]) w f t).1.e (afterD (g==[45]) w f t).2:=by
 subst hg1 hg3
 have e99:∀ e,e.length≤1000001→A99 (g==[45]) w f e K=K (makeD (g==[45]) w f e).1.kind (makeD (g==[45]) w f e).1.neg (makeD (g==[45]) w f e).1.d (makeD (g==[45]) w f e).1.e (makeD (g==[45]) w f e).2:=fun e he=>if_pos ⟨hw,hf,by omega⟩
 rw [cat_ok (by omega),oB]
 unfold afterD
 cases hn:w++f==[] with
 | true =>
  have hn':w++f=[]:=eq_of_beq hn
  rw [cond_true]
  cases tailE true t with
  | none=>rfl
  | some exp=>simp only;rw [makeD_none hn'];rfl
 | false =>
  rw [cond_false]
  cases t with
  | nil =>
   have h0:(([]:B)==[])=true:=rfl
   have h1:tailE true []=some [48]:=rfl
   rw [h0,cond_true,h1,e99 _ (by simp)]
  | cons c l =>
   simp only [List.length_cons] at ht
   have h0:(c :: l==([]:B))=false:=rfl
   have hul:=unsign_len l
   have hnl:=norm_len (unsign l).1 (unsign l).2
   have e93:∀ k,A93 l k=k (sgnB l) (unsign l).2:=fun k=>rfl
   have e96:∀ k,A96 (unsign l).1 (unsign l).2 k=k (norm (unsign l).1 (unsign l).2):=fun k=>if_pos (by omega)
   have h1:tailE true (c :: l)=(match c==101 || c==69 with | false=>none | true=>match isD (unsign l).2 with | true=>some (norm (unsign l).1 (unsign l).2) | false=>none):=rfl
   rw [h0,cond_false,at0,cut1,h1]
   simp only [oB,neB 101 (n:=101) rfl,neB 69 (n:=69) rfl,e93,sgnB_45,e96,norm_nil]
   rw [e99 _ (by omega)]
   cases c==101<;>cases c==69<;>cases isD (unsign l).2<;>rfl
end
theorem eq63 (hC : Cv C) (s : B) (K : Tk63) (r : Out) (h : A63 s K = some r) : run63 C A62 A93 A94 A96 A97 A98 A99 big s K = some r := by
  unfold A63 at h
  split at h
  · rename_i hs
    have hul := unsign_len s
    have e93 : ∀ k, A93 s k = k (sgnB s) (unsign s).2 := fun k => rfl
    have e97 : ∀ k, A97 (sgnB s) (unsign s).2 k = (match isInf (unsign s).2 with
      | true => k 1 (sgnB s == [45]) [] [] true
      | false => match isNan (unsign s).2 with
        | true => k 2 false [] [] (sgnB s == [])
        | false => k 0 false [] [] false) := fun k => rfl
    have e62 : ∀ k, A62 s k = k (int12 s) (!(int12 s == [])) := fun k => if_pos (by omega)
    have e98 : ∀ x k, x.length ≤ 10000 → A98 x k = k (tD x) (dD x) := fun x k hx => if_pos (by omega)
    have g1 : ∀ j, 0 < j → g1_63 C A62 A93 A94 A96 A97 A98 A99 big j 0 false [] [] K = K 0 false [] [] false := by
      intro j hj
      obtain ⟨j, rfl⟩ : ∃ i, j = i + 1 := ⟨j - 1, by omega⟩
      rw [g1_63_eq _ _ _ _ _ _ _ _ hC]
    have g3 : ∀ j g w f e, 0 < j → g3_63 C A62 A93 A94 A96 A97 A98 A99 big j 0 false [] [] g w f e K = A99 (g == [45]) w f e K := by
      intro j g w f e hj
      obtain ⟨j, rfl⟩ : ∃ i, j = i + 1 := ⟨j - 1, by omega⟩
      rw [g3_63_eq _ _ _ _ _ _ _ _ hC]
    have hb : 0 < big := by unfold big; omega
    rw [← h, run63_eq, e93, e97, e62, fl12_eq]
    simp only [g1 big hb]
    rw [e98 _ _ (by omega)]
    have hcore : (A94 (dD (unsign s).2) ([46] : BY) fun r12 => (bif (!r12) then (g2_63 C A62 A93 A94 A96 A97 A98 A99 big big 0 false ([] : BY) ([] : BY) (sgnB s) (dD (unsign s).2) (tD (unsign s).2) ([] : BY) ([48] : BY) K) else ((cut (dD (unsign s).2) (some (1 : Int)) none).bind fun s13 => (A98 s13 fun r14 r15 => ((cat (tD (unsign s).2) r14).bind fun s16 => (bif (s16 == ([] : BY)) then (K 0 false [] [] false) else (bif (r15 == ([] : BY)) then (g3_63 C A62 A93 A94 A96 A97 A98 A99 big big 0 false ([] : BY) ([] : BY) (sgnB s) (tD (unsign s).2) r14 ([48] : BY) K) else ((at? r15 0).bind fun b17 => (bif ((b17.toNat : Int) != 101) then ((at? r15 0).bind fun b18 => (bif ((b18.toNat : Int) != 69) then (K 0 false [] [] false) else ((cut r15 (some (1 : Int)) none).bind fun s19 => (A93 s19 fun r20 r21 => (A96 (r20 == ([45] : BY)) r21 fun r22 => (bif (r22 == ([] : BY)) then (K 0 false [] [] false) else (A99 (sgnB s == ([45] : BY)) (tD (unsign s).2) r14 r22 K))))))) else ((cut r15 (some (1 : Int)) none).bind fun s28 => (A93 s28 fun r29 r30 => (A96 (r29 == ([45] : BY)) r30 fun r31 => (bif (r31 == ([] : BY)) then (K 0 false [] [] false) else (A99 (sgnB s == ([45] : BY)) (tD (unsign s).2) r14 r31 K)))))))))))))) =
        (match dD (unsign s).2 with
          | [] => K (makeD (unsign s).1 (tD (unsign s).2) [] [48]).1.kind (makeD (unsign s).1 (tD (unsign s).2) [] [48]).1.neg (makeD (unsign s).1 (tD (unsign s).2) [] [48]).1.d (makeD (unsign s).1 (tD (unsign s).2) [] [48]).1.e (makeD (unsign s).1 (tD (unsign s).2) [] [48]).2
          | c :: l => match c == 46 with
            | true => K (afterD (unsign s).1 (tD (unsign s).2) (tD l) (dD l)).1.kind (afterD (unsign s).1 (tD (unsign s).2) (tD l) (dD l)).1.neg (afterD (unsign s).1 (tD (unsign s).2) (tD l) (dD l)).1.d (afterD (unsign s).1 (tD (unsign s).2) (tD l) (dD l)).1.e (afterD (unsign s).1 (tD (unsign s).2) (tD l) (dD l)).2
            | false => K (afterD (unsign s).1 (tD (unsign s).2) [] (c :: l)).1.kind (afterD (unsign s).1 (tD (unsign s).2) [] (c :: l)).1.neg (afterD (unsign s).1 (tD (unsign s).2) [] (c :: l)).1.d (afterD (unsign s).1 (tD (unsign s).2) [] (c :: l)).1.e (afterD (unsign s).1 (tD (unsign s).2) [] (c :: l)).2) := by
      have e94 : ∀ p k, A94 (dD (unsign s).2) p k = k (Lib.hasPrefix (dD (unsign s).2) p) := fun p k => rfl
      have hdl := dD_le (unsign s).2
      have htl := tD_le (unsign s).2
      obtain ⟨m, hm⟩ : ∃ m, big = (m + 1) + 1 := ⟨big - 2, by unfold big; omega⟩
      have hg2 : g2_63 C A62 A93 A94 A96 A97 A98 A99 big big 0 false ([] : BY) ([] : BY) (sgnB s) (dD (unsign s).2) (tD (unsign s).2) ([] : BY) ([48] : BY) K = K (afterD (unsign s).1 (tD (unsign s).2) [] (dD (unsign s).2)).1.kind (afterD (unsign s).1 (tD (unsign s).2) [] (dD (unsign s).2)).1.neg (afterD (unsign s).1 (tD (unsign s).2) [] (dD (unsign s).2)).1.d (afterD (unsign s).1 (tD (unsign s).2) [] (dD (unsign s).2)).1.e (afterD (unsign s).1 (tD (unsign s).2) [] (dD (unsign s).2)).2 := by
        have := g2_63_eq (C := C) A62 A93 A94 A96 A97 A98 A99 hC big (m + 1) 0 false [] [] (sgnB s) (dD (unsign s).2) (tD (unsign s).2) [] [48] K
        rw [← hm] at this
        rw [this]
        have hx := exp63 hC (K := K) (sgnB s) (tD (unsign s).2) [] (dD (unsign s).2) (by omega) (by simp) (by omega) _ (g1 (m + 1) (by omega)) _ (g3 (m + 1) (sgnB s) (tD (unsign s).2) [] [48] (by omega))
        rw [sgnB_45] at hx
        refine Eq.trans ?_ hx
        rw [sgnB_45]
      rw [e94, hg2]
      cases hdD : dD (unsign s).2 with
      | nil => rfl
      | cons c l =>
        rw [hdD] at hdl
        simp only [List.length_cons] at hdl
        rw [pre_cons, pre_end, Bool.and_true, beq_sym 46 c]
        simp only
        cases hc : c == 46 with
        | false => rfl
        | true =>
          have hl1 := tD_le l
          have hl2 := dD_le l
          rw [Bool.not_true, cond_false, cut1, oB, e98 _ _ (by omega)]
          simp only
          have hx := exp63 hC (K := K) (sgnB s) (tD (unsign s).2) (tD l) (dD l) (by omega) (by omega) (by omega) _ rfl _ (g3 big (sgnB s) (tD (unsign s).2) (tD l) [48] hb)
          rw [sgnB_45] at hx ⊢
          exact hx
    unfold odd
    have hrest : (bif !(int12 s == []) then K 0 false [] [] false else (match dD (unsign s).2 with
          | [] => K (makeD (unsign s).1 (tD (unsign s).2) [] [48]).1.kind (makeD (unsign s).1 (tD (unsign s).2) [] [48]).1.neg (makeD (unsign s).1 (tD (unsign s).2) [] [48]).1.d (makeD (unsign s).1 (tD (unsign s).2) [] [48]).1.e (makeD (unsign s).1 (tD (unsign s).2) [] [48]).2
          | c :: l => match c == 46 with
            | true => K (afterD (unsign s).1 (tD (unsign s).2) (tD l) (dD l)).1.kind (afterD (unsign s).1 (tD (unsign s).2) (tD l) (dD l)).1.neg (afterD (unsign s).1 (tD (unsign s).2) (tD l) (dD l)).1.d (afterD (unsign s).1 (tD (unsign s).2) (tD l) (dD l)).1.e (afterD (unsign s).1 (tD (unsign s).2) (tD l) (dD l)).2
            | false => K (afterD (unsign s).1 (tD (unsign s).2) [] (c :: l)).1.kind (afterD (unsign s).1 (tD (unsign s).2) [] (c :: l)).1.neg (afterD (unsign s).1 (tD (unsign s).2) [] (c :: l)).1.d (afterD (unsign s).1 (tD (unsign s).2) [] (c :: l)).1.e (afterD (unsign s).1 (tD (unsign s).2) [] (c :: l)).2)) =
        (fun p : De × Bool => K p.1.kind p.1.neg p.1.d p.1.e p.2) (match int12 s with
          | _ :: _ => (noDe, false)
          | [] => match dD (unsign s).2 with
            | [] => makeD (unsign s).1 (tD (unsign s).2) [] [48]
            | c :: l => match c == 46 with
              | true => afterD (unsign s).1 (tD (unsign s).2) (tD l) (dD l)
              | false => afterD (unsign s).1 (tD (unsign s).2) [] (c :: l)) := by
      cases int12 s with
      | cons a b => rfl
      | nil =>
        cases dD (unsign s).2 with
        | nil => rfl
        | cons c l => simp only; cases c == 46 <;> rfl
    cases h1 : isInf (unsign s).2 with
    | true => simp only [cond_true]; rw [sgnB_45]
    | false =>
      simp only
      cases h2 : isNan (unsign s).2 with
      | true =>
        rw [sgnB_nil]
        cases h3 : signed s with
        | false => rfl
        | true =>
          simp only [Bool.not_true, cond_false, Bool.and_false]
          rw [hcore]
          exact hrest
      | false =>
        simp only [cond_false, Bool.false_and]
        rw [hcore]
        exact hrest
  · cases h
end Go.Proofs.YtffmgholjdfcnaaGreatDoor
