import Derived.Test.YtffmgholjdfcnaaGreatDoorYSNuE
namespace Go.Proofs.YtffmgholjdfcnaaGreatDoor.Nu
open Go St
theorem hexD_dg (c:UInt8):decide (hexD c<10)=dg c:=by
 unfold hexD hexV dg
 have:=c.toNat_lt
 by_cases a:48≤c.toNat
 ·by_cases b:c.toNat≤57
  ·rw [if_pos (by omega),decide_eq_true (by omega),decide_eq_true a,decide_eq_true b];rfl
  ·rw [if_neg (by omega),decide_eq_true a,decide_eq_false b,Bool.and_false]
   refine decide_eq_false ?_
   split
   ·omega
   ·split<;>omega
 ·rw [if_neg (by omega),decide_eq_false a,Bool.false_and]
  refine decide_eq_false ?_
  split
  ·omega
  ·split<;>omega
theorem rowB_ten (l:B):rowB 10 l=(l.all dgU&&!(noU l==[])):=by
 unfold rowB
 congr 1
 congr 1
 funext c
 rw [hexD_dg];rfl
theorem dgU_58:dgU 58=false:=by decide
theorem dgU_46:dgU 46=false:=by decide
theorem tailU_nil:tailU []=[]:=rfl
theorem tailU_yes {c:UInt8} (h:dgU c=true) (l:B):tailU (c :: l)=tailU l:=by unfold tailU;rw [List.dropWhile_cons,h];rfl
theorem tailU_no {c:UInt8} (h:dgU c=false) (l:B):tailU (c :: l)=c :: l:=by unfold tailU;rw [List.dropWhile_cons,h];rfl
theorem tailU_le (l:B):(tailU l).length≤l.length:=(List.dropWhile_suffix _).length_le
theorem tailU_all:∀ l,(tailU l==[])=l.all dgU
 | []=>rfl
 | c :: l=>by
  cases h:dgU c with
  | true=>rw [tailU_yes h,tailU_all l,List.all_cons,h];rfl
  | false=>rw [tailU_no h,List.all_cons,h];rfl
theorem tailU_dw:∀ l,((tw 58 l).all dgU=true∧tailU l=dw 58 l)∨((tw 58 l).all dgU=false∧∃ c t,tailU l=c :: t∧(c==58)=false)
 | []=>.inl ⟨rfl,rfl⟩
 | c :: l=>by
  cases h:c==58 with
  | true =>
   have:=eq_of_beq h
   subst this
   rw [tw_hit,dw_hit]
   exact .inl ⟨rfl,tailU_no dgU_58 l⟩
  | false =>
   rw [tw_miss h,dw_miss h,List.all_cons]
   cases hd:dgU c with
   | true=>rw [tailU_yes hd,Bool.true_and];exact tailU_dw l
   | false=>rw [tailU_no hd];exact .inr ⟨rfl,c,l,rfl,h⟩
def sixtyR (w:B):B × Bool:=match dw 58 w with
 | []=>([],false)
 | _ :: t=>match dg (w.headD 0)&&rowB 10 (tw 58 w) with
  | false=>([],false)
  | true=>match (parts t).all okP with
   | false=>([],false)
   | true=>((parts t).foldl (fun n q=>mulAddG n 60 (val q)) (norm false (noU (tw 58 w))),true)
theorem map_noU:∀ {ps:List B},ps.all okP=true→ps.map noU=ps
 | [],_=>rfl
 | p :: ps,h=>by
  rw [List.all_cons,Bool.and_eq_true] at h
  rw [List.map_cons,map_noU h.2,noU_id (isD_all (okP_dg h.1)).1]
theorem noU_dg {c:UInt8} (h:dg c=true) (l:B):noU (c :: l)=c :: noU l:=noU_miss (dg_not h (by decide)) l
theorem rowB_of {c:UInt8} {l:B} (h:dg c=true) (ha:(c :: l).all dgU=true):rowB 10 (c :: l)=true:=by
 rw [rowB_ten,ha,noU_dg h];rfl
theorem value_eq {c:UInt8} {l:B}:value (noU (c :: l))=(match dw 58 (c :: l) with | []=>norm false (noU (tw 58 (c :: l))) | _ :: t=>((parts t).map noU).foldl (fun n q=>mulAddG n 60 (val q)) (norm false (noU (tw 58 (c :: l))))):=by
 unfold value
 rw [parts_noU,parts_eq]
 cases dw 58 (c :: l)<;>rfl
theorem dg_58 {c:UInt8} (h:dg c=true):(c==58)=false:=dg_not h (by decide)
theorem dg_46 {c:UInt8} (h:dg c=true):(c==46)=false:=dg_not h (by decide)
theorem dg_dgU {c:UInt8} (h:dg c=true):dgU c=true:=by unfold dgU;rw [h,Bool.or_true]
theorem sixtyR_eq {c:UInt8} {l:B} (h:dg c=true) (hn:tailU l ≠ []):sixtyR (c :: l)=(match sixties (tailU l) with | true=>(value (noU (c :: l)),true) | false=>([],false)):=by
 have h58:=dg_58 h
 unfold sixtyR
 rw [value_eq,tw_miss h58,dw_miss h58]
 rcases tailU_dw l with ⟨h1,h2⟩ | ⟨h1,x,t,h2,h3⟩
 ·rw [h2] at hn
  rcases dw_cases 58 l with e | ⟨t,e⟩
  ·exact absurd e hn
  ·have hr:rowB 10 (c :: tw 58 l)=true:=rowB_of h (by rw [List.all_cons,h1,dg_dgU h];rfl)
   rw [h2,e,sixties_one]
   simp only [List.headD_cons,h,hr,Bool.and_self]
   cases hp:(parts t).all okP with
   | false=>rfl
   | true=>rw [map_noU hp]
 ·rw [h2,sixties_no h3]
  have hr:rowB 10 (c :: tw 58 l)=false:=by rw [rowB_ten,List.all_cons,h1,Bool.and_false,Bool.false_and]
  rw [List.headD_cons,hr,Bool.and_false]
  cases dw 58 l<;>rfl
theorem rowB_end {c:UInt8} {l:B} (h:dg c=true):rowB 10 (c :: l)=(tailU l==[]):=by
 rw [rowB_ten,noU_dg h,List.all_cons,dg_dgU h,tailU_all]
 cases l.all dgU<;>rfl
theorem tw_all58:∀ {l:B},l.all dgU=true→tw 58 l=l∧dw 58 l=[]
 | [],_=>⟨rfl,rfl⟩
 | c :: l,h=>by
  rw [List.all_cons,Bool.and_eq_true] at h
  have hc:(c==58)=false:=by
   cases e:c==58 with
   | false=>rfl
   | true=>rw [eq_of_beq e,dgU_58] at h;cases h.1
  have ⟨h1,h2⟩:=tw_all58 h.2
  rw [tw_miss hc,dw_miss hc,h1,h2]
  exact ⟨rfl,rfl⟩
theorem valueF_row {l:B} (h:l.all dgU=true):valueF (noU l)=noU l:=by
 have ⟨h1,h2⟩:=tw_all58 h
 unfold valueF
 rw [parts_noU,parts_eq,h1,h2]
 rfl
theorem valueF_sixty {c:UInt8} {l:B} (h:dg c=true) (hn:tailU l ≠ []) (hs:sixties (tailU l)=true):valueF (noU (c :: l))=value (noU (c :: l)):=by
 have h58:=dg_58 h
 unfold valueF value
 rw [parts_noU,parts_eq,tw_miss h58,dw_miss h58]
 rcases tailU_dw l with ⟨h1,h2⟩ | ⟨h1,x,t,h2,h3⟩
 ·rw [h2] at hn
  rcases dw_cases 58 l with e | ⟨t,e⟩
  ·exact absurd e hn
  ·rw [e]
   simp only
   rw [parts_eq t]
   rfl
 ·rw [h2,sixties_no h3] at hs;cases hs
def strip:B→B
 | []=>[]
 | [c]=>[c]
 | [c,a]=>(match c==58&&dg a with | true=>[] | false=>[c,a])
 | c :: a :: b :: l=>match c==58&&dg a with
  | false=>c :: a :: b :: l
  | true=>match decide (a.toNat≤53)&&dg b with
   | true=>strip l
   | false=>strip (b :: l)
theorem strip_2 (c a:UInt8):strip [c,a]=(match c==58&&dg a with | true=>[] | false=>[c,a]):=rfl
theorem strip_3 (c a b:UInt8) (l:B):strip (c :: a :: b :: l)=(match c==58&&dg a with
  | false=>c :: a :: b :: l
  | true=>match decide (a.toNat≤53)&&dg b with
   | true=>strip l
   | false=>strip (b :: l)):=rfl
theorem strip_no {c:UInt8} (h:(c==58)=false) (l:B):strip (c :: l)=c :: l:=by
 match l with
 | []=>rfl
 | [a]=>rw [strip_2,h];rfl
 | a :: b :: l=>rw [strip_3,h];rfl
theorem strip_dg {a:UInt8} (h:dg a=false) (l:B):strip (58 :: a :: l)=58 :: a :: l:=by
 match l with
 | []=>rw [strip_2,h];rfl
 | b :: l=>rw [strip_3,h];rfl
theorem sixties_dg {a:UInt8} (h:dg a=false) (l:B):sixties (58 :: a :: l)=false:=by
 match l with
 | []=>rw [sixties_a,h]
 | b :: l=>rw [sixties_two,h];rfl
theorem strip_point:∀ (n:Nat) (l:B),l.length<n→(sixties (tw 46 l)=true→strip l=dw 46 l)∧(sixties (tw 46 l)=false→∀ t,strip l ≠ 46 :: t)
 | 0,l,h=>by omega
 | n+1,[],_=>⟨fun _=>rfl,fun h=>by cases h⟩
 | n+1,c :: l,hl=>by
  cases h58:c==58 with
  | false =>
   rw [strip_no h58]
   cases h46:c==46 with
   | true =>
    rw [eq_of_beq h46,tw_hit,dw_hit]
    exact ⟨fun _=>rfl,fun h=>by cases h⟩
   | false =>
    rw [tw_miss h46,sixties_no h58]
    refine ⟨fun h=>(by cases h),fun _ t e=>?_⟩
    cases e
    cases h46
  | true =>
   have:=eq_of_beq h58
   subst this
   rw [tw_miss (x:=46) (c:=58) (by decide),dw_miss (x:=46) (c:=58) (by decide)]
   match l,hl with
   | [],_=>exact ⟨fun h=>(by cases h),fun _ t e=>by cases e⟩
   | a :: l',hl =>
    cases ha:dg a with
    | false =>
     have e2:sixties (58 :: tw 46 (a :: l'))=false:=by
      cases h46:a==46 with
      | true=>rw [eq_of_beq h46,tw_hit];rfl
      | false=>rw [tw_miss h46];exact sixties_dg ha _
     rw [strip_dg ha,e2]
     exact ⟨fun h=>(by cases h),fun _ t e=>by cases e⟩
    | true =>
     rw [tw_miss (dg_46 ha),dw_miss (dg_46 ha)]
     match l',hl with
     | [],_ =>
      rw [strip_2,ha,tw_nil,dw_nil,sixties_a,ha]
      exact ⟨fun _=>rfl,fun h=>by cases h⟩
     | b :: l'',hl =>
      rw [strip_3,ha]
      simp only [beq_self_eq_true,Bool.and_self]
      cases hb:dg b with
      | true =>
       rw [tw_miss (dg_46 hb),dw_miss (dg_46 hb),sixties_two,ha,hb]
       cases h5:decide (a.toNat≤53) with
       | true=>exact strip_point n l'' (by simp at hl;omega)
       | false =>
        simp only [Bool.and_false,Bool.true_and,Bool.and_true]
        rw [strip_no (dg_58 hb),sixties_no (dg_58 hb)]
        refine ⟨fun h=>(by cases h),fun _ t e=>?_⟩
        cases e
        exact absurd hb (by decide)
      | false =>
       simp only [Bool.and_false]
       have ih:=strip_point n (b :: l'') (by simp at hl ⊢;omega)
       have e2:sixties (58 :: a :: tw 46 (b :: l''))=sixties (tw 46 (b :: l'')):=by
        cases h46:b==46 with
        | true=>rw [eq_of_beq h46,tw_hit,sixties_a];exact ha
        | false=>rw [tw_miss h46,sixties_two,hb,Bool.and_false,ha,Bool.true_and]
       rw [e2]
       exact ih
theorem row_point:∀ l,tw 46 l=l.takeWhile dgU++tw 46 (tailU l)∧dw 46 l=dw 46 (tailU l)
 | []=>⟨rfl,rfl⟩
 | c :: l=>by
  cases h:dgU c with
  | true =>
   have h46:(c==46)=false:=by
    cases e:c==46 with
    | false=>rfl
    | true=>rw [eq_of_beq e,dgU_46] at h;cases h
   have ⟨h1,h2⟩:=row_point l
   rw [tailU_yes h,tw_miss h46,dw_miss h46,List.takeWhile_cons,h,h1,h2]
   exact ⟨rfl,rfl⟩
  | false =>
   rw [tailU_no h,List.takeWhile_cons,h]
   exact ⟨rfl,rfl⟩
theorem tailU_tw:∀ l,tailU (tw 46 l)=tw 46 (tailU l)
 | []=>rfl
 | c :: l=>by
  cases h:dgU c with
  | true =>
   have h46:(c==46)=false:=by
    cases e:c==46 with
    | false=>rfl
    | true=>rw [eq_of_beq e,dgU_46] at h;cases h
   rw [tw_miss h46,tailU_yes h,tailU_yes h,tailU_tw l]
  | false =>
   rw [tailU_no h]
   cases h46:c==46 with
   | true=>rw [eq_of_beq h46,tw_hit];rfl
   | false=>rw [tw_miss h46,tailU_no h]
end Go.Proofs.YtffmgholjdfcnaaGreatDoor.Nu
