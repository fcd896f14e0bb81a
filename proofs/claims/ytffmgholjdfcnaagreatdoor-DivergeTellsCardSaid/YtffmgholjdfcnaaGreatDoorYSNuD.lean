import Derived.Test.YtffmgholjdfcnaaGreatDoorYSNuA
namespace Go.Proofs.YtffmgholjdfcnaaGreatDoor.Nu
open Go St
def dgU (c:UInt8):Bool:=c==95 || dg c
def noU (s:B):B:=s.filter fun c=>!(c==95)
def parts:B→List B
 | []=>[[]]
 | c :: l=>match c==58 with
  | true=>[] :: parts l
  | false=>match parts l with
   | []=>[[c]]
   | p :: ps=>(c :: p) :: ps
def tw (x:UInt8) (l:B):B:=l.takeWhile fun c=>!(c==x)
def dw (x:UInt8) (l:B):B:=l.dropWhile fun c=>!(c==x)
def okP (p:B):Bool:=match p with
 | [a]=>dg a
 | [a,b]=>dg a&&decide (a.toNat≤53)&&dg b
 | _=>false
def val (p:B):Int:=p.foldl (fun n c=>10 * n+dv c) 0
def sixties:B→Bool
 | []=>true
 | c :: l=>match c==58 with
  | false=>false
  | true=>(parts l).all okP
theorem dg_not {c x:UInt8} (h:dg c=true) (hx:dg x=false):(c==x)=false:=by
 cases e:c==x with
 | false=>rfl
 | true=>rw [eq_of_beq e,hx] at h;cases h
theorem tw_nil (x:UInt8):tw x []=[]:=rfl
theorem dw_nil (x:UInt8):dw x []=[]:=rfl
theorem tw_hit (x:UInt8) (l:B):tw x (x :: l)=[]:=by unfold tw;rw [List.takeWhile_cons];simp
theorem dw_hit (x:UInt8) (l:B):dw x (x :: l)=x :: l:=by unfold dw;rw [List.dropWhile_cons];simp
theorem tw_miss {x c:UInt8} (h:(c==x)=false) (l:B):tw x (c :: l)=c :: tw x l:=by unfold tw;rw [List.takeWhile_cons,h];simp
theorem dw_miss {x c:UInt8} (h:(c==x)=false) (l:B):dw x (c :: l)=dw x l:=by unfold dw;rw [List.dropWhile_cons,h];simp
theorem tw_dw (x:UInt8):∀ l,tw x l++dw x l=l
 | []=>rfl
 | c :: l=>by
  cases h:c==x with
  | true=>rw [eq_of_beq h,tw_hit,dw_hit];rfl
  | false=>rw [tw_miss h,dw_miss h,List.cons_append,tw_dw x l]
theorem dw_cases (x:UInt8):∀ l,dw x l=[]∨∃ t,dw x l=x :: t
 | []=>.inl rfl
 | c :: l=>by
  cases h:c==x with
  | true=>rw [eq_of_beq h,dw_hit];exact .inr ⟨l,rfl⟩
  | false=>rw [dw_miss h];exact dw_cases x l
theorem tw_no (x:UInt8):∀ l,(tw x l).all (fun c=>!(c==x))=true
 | []=>rfl
 | c :: l=>by
  cases h:c==x with
  | true=>rw [eq_of_beq h,tw_hit];rfl
  | false=>rw [tw_miss h,List.all_cons,tw_no x l,h];rfl
theorem tw_le (x:UInt8) (l:B):(tw x l).length≤l.length:=by have:=congrArg List.length (tw_dw x l);rw [List.length_append] at this;omega
theorem dw_le (x:UInt8) (l:B):(dw x l).length≤l.length:=by have:=congrArg List.length (tw_dw x l);rw [List.length_append] at this;omega
theorem parts_ne:∀ l,parts l ≠ []
 | []=>by simp [parts]
 | c :: l=>by
  unfold parts
  split
  ·simp
  ·split<;>simp
theorem parts_hit (l:B):parts (58 :: l)=[] :: parts l:=rfl
theorem parts_miss {c:UInt8} (h:(c==58)=false) (l:B):∃ p ps,parts l=p :: ps∧parts (c :: l)=(c :: p) :: ps:=by
 cases hp:parts l with
 | nil=>exact absurd hp (parts_ne l)
 | cons p ps =>
  refine ⟨p,ps,rfl,?_⟩
  conv=>lhs;unfold parts
  rw [h,hp]
theorem parts_eq:∀ l,parts l=tw 58 l :: (match dw 58 l with | []=>[] | _ :: t=>parts t)
 | []=>rfl
 | c :: l=>by
  cases h:c==58 with
  | true =>
   have:=eq_of_beq h
   subst this
   rw [tw_hit,dw_hit,parts_hit]
  | false =>
   rw [tw_miss h,dw_miss h]
   obtain ⟨p,ps,e1,e2⟩:=parts_miss h l
   rw [e2]
   rw [parts_eq l] at e1
   cases e1
   rfl
theorem sixties_nil:sixties []=true:=rfl
theorem sixties_no {c:UInt8} (h:(c==58)=false) (l:B):sixties (c :: l)=false:=by
 show (match c==58 with | false=>false | true=>(parts l).all okP)=false
 rw [h]
theorem sixties_one (l:B):sixties (58 :: l)=(parts l).all okP:=rfl
theorem okP_long (a b c:UInt8) (l:B):okP (a :: b :: c :: l)=false:=rfl
theorem sixties_cons (l:B):sixties (58 :: l)=(okP (tw 58 l)&&sixties (dw 58 l)):=by
 rw [sixties_one,parts_eq,List.all_cons]
 rcases dw_cases 58 l with e | ⟨t,e⟩
 ·rw [e];rfl
 ·rw [e];rfl
theorem sixties_two (a b:UInt8) (l:B):sixties (58 :: a :: b :: l)=(match dg a&&decide (a.toNat≤53)&&dg b with | true=>sixties l | false=>dg a&&sixties (b :: l)):=by
 rw [sixties_cons]
 cases ha:a==58 with
 | true =>
  rw [eq_of_beq ha,tw_hit]
  have:dg 58=false:=by decide
  rw [this]
  rfl
 | false =>
  rw [tw_miss ha,dw_miss ha]
  cases hb:b==58 with
  | true =>
   rw [eq_of_beq hb,tw_hit,dw_hit]
   have:dg 58=false:=by decide
   rw [this,Bool.and_false]
   rfl
  | false =>
   rw [tw_miss hb,dw_miss hb,sixties_no hb,Bool.and_false]
   match l with
   | [] =>
    rw [tw_nil,dw_nil]
    show ((dg a&&decide (a.toNat≤53)&&dg b)&&true)=_
    rw [Bool.and_true]
    cases dg a&&decide (a.toNat≤53)&&dg b<;>rfl
   | c :: m =>
    cases hc:c==58 with
    | true =>
     rw [eq_of_beq hc,tw_hit,dw_hit]
     show ((dg a&&decide (a.toNat≤53)&&dg b)&&sixties (58 :: m))=_
     cases dg a&&decide (a.toNat≤53)&&dg b<;>rfl
    | false =>
     rw [tw_miss hc,okP_long,sixties_no hc]
     cases dg a&&decide (a.toNat≤53)&&dg b<;>rfl
theorem sixties_a (a:UInt8):sixties [58,a]=dg a:=by
 rw [sixties_cons]
 cases ha:a==58 with
 | true=>rw [eq_of_beq ha];rfl
 | false=>rw [tw_miss ha,dw_miss ha,tw_nil,dw_nil];show (dg a&&true)=_;rw [Bool.and_true]
theorem okP_dg {p:B} (h:okP p=true):isD p=true:=by
 unfold okP at h
 split at h
 ·simp [isD,h]
 ·simp only [Bool.and_eq_true] at h
  simp [isD,h.1.1,h.2]
 ·cases h
theorem noU_id:∀ {p:B},p.all dg=true→noU p=p
 | [],_=>rfl
 | c :: l,h=>by
  rw [List.all_cons,Bool.and_eq_true] at h
  have:(c==95)=false:=dg_not h.1 (by decide)
  have ih:=noU_id h.2
  unfold noU at ih ⊢
  rw [List.filter_cons,this,ih]
  rfl
theorem noU_len (s:B):(noU s).length≤s.length:=List.length_filter_le _ _
theorem noU_app (a b:B):noU (a++b)=noU a++noU b:=List.filter_append ..
theorem noU_hit (l:B):noU (95 :: l)=noU l:=rfl
theorem noU_miss {c:UInt8} (h:(c==95)=false) (l:B):noU (c :: l)=c :: noU l:=by unfold noU;rw [List.filter_cons,h];rfl
theorem parts_noU:∀ l,parts (noU l)=(parts l).map noU
 | []=>rfl
 | c :: l=>by
  have ih:=parts_noU l
  cases h:c==95 with
  | true =>
   have:=eq_of_beq h
   subst this
   obtain ⟨p,ps,e1,e2⟩:=parts_miss (c:=95) (by decide) l
   rw [noU_hit,ih,e1,e2]
   rfl
  | false =>
   rw [noU_miss h]
   cases h2:c==58 with
   | true =>
    have:=eq_of_beq h2
    subst this
    rw [parts_hit,parts_hit,ih]
    rfl
   | false =>
    obtain ⟨p,ps,e1,e2⟩:=parts_miss h2 l
    obtain ⟨q,qs,e3,e4⟩:=parts_miss h2 (noU l)
    rw [e2,e4]
    rw [ih,e1,List.map_cons] at e3
    cases e3
    rw [List.map_cons,noU_miss h]
end Go.Proofs.YtffmgholjdfcnaaGreatDoor.Nu
