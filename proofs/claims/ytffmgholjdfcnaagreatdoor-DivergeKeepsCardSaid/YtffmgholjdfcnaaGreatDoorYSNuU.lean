import Derived.Test.YtffmgholjdfcnaaGreatDoorYSNuT
import Derived.Lib.Walk
import Derived.WalkKit
import Derived.BigCall
set_option linter.unusedSimpArgs false
set_option linter.unusedVariables false
namespace Go.Proofs.YtffmgholjdfcnaaGreatDoor
open Go AM St Nu
open Go.IntKind (i64 u8)
theorem inv243 {N:TyO243} {x:Xs} {cs:List AM.C} {K:Out→Option Out} {r:Out} (h:adO243 N none (.own x :: cs) K=some r):∃ a0 a1,x=.ints .u8 a0∧cs=[.s (.int .u64 a1)]∧N a0 a1 (fun y=>K ([],some (.ints .u8 y)))=some r:=by
 unfold adO243 at h
 split at h
 ·rename_i a0 a1 e1 e2
  cases e2
  exact ⟨a0,a1,rfl,rfl,h⟩
 ·cases h
theorem put_cells {u:Nat} {v':Nat} {dk:Array UInt8} (hF:Lib.FmtInv (Lib.nDigits u) u 0 v' dk) {Cs:Array Value} (hC:Lib.nDigits u≤Cs.size) :
  Go.Sort.putCells (fun (b:UInt8)=>Value.int .u8 (b.toNat:Int)) 0 dk Cs=((Xs.ints .u8 ((Lib.decDigits u).map nI)).enc++Cs.toList.drop (Lib.nDigits u)).toArray:=by
 have hl:(Xs.ints .u8 ((Lib.decDigits u).map nI)).enc.length=Lib.nDigits u:=by simp [Xs.enc,Xs.toS,Lib.decDigits_length]
 obtain ⟨L⟩:=Cs
 have hC:Lib.nDigits u≤L.length:=by simpa using hC
 apply Array.ext_getElem?
 intro i
 unfold Go.Sort.putCells
 rw [Array.getElem?_mapIdx,List.getElem?_toArray,List.getElem?_toArray]
 by_cases hi:i<Lib.nDigits u
 ·have hi':i<(Lib.decDigits u).length:=by rw [Lib.decDigits_length];exact hi
  have hn:=Lib.row_is_numeral hF i hi'
  rw [List.getElem?_append_left (by omega),List.getElem?_eq_getElem (show i<L.length by omega)]
  simp only [Option.map_some,Nat.sub_zero,Nat.zero_add,Nat.zero_le,true_and]
  rw [if_pos (by rw [hF.size];exact hi),← hn]
  simp [Xs.enc,Xs.toS,S.enc,nI,List.getElem?_eq_getElem hi']
 ·rw [List.getElem?_append_right (by omega),hl,List.getElem?_drop]
  have e:Lib.nDigits u+(i - Lib.nDigits u)=i:=by omega
  rw [e]
  cases hc:L[i]? with
  | none=>rfl
  | some c =>
   simp only [Option.map_some,Nat.zero_add,Nat.zero_le,true_and]
   rw [if_neg (by rw [hF.size];exact hi)]
theorem o243:OwnIs Tryz.prog G ng 243 (adO243 A243):=by
 intro x cs K r h w v b vs hG hng hor hvb hbl hnb has hp
 obtain ⟨a0,a1,e1,e2,h'⟩:=inv243 h
 clear h
 subst e1 e2
 have h:=h'
 unfold A243 at h
 split at h
 ·rename_i hc
  obtain ⟨u1,u2,rfl⟩:=hc
  obtain ⟨u,rfl⟩:∃ u:Nat,a1=(u:Int):=⟨a1.toNat,by omega⟩
  rw [Int.toNat_natCast] at *
  cases has with
  | cons h1 h2 =>
   cases h2
   have h1:_=Value.int .u64 (u:Int):=h1
   subst h1
   have hnd:1≤Lib.nDigits u:=by
    by_cases h:u<10
    ·rw [Lib.nDigits_small h];exact Nat.le_refl _
    ·rw [Lib.nDigits_big h];omega
   have hnd2:Lib.nDigits u≤20:=by have:=Lib.numDigits_eq u (by omega) (by omega);split at this<;>omega
   have hlen:(Xs.ints .u8 (List.replicate (Lib.nDigits u) 0)).len=Lib.nDigits u:=by simp [Xs.len]
   rcases hor with ⟨-,h0⟩ | ⟨b',cap,T,Cs,fr,rfl,hh,hlc,hcC,hfz,hcells⟩
   ·rw [hlen] at h0;omega
   ·obtain rfl:b'=b:=hvb b' (by simp [blkOf,baseOf])
    rw [hlen] at *
    have hH:Go.Sort.Holds (fun (c:UInt8)=>Value.int .u8 (c.toNat:Int)) w b' 0 (Array.replicate (Lib.nDigits u) 0):=by
     intro j hj
     have hj:j<Lib.nDigits u:=by simpa using hj
     constructor
     ·have h1:=hcells j hj
      have h2:(Xs.ints .u8 (List.replicate (Lib.nDigits u) 0)).enc[j]?=some (Value.int .u8 0):=by
       simp [Xs.enc,Xs.toS,S.enc,hj]
      rw [h2] at h1
      unfold World.cell?
      simp only [hh,Nat.zero_add]
      rw [getElem!_pos _ j (by simpa using hj)]
      simp [h1]
     ·unfold World.frozen?
      simp only [hh,Nat.zero_add]
      have:=hfz j (by omega)
      obtain ⟨lo,hi⟩:=fr
      simp at this ⊢
      omega
    have hC:=Tryz.internal_strconv_formatBase10 b' 0 cap u (Array.replicate (Lib.nDigits u) 0) w hH (by rw [Array.size_replicate];exact Lib.lt_pow_nDigits u) (by omega) (by rw [Array.size_replicate];omega)
    rw [Array.size_replicate] at hC
    refine .inl ⟨callFunc_enter (c:=Tryz.f243.body.getD .skip) Tryz.func243 (by kernel_rfl) (by kernel_rfl),?_⟩
    refine Calls.mono (show Calls Tryz.prog 243 #[.slice (some ⟨b',0,none⟩) (Lib.nDigits u) cap,.int .u64 u] w _ from hC) fun e w' he=>?_
    obtain ⟨rfl,n,v',dk,rfl,hF⟩:=he
    refine ⟨_,h,⟨rfl,rfl,rfl,?_,?_⟩,fun _ _ _ _=>trivial,?_,?_,?_,?_⟩
    ·show w.heap.size≤(Go.Sort.putRow _ w b' 0 dk).heap.size
     rw [Go.Sort.size_putRow]
     exact Nat.le_refl _
    ·intro k hk hkb
     show (w.heap.modify b' _)[k]?=_
     rw [Array.getElem?_modify,if_neg (by intro e;subst e;exact hkb rfl)]
    ·intro k hk
     have:k ∈ ([]:List Nat):=hk
     cases this
    ·exact List.nodup_nil
    ·simp [Xs.len,Lib.decDigits_length]
    ·intro Cs' T' fr' hh'
     rw [hh] at hh'
     cases hh'
     show (w.heap.modify b' _)[b']?=_
     rw [Array.getElem?_modify,if_pos rfl,hh,hlen]
     show some (Obj.cells (Go.Sort.putCells _ 0 dk Cs) T fr)=_
     rw [put_cells hF (by omega)]
 ·cases h
def A245:TyO245:=fun x u b K=>if x=[]∧b=10∧0≤u∧u≤1099511627776 then K ((Lib.decDigits u.toNat).map nI) else none
theorem cutN_to {n a:Nat} (h1:a≤n):cutN n none (some (a:Int))=some (0,a):=by
 unfold cutN
 rw [if_pos (by simp;omega)]
 simp
theorem eqO245 {C:Nat→Env→(Env→Option Out)→Option Out} (x:List Int) (u b:Int) (K:TkO245) (r:Out) (h:A245 x u b K=some r):runO245 C A241 A242 A244 A243 big x u b K=some r:=by
 unfold A245 at h
 split at h
 ·rename_i hc
  obtain ⟨rfl,rfl,u0,u1⟩:=hc
  obtain ⟨u,rfl⟩:∃ n:Nat,u=(n:Int):=⟨u.toNat,by omega⟩
  rw [Int.toNat_natCast] at h
  have hdl:=dec_len (n:=u) (by omega)
  have e10:((10:Int)==10)=true:=rfl
  rw [← h,runO245_eq,e10,cond_true]
  by_cases hs:(u:Int)<100
  ·have e241:∀ k,A241 (i64.wrap (u:Int)) k=k (Lib.decDigits u):=by
    intro k
    rw [i64_in (by omega) (by omega)]
    unfold A241
    rw [if_pos (by omega),Int.toNat_natCast]
   rw [dT hs,cond_true,e241,List.nil_append,dT (by simp;omega),cond_true]
   rfl
  ·have hnd:Lib.nDigits u≤13:=by rw [← Lib.decDigits_length];exact hdl
   have e242:∀ k,A242 (u:Int) k=k (Lib.nDigits u):=by
    intro k
    unfold A242
    rw [if_pos (by omega),Int.toNat_natCast]
   have e243:∀ k,A243 (((List.replicate 24 (0:Int)).drop 0).take (Lib.nDigits u)) (u:Int) k=k ((Lib.decDigits u).map nI):=by
    intro k
    unfold A243
    rw [if_pos,Int.toNat_natCast]
    refine ⟨by omega,by omega,?_⟩
    rw [Int.toNat_natCast,List.drop_zero,List.take_replicate]
    congr 1
    omega
   have hdn:((Lib.decDigits u).map nI).length=Lib.nDigits u:=by rw [List.length_map,Lib.decDigits_length]
   rw [dF hs,cond_false,e242,dT (by simp),cond_true,cutN_to (by omega),oB]
   simp only
   rw [e243]
   simp only [List.take_zero,List.nil_append,Nat.zero_add]
   rw [List.take_of_length_le (by omega),dT (by rw [List.length_append,List.length_drop,List.length_replicate,hdn];omega),cond_true,oB]
   simp only
   have ht:(((Lib.decDigits u).map nI++(List.replicate 24 (0:Int)).drop (Lib.nDigits u)).drop 0).take (Lib.nDigits u)=(Lib.decDigits u).map nI:=by
    rw [List.drop_zero,← hdn]
    exact List.take_left
   rw [ht,dT (by omega),cond_true]
 ·cases h
theorem o245:OwnIs Tryz.prog G ng 245 (adO245 A245):=asO245 stays is241' is242' is244' o243 fun x u b K r h=>eqO245 x u b K r h
theorem inv197 {N:TyO197} {x:Xs} {cs:List AM.C} {K:Out→Option Out} {r:Out} (h:adO197 N none (.own x :: cs) K=some r):∃ a0 a1 a2,x=.ints .u8 a0∧cs=[.s (.int .i64 a1),.s (.int .i64 a2)]∧N a0 a1 a2 (fun y=>K ([.own (.ints .u8 y)],none))=some r:=by
 unfold adO197 at h
 split at h
 ·rename_i a0 a1 a2 e1 e2
  cases e2
  exact ⟨a0,a1,a2,rfl,rfl,h⟩
 ·cases h
theorem calls_own {g:Nat} {A:Fn1} (hF:OwnIs Tryz.prog G ng g A) {fn:Func} {c:Code} (hf:Tryz.prog.funcs[g]?=some fn) (hname:(fn.name == "runtime.NumGoroutine")=false) (hb:fn.body=some c)
  {x:Xs} {cs:List AM.C} {K:Out→Option Out} {r:Out} (hA:A none (.own x :: cs) K=some r) {w:World} {v:Value} {b:Nat} {vs:List Value} (hG:G w) (hng:ng≤w.heap.size) (hor:OwnRel w x v) (hvb:∀ k,k ∈ blkOf v→k=b) (hbl:b<w.heap.size) (hnb:ng≤b) (has:RelL w.heap.size (some b) w cs vs) (hp:cs.all plainC=true) :
  Calls Tryz.prog g (v :: vs).toArray w fun e w'=>∃ v',e=.returned v'∧∃ p,K p=some r∧OwnRet Tryz.prog w w' x.len b p v':=by
 have h:=hF x cs K r hA w v b vs hG hng hor hvb hbl hnb has hp
 rcases h with ⟨-,q2⟩ | ⟨v',w',q1,-⟩
 ·refine Calls.mono q2 fun e w' he=>?_
  cases e with
  | returned v'=>exact ⟨v',rfl,he⟩
  | panicked c=>exact he.elim
  | outgrown=>exact he.elim
 ·rw [callFunc_enter hf hname hb] at q1
  cases q1
theorem o227:OwnIs Tryz.prog G ng 227 (adO197 A197):=by
 intro x cs K r h w v b vs hG hng hor hvb hbl hnb has hp
 obtain ⟨a0,n,a2,e1,e2,h'⟩:=inv197 h
 clear h
 subst e1 e2
 have h:=h'
 unfold A197 at h
 split at h
 ·rename_i hc
  obtain ⟨rfl,rfl,n0,n1⟩:=hc
  obtain ⟨u,rfl⟩:∃ u:Nat,n=(u:Int):=⟨n.toNat,by omega⟩
  cases has with
  | cons h1 h2 =>
   cases h2 with
   | cons h3 h4 =>
    cases h4
    have h1:_=Value.int .i64 (u:Int):=h1
    have h3:_=Value.int .i64 10:=h3
    subst h1 h3
    have hA:adO245 A245 none [.own (.ints .u8 []),.s (.int .u64 (u:Int)),.s (.int .i64 10)] K=some r:=by
     rw [Lib.itoa_nonneg] at h
     exact (if_pos ⟨rfl,rfl,n0,n1⟩).trans (by rw [Int.toNat_natCast];exact h)
    have hC:=calls_own o245 (c:=Tryz.f245.body.getD .skip) Tryz.func245 (by kernel_rfl) (by kernel_rfl) hA hG hng hor hvb hbl hnb (vs:=[.int .u64 (u:Int),.int .i64 10]) (.cons rfl (.cons rfl .nil)) rfl
    have hC:Calls Tryz.prog 245 #[v,.int .u64 (u:Int),.int .i64 10] w _:=hC
    refine .inl ⟨callFunc_enter (c:=Tryz.f227.body.getD .skip) Tryz.func227 (by kernel_rfl) (by kernel_rfl),?_⟩
    have hwr:IntKind.u64.wrap (u:Int)=(u:Int):=by rw [IntKind.wrap_u64];omega
    have key:Calls Tryz.prog 227 #[v,.int .i64 (u:Int),.int .i64 10] w fun e w'=>∃ v',e=.returned v'∧∃ p,K p=some r∧OwnRet Tryz.prog w w' (Xs.ints .u8 []).len b p v':=by
     have hneg:¬ (u:Int)<0:=by omega
     have e245:∀ args w,(callFunc 245 args).run Tryz.prog w=.ok (.enter 245 args) w:=enters_of Tryz.func245 (by kernel_rfl) rfl
     go_enter Tryz.func227,Tryz.ntmps227
     go_wp2_with (go_at_fn 245;refine hC.mono ?_;rintro e w2 ⟨v2,rfl,hR⟩)
     go_wp2
     first | go_ret | go_ret2
     exact ⟨v2,rfl,hR⟩
    refine Calls.mono key fun e w' he=>?_
    obtain ⟨v',rfl,hR⟩:=he
    exact hR
 ·cases h
theorem o197:OwnIs Tryz.prog G ng 197 (adO197 A197):=by
 intro x cs K r h w v b vs hG hng hor hvb hbl hnb has hp
 have h0:=h
 obtain ⟨a0,n,a2,e1,e2,h'⟩:=inv197 h
 subst e1 e2
 cases has with
 | cons h1 h2 =>
  cases h2 with
  | cons h3 h4 =>
   cases h4
   have h1:_=Value.int .i64 n:=h1
   have h3:_=Value.int .i64 a2:=h3
   subst h1 h3
   have hC:=calls_own o227 (c:=Tryz.f227.body.getD .skip) Tryz.func227 (by kernel_rfl) (by kernel_rfl) h0 hG hng hor hvb hbl hnb (vs:=[.int .i64 n,.int .i64 a2]) (.cons rfl (.cons rfl .nil)) rfl
   have hC:Calls Tryz.prog 227 #[v,.int .i64 n,.int .i64 a2] w _:=hC
   refine .inl ⟨callFunc_enter (c:=Tryz.f197.body.getD .skip) Tryz.func197 (by kernel_rfl) (by kernel_rfl),?_⟩
   have key:Calls Tryz.prog 197 #[v,.int .i64 n,.int .i64 a2] w fun e w'=>∃ v',e=.returned v'∧∃ p,K p=some r∧OwnRet Tryz.prog w w' (Xs.ints .u8 a0).len b p v':=by
    have e227:∀ args w,(callFunc 227 args).run Tryz.prog w=.ok (.enter 227 args) w:=enters_of Tryz.func227 (by kernel_rfl) rfl
    go_enter Tryz.func197,Tryz.ntmps197
    go_wp2_with (go_at_fn 227;refine hC.mono ?_;rintro e w2 ⟨v2,rfl,hR⟩)
    go_wp2
    first | go_ret | go_ret2
    exact ⟨v2,rfl,hR⟩
   refine Calls.mono key fun e w' he=>?_
   obtain ⟨v',rfl,hR⟩:=he
   exact hR
end Go.Proofs.YtffmgholjdfcnaaGreatDoor
