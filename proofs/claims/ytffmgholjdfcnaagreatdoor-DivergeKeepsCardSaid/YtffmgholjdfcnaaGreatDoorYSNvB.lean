import Derived.Test.YtffmgholjdfcnaaGreatDoorYSNvA
set_option linter.unusedSimpArgs false
set_option linter.unusedVariables false
namespace Go.Proofs.YtffmgholjdfcnaaGreatDoor
open Go AM St Nu
open Go.IntKind (i64 u8)
variable {C:Nat→Env→(Env→Option Out)→Option Out}
def A184:Ty184:=fun s K=>if s.length≤1000000 then K (clean s) else none
def nx (v x:Int):Int:=i64.wrap ((BitVec.ofInt (IntKind.bits .i64) (i64.wrap ((BitVec.ofInt (IntKind.bits .i64) (i64.wrap (v * 2 ^ 6)) ||| BitVec.ofInt (IntKind.bits .i64) (i64.wrap x)).toNat)) &&& BitVec.ofInt (IntKind.bits .i64) 65535).toNat)
theorem nx_eq {v x:Nat} (hv:v<65536) (hx:x<64):nx (v:Int) (x:Int)=(((v * 64+x) % 65536:Nat):Int):=by
 unfold nx
 have e1:i64.wrap ((v:Int) * 2 ^ 6)=((v * 2 ^ 6:Nat):Int):=by rw [i64_in (by omega) (by omega)];omega
 have e2:i64.wrap (x:Int)=(x:Int):=i64_in (by omega) (by omega)
 have e3:(65535:Int)=((2 ^ 16 - 1:Nat):Int):=rfl
 rw [e1,e2,or_add (a:=v) (b:=x) (i:=6) (by omega) (by omega),i64_in (n:=((v * 2 ^ 6+x:Nat):Int)) (by omega) (by omega),e3,and_mod (by omega) (by omega),i64_in (by omega) (by omega)]
theorem l1_131_eq' {N132:Ty132} {N151:Ty151} {N184:Ty184} {N185:Ty185} (hC:∀ key e t,C key e t=t e) (k j0:Nat) (v0:B) (v4:List Int) (v5:B) (v6:List Int) (v7 v8 v17 v18:Int) (Kt:Tk131):l1_131 C N132 N151 N184 N185 k (j0+1) v0 v4 v5 v6 v7 v8 v17 v18 Kt =
 (bif (decide (v18<v17)) then ((at? v5 v18).bind fun b4=>(bif (decide (0≤(b4.toNat:Int))&&decide ((b4.toNat:Int)<256)) then ((v4[(0+(b4.toNat:Int).toNat)]?).bind fun x5=>(bif (decide (x5 > 63)) then (Kt ([]:List Int) false) else (bif (decide ((i64.wrap (v8+6)) ≥ 8)) then (bif decide ((i64.wrap ((i64.wrap (v8+6)) - 8))<0) then none else (bif decide ((v6++([(u8.wrap ((nx v7 x5).fdiv (2 ^ (min (i64.wrap ((i64.wrap (v8+6)) - 8)).toNat 64))))]:List Int)).length≤1099511627776) then (p2_131 C N132 N151 N184 N185 k j0 v0 v4 v5 (v6++([(u8.wrap ((nx v7 x5).fdiv (2 ^ (min (i64.wrap ((i64.wrap (v8+6)) - 8)).toNat 64))))]:List Int)) (nx v7 x5) (i64.wrap ((i64.wrap (v8+6)) - 8)) v17 v18 Kt) else none)) else (p2_131 C N132 N151 N184 N185 k j0 v0 v4 v5 v6 (nx v7 x5) (i64.wrap (v8+6)) v17 v18 Kt)))) else none)) else (N132 v6 fun r6=>(bif (!(r6==v0)) then (Kt ([]:List Int) false) else (Kt v6 true)))):=l1_131_eq _ _ _ _ _ hC ..
def fin131 (t:B) (K:Tk131):Option B→Option Out
 | none=>K [] false
 | some b=>bif !(enc b==t) then K [] false else K (b.map nI) true
theorem loop131 (hC:∀ key e t,C key e t=t e) {t u:B} (hu:u.length≤100000) {K:Tk131} (kk:Nat):∀ (l:B) (v bits:Nat) (out:B) (j:Nat),l <:+ u→v<65536→bits<8→l.length<j→out.length+l.length≤1000000 →
  l1_131 C A132 A151 A184 A185 kk j t tbl u (out.map nI) (v:Int) (bits:Int) (u.length:Int) (Pt u l) K=fin131 t K (decP l v bits out)
 | [],v,bits,out,j,h,hv,hb,hj,ho=>by
  obtain ⟨j,rfl⟩:∃ i,j=i+1:=⟨j - 1,by omega⟩
  rw [l1_131_eq' hC,Pt_end,dF (by omega),cond_false,A132_ok (by omega),decP]
  rfl
 | c :: l,v,bits,out,j,h,hv,hb,hj,ho=>by
  obtain ⟨j,rfl⟩:∃ i,j=i+1:=⟨j - 1,by omega⟩
  have hl:l <:+ u:=(List.suffix_cons c l).trans h
  have hc:=byte_lt c
  have hpl:=plc_le c
  simp only [List.length_cons] at hj ho
  have e0:0+(c.toNat:Int).toNat=c.toNat:=by omega
  rw [l1_131_eq' hC,dT (Pt_lt h),cond_true,at_Pt h,oB,dT (show (0:Int)≤(c.toNat:Int) by omega),dT (show (c.toNat:Int)<256 by omega),Bool.and_self,cond_true,e0,tbl_get,oB,decP]
  by_cases h63:63<plc c
  ·rw [dT (show ((plc c:Nat):Int) > 63 by omega),cond_true,if_pos h63];rfl
  ·have e1:i64.wrap ((bits:Int)+6)=((bits+6:Nat):Int):=by rw [i64_in (by omega) (by omega)];omega
   rw [dF (show ¬ ((plc c:Nat):Int) > 63 by omega),cond_false,if_neg h63,e1,nx_eq hv (by omega)]
   by_cases h8:8≤bits+6
   ·have e2:i64.wrap (((bits+6:Nat):Int) - 8)=((bits+6 - 8:Nat):Int):=by rw [i64_in (by omega) (by omega)];omega
    have e3:min (bits+6 - 8) 64=bits+6 - 8:=by omega
    have e4:(2:Int) ^ (bits+6 - 8)=((2 ^ (bits+6 - 8):Nat):Int):=by rw [Int.natCast_pow];rfl
    have ih:=loop131 hC (t:=t) hu (K:=K) kk l ((v * 64+plc c) % 65536) (bits+6 - 8) (out++[UInt8.ofNat ((v * 64+plc c) % 65536 / 2 ^ (bits+6 - 8))]) j hl (Nat.mod_lt _ (by decide)) (by omega) (by omega) (by rw [List.length_append,List.length_singleton];omega)
    rw [List.map_append,List.map_cons,List.map_nil] at ih
    rw [dT (show ((bits+6:Nat):Int) ≥ 8 by omega),cond_true,if_pos h8,e2,dF (show ¬ ((bits+6 - 8:Nat):Int)<0 by omega),cond_false,Int.toNat_natCast,e3,e4,fdivN,w8_nat,dT (by rw [List.length_append,List.length_map,List.length_singleton];omega),cond_true,p2_131_eq _ _ _ _ _ hC,Pt_succ h (by omega)]
    exact ih
   ·have ih:=loop131 hC (t:=t) hu (K:=K) kk l ((v * 64+plc c) % 65536) (bits+6) out j hl (Nat.mod_lt _ (by decide)) (by omega) (by omega) (by omega)
    rw [dF (show ¬ ((bits+6:Nat):Int) ≥ 8 by omega),cond_false,if_neg h8,p2_131_eq _ _ _ _ _ hC,Pt_succ h (by omega)]
    exact ih
theorem trim_len (s:B) (c:UInt8):(Lib.trimRightB s c).length≤s.length:=by
 unfold Lib.trimRightB
 rw [List.length_reverse]
 exact Nat.le_trans (List.Sublist.length_le (List.dropWhile_sublist _)) (by simp)
def A131:Ty131:=fun s K=>if s.length≤10000 then (match dec64 (clean s) with | some b=>K (b.map nI) true | none=>K [] false) else none
theorem eq131 (hC:∀ key e t,C key e t=t e) (s:B) (K:Tk131) (r:Out) (h:A131 s K=some r):run131 C A132 A151 A184 A185 big s K=some r:=by
 unfold A131 at h
 split at h
 ·rename_i hs
  have hc:=clean_len s
  have ht:=trim_len (clean s) 61
  have e184:∀ k,A184 s k=k (clean s):=fun k=>if_pos (by omega)
  have e185:∀ k,A185 k=k tbl:=fun k=>rfl
  have e151:∀ k,A151 (clean s) [61] k=k (Lib.trimRightB (clean s) 61):=fun k=>if_pos ⟨by decide,by omega⟩
  have e:((Xs.ints .u8 tbl).toS.length==256)=true:=by
   have:(Xs.ints .u8 tbl).toS.length=256:=by simp only [Xs.toS,List.length_map];exact tbl_len
   rw [this];rfl
  have lp:=loop131 hC (t:=clean s) (u:=Lib.trimRightB (clean s) 61) (by omega) (K:=K) big _ 0 0 [] big (List.suffix_refl _) (by omega) (by omega) (by unfold big;omega) (by simp;omega)
  rw [Pt_zero] at lp
  rw [run131_eq,← h,e184,e185,e,whole_true,e151]
  refine Eq.trans lp ?_
  unfold dec64
  cases decP (Lib.trimRightB (clean s) 61) 0 0 [] with
  | none=>rfl
  | some b =>
   simp only [fin131]
   by_cases e:enc b=clean s
   ·rw [if_pos e,e];simp
   ·rw [if_neg e]
    have:(enc b==clean s)=false:=by simpa using e
    rw [this];rfl
 ·cases h
def A80:Ty80:=fun s K=>if s.length≤10000 then K (binT s).1 (binT s).2 else none
theorem eq80 (s:B) (K:Tk80) (r:Out) (h:A80 s K=some r):run80 C A131 A132 big s K=some r:=by
 unfold A80 at h
 split at h
 ·rename_i hs
  have e131:∀ k,A131 s k=(match dec64 (clean s) with | some b=>k (b.map nI) true | none=>k [] false):=fun k=>if_pos hs
  have hc:=clean_len s
  rw [run80_eq,← h,e131]
  unfold binT
  cases e:dec64 (clean s) with
  | none =>
   have:=A132_ok (b:=[]) (by simp) (fun r3=>K r3 false)
   exact this
  | some b =>
   have hb:b.length≤1000000:=by
    have:=dec64_some e
    have h2:=enc_len b
    rw [this] at h2
    omega
   simp only
   rw [A132_ok hb,dec64_some e]
 ·cases h
end Go.Proofs.YtffmgholjdfcnaaGreatDoor
