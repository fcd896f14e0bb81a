import Derived.Test.YtffmgholjdfcnaaGreatDoorYSNwF
import Derived.Test.YtffmgholjdfcnaaGreatDoorKSC
set_option linter.unusedSimpArgs false
set_option linter.unusedVariables false
namespace Go.Proofs.YtffmgholjdfcnaaGreatDoor
open Go AM St Nu Go.RowKit
variable {C:Nat→Env→(Env→Option Out)→Option Out}
def wordV (c:Int):Bool:=letR c || (decide (c ≥ 48)&&decide (c≤57))
def A226:Ty226:=fun c K=>K (wordV c)
theorem eq226 (c:Int) (K:Tk226):run226 C big c K=A226 c K:=by
 rw [run226_eq]
 unfold A226 wordV letR
 cases decide (c ≥ 97)<;>cases decide (c≤122)<;>cases decide (c ≥ 65)<;>cases decide (c≤90)<;>cases decide (c ≥ 48)<;>rfl
def more:B:=[45,95,46,126,42,39,40,41,59,47,63,58,64,38,61,43,36,44,33,35,91,93,37]
def okSign (c:UInt8):Bool:=wordV (nI c) || decide (Lib.indexByte more c ≥ 0)
def A194:Ty194:=fun c K=>if 0≤c∧c≤255 then K (okSign (UInt8.ofNat c.toNat)) else none
theorem eq194 (c:Int) (K:Tk194) (r:Out) (h:A194 c K=some r):run194 C A155 A226 big c K=some r:=by
 unfold A194 at h
 split at h
 ·rename_i hs
  have e226:∀ k,A226 c k=k (wordV c):=fun k=>rfl
  have e155:∀ k,A155 more c k=k (Lib.indexByte more (UInt8.ofNat c.toNat)):=fun k=>rfl
  have e:nI (UInt8.ofNat c.toNat)=c:=by
   unfold nI
   rw [UInt8.toNat_ofNat_of_lt' (by show c.toNat<256;omega)]
   omega
  rw [run194_eq,← h,e226]
  unfold okSign
  rw [e]
  cases wordV c with
  | true=>rfl
  | false =>
   show A155 more c (fun r2=>K (decide (r2 ≥ 0)))=_
   rw [e155];rfl
 ·cases h
theorem t226:FnP G ng 226 (adp226 A226):=as226 stays fun a0 K r h=>by rw [eq226];exact h
theorem t194:FnP G ng 194 (adp194 A194):=as194 stays is155' t226 fun a0 K r h=>eq194 a0 K r h
theorem calls194 {c:UInt8} (hc:okSign c=true) {w:World} (hG:G w):Calls Tryz.prog 194 #[.int .u8 (c.toNat:Int)] w fun e w'=>e=.returned (.bool true)∧Below w.heap.size w w':=
 calls_one t194 (c:=Tryz.f194.body.getD .skip) Tryz.func194 (by kernel_rfl) (by kernel_rfl) (cs:=[.s (.int .u8 (c.toNat:Int))]) (x:=.bool true) (by
  have hb:=byte_lt c
  have h1:UInt8.ofNat (c.toNat:Int).toNat=c:=by simp
  have:A194 (c.toNat:Int) (fun r0=>some ([.s (.bool r0)],none))=some ([.s (.bool true)],none):=by
   unfold A194
   rw [if_pos (by omega),h1,hc]
  exact this) hG (G_ng hG) (vs:=[.int .u8 (c.toNat:Int)]) (.cons rfl .nil) rfl
set_option maxHeartbeats 4000000 in
set_option maxRecDepth 1000000 in
theorem row_walk (s:B) (he:∀ c,c ∈ s→okSign c=true) (hs:s.length≤10000) (w:World) (hG:G w) :
  Calls Tryz.prog 193 #[.string ⟨⟨s⟩⟩,.func (.func 194) #[] #[]] w fun e w'=>e=.returned (.int .i64 s.length)∧Below w.heap.size w w':=by
 go_enter Tryz.func193,Tryz.ntmps193
 go_wp2
 go_loopw [5] (fun vi wr=>∃ (k:Nat),vi=.int .i64 k∧k≤s.length∧Below w.heap.size w wr) (fun vi _=>s.length - (intOf vi).toNat)
 case atStart=>exact ⟨0,rfl,by omega,Below.refl _ w⟩
 case round =>
  obtain ⟨k,rfl,hk,hbw⟩:=hrel
  have hGr:=G_below hG hbw (G_ng hG)
  by_cases hp:k<s.length
  ·have c194:=calls194 (he s[k] (List.getElem_mem hp)) hGr
   go_wp2_with (go_at_call 194;refine c194.mono ?_)
   rintro e W1 ⟨rfl,b1⟩
   have hbw1:Below w.heap.size w W1:=hbw.trans ⟨b1.os,b1.tape,b1.output,b1.size,fun j hj=>b1.block j (by have:=hbw.size;omega)⟩
   go_wp2
   refine ⟨⟨k+1,by congr 1,by omega,hbw1⟩,by simp [intOf];omega⟩
  ·go_wp2
   go_ret
   have e:k=s.length:=by omega
   subst e
   exact ⟨rfl,hbw⟩
def A141:Ty141:=fun t K=>if t=tTime then K true else none
theorem time_ok:∀ c,c ∈ tTime→okSign c=true:=by decide +kernel
set_option maxHeartbeats 4000000 in
set_option maxRecDepth 1000000 in
theorem good_walk (w:World) (hG:G w) :
  Calls Tryz.prog 141 #[.string ⟨⟨tTime⟩⟩] w fun e w'=>e=.returned (.bool true)∧Below w.heap.size w w':=by
 have c193:=row_walk tTime time_ok (by decide) w hG
 have ht:(⟨⟨tTime⟩⟩:ByteArray).size=27:=rfl
 have hl:tTime.length=27:=rfl
 generalize tTime=T at *
 go_enter Tryz.func141,Tryz.ntmps141
 go_wp2_with (go_at_call 193;refine c193.mono ?_)
 ·exfalso
  have h0:T=[]:=by assumption
  rw [h0] at hl
  cases hl
 ·rintro e W1 ⟨rfl,b1⟩
  go_wp2
  go_ret
  have hne:T.isEmpty=false:=by
   cases T with
   | nil=>cases hl
   | cons a b=>rfl
  rw [hne]
  exact ⟨rfl,b1⟩
theorem is141':FnP G ng 141 (adp141 A141):=fnIs_lib (c:=Tryz.f141.body.getD .skip) Tryz.func141 (by kernel_rfl) (by kernel_rfl) fun rc cs K r h=>by
 unfold adp141 yq25 A141 at h
 split at h
 ·split at h
  ·rename_i s hc
   subst hc
   exact ⟨rfl,[.str tTime],rfl,.bool true,h,fun w hG=>(good_walk w hG).mono fun e w' ⟨h1,h2⟩=>⟨h1,ext_below h2⟩⟩
  ·cases h
 ·cases h
theorem eq82 (t:B) (K:Tk82) (r:Out) (h:A82 t K=some r):run82 C A141 big t K=some r:=by
 unfold A82 at h
 split at h
 ·rename_i ht
  subst ht
  have e141:∀ k,A141 tTime k=k true:=fun k=>if_pos rfl
  have c1:cat ([33,60]:B) tTime=some ([33,60]++tTime):=by decide +kernel
  have c2:cat ([33,60]++tTime:B) [62]=some ([33,60]++tTime++[62]):=by decide +kernel
  rw [run82_eq,← h,e141,c1,oB,c2,oB]
  rfl
 ·cases h
theorem t82:FnP G ng 82 (adp82 A82):=as82 stays is141' fun a0 K r h=>eq82 a0 K r h
end Go.Proofs.YtffmgholjdfcnaaGreatDoor
