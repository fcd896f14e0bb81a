import Derived.Test.YtffmgholjdfcnaaGreatDoorYSNvB
import Derived.Test.YtffmgholjdfcnaaGreatDoorYSNuT
import Derived.Test.YtffmgholjdfcnaaGreatDoorKSS
import Derived.Lib.Walk
import Derived.WalkKit
import Derived.BigCall
set_option linter.unusedSimpArgs false
set_option linter.unusedVariables false
namespace Go.Proofs.YtffmgholjdfcnaaGreatDoor
open Go AM St Nu Go.RowKit
theorem clean_snoc {s:B} {k:Nat} (h:k<s.length):clean (s.take (k+1))=clean (s.take k)++(if s[k]==32 || s[k]==9 || s[k]==10 || s[k]==13 then [] else [s[k]]):=by
 rw [List.take_succ_eq_append_getElem h]
 unfold clean
 rw [List.filter_append]
 congr 1
 rw [List.filter_cons]
 cases s[k]==32 || s[k]==9 || s[k]==10 || s[k]==13<;>rfl
theorem ix_blank (c:UInt8):decide (Lib.indexByte [32,9,10,13] c<0)=!(c==32 || c==9 || c==10 || c==13):=allU8 (P:=fun c=>decide (Lib.indexByte [32,9,10,13] c<0)=!(c==32 || c==9 || c==10 || c==13)) (by decide +kernel) c
set_option maxHeartbeats 4000000 in
set_option maxRecDepth 1000000 in
theorem clean_walk (s:B) (w:World) (hs:s.length≤1000000) :
  Calls Tryz.prog 184 #[.string ⟨⟨s⟩⟩] w fun e w'=>e=.returned (.string ⟨⟨clean s⟩⟩)∧Below w.heap.size w w':=by
 go_enter Tryz.func184,Tryz.ntmps184
 go_wp2
 go_loopw [7] (fun vi wr=>∃ (k:Nat),vi=.int .i64 k∧k≤s.length∧Lib.IsBuilder 142 5 w.heap.size w.heap.size (Lib.byteCells (clean (s.take k))) wr∧Below w.heap.size w wr) (fun vi _=>s.length - (intOf vi).toNat)
 case atStart=>exact ⟨0,rfl,by omega,Lib.fresh_isBuilder 142 5 w,(Below.refl _ w).alloc (Nat.le_refl _) _⟩
 case round =>
  obtain ⟨k,rfl,hk,hI,hbw⟩:=hrel
  go_wp2_with (go_at_call 155;refine (Tryz.strings_IndexByte _ _ _).mono ?_)
  ·have hlt:Lib.indexByte [32,9,10,13] (⟨⟨s⟩⟩:ByteArray)[k]<0:=by assumption
   have hkl:k<s.length:=by assumption
   have hc:=ix_blank s[k]
   have hc':(s[k]==32 || s[k]==9 || s[k]==10 || s[k]==13)=false:=by
    have h1:Lib.indexByte [32,9,10,13] s[k]<0:=hlt
    rw [dT h1] at hc
    simpa using hc.symm
   have hl:=clean_len (s.take k)
   have hl2:(s.take k).length≤s.length:=by rw [List.length_take];omega
   refine (Tryz.Builder_WriteByte w.heap.size w.heap.size _ _ wr hI (by rw [Lib.byteCells_length];omega) hbw.size).mono ?_
   rintro e W1 ⟨rfl,h1,b1⟩
   go_wp2
   refine ⟨⟨k+1,by congr 1,by omega,?_,hbw.trans b1⟩,by simp [intOf];omega⟩
   rw [clean_snoc hkl,hc',if_neg (by simp),Lib.byteCells_append]
   exact Or.inr h1
  ·have hkl:k<s.length:=by assumption
   have hge:¬ Lib.indexByte [32,9,10,13] (⟨⟨s⟩⟩:ByteArray)[k]<0:=by
    have:=‹0≤Lib.indexByte [32,9,10,13] (⟨⟨s⟩⟩:ByteArray)[k]›
    omega
   have hc:=ix_blank s[k]
   have hc':(s[k]==32 || s[k]==9 || s[k]==10 || s[k]==13)=true:=by
    have h1:¬ Lib.indexByte [32,9,10,13] s[k]<0:=hge
    rw [dF h1] at hc
    cases e:(s[k]==32 || s[k]==9 || s[k]==10 || s[k]==13) with
    | true=>rfl
    | false=>rw [e] at hc;cases hc
   refine ⟨⟨k+1,by congr 1,by omega,?_,hbw⟩,by simp [intOf];omega⟩
   rw [clean_snoc hkl,hc',if_pos rfl,List.append_nil]
   exact hI
  ·refine (Tryz.Builder_String_any w.heap.size w.heap.size _ wr hI hbw.size).mono ?_
   rintro e W1 ⟨rfl,b1⟩
   go_wp2
   go_ret
   have hkl:¬ k<s.length:=by assumption
   have:s.take k=s:=List.take_of_length_le (by omega)
   rw [this]
   exact ⟨rfl,hbw.trans b1⟩
theorem is184':FnP G ng 184 (adp184 A184):=fnIs_lib (c:=Tryz.f184.body.getD .skip) Tryz.func184 (by kernel_rfl) (by kernel_rfl) fun rc cs K r h=>by
 unfold adp184 yq14 A184 at h
 split at h
 ·split at h
  ·rename_i hc
   exact ⟨rfl,[.str _],rfl,.str _,h,fun w _=>(clean_walk _ w hc).mono fun e w' ⟨h1,h2⟩=>⟨h1,ext_below h2⟩⟩
  ·cases h
 ·cases h
end Go.Proofs.YtffmgholjdfcnaaGreatDoor
