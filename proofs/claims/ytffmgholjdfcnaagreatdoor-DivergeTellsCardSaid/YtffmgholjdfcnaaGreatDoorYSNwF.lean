import Derived.Test.YtffmgholjdfcnaaGreatDoorYSNwE
import Derived.Test.YtffmgholjdfcnaaGreatDoorYSNvC
import Derived.Lib.Walk
import Derived.WalkKit
import Derived.BigCall
import Derived.Shelf.Strings.MapGrows
import Derived.Lib.OthersKept
set_option linter.unusedSimpArgs false
set_option linter.unusedVariables false
namespace Go.Proofs.YtffmgholjdfcnaaGreatDoor
open Go AM St Nu Go.RowKit
theorem calls_one {g:Nat} {A:Fn1} (hF:FnP G ng g A) {fn:Func} {c:Code} (hf:Tryz.prog.funcs[g]?=some fn) (hname:(fn.name == "runtime.NumGoroutine")=false) (hb:fn.body=some c)
  {cs:List AM.C} {x:S} (hA:A none cs some=some ([.s x],none)) {w:World} {vs:List Value} (hG:G w) (hng:ng≤w.heap.size) (hr:RelL w.heap.size none w cs vs) (hp:cs.all plainC=true) :
  Calls Tryz.prog g vs.toArray w fun e w'=>e=.returned x.enc∧Below w.heap.size w w':=by
 have h:=hF none cs some _ hA w [] none vs hG hng ⟨rfl,rfl⟩ hr hp
 rcases h with ⟨-,q2⟩ | ⟨v,w',q1,-⟩
 ·refine Calls.mono (show Calls Tryz.prog g vs.toArray w _ from q2) fun e w' he=>?_
  cases e with
  | returned v =>
   obtain ⟨p,hp,hret⟩:=he
   cases hp
   have h1:=hret.1
   have h3:v=x.enc:=hret.2.1 0 none [] #[]
   exact ⟨by rw [h3],Ext.below h1⟩
  | panicked c=>exact he.elim
  | outgrown=>exact he.elim
 ·have h2:=callFunc_enter (w:=w) (args:=vs.toArray) hf hname hb
  have q1':(callFunc g vs.toArray).run Tryz.prog w=.ok (.value v) w':=q1
  rw [h2] at q1'
  cases q1'
theorem t135:FnP G ng 135 (adp135 A135):=as135 stays fun a0 K r h=>eq135 cut0_eq a0 K r h
theorem t190:FnP G ng 190 (adp190 A190):=as190 stays fun a0 K r h=>eq190 cut0_eq a0 K r h
theorem t223d:FnP G ng 223 (adp223 fun _ _=>none):=by intro rc cs K r h;unfold adp223 yq83 at h;split at h<;>cases h
theorem t189:FnP G ng 189 (adp189 A189):=as189 stays t223d fun a0 K r h=>eq189 cut0_eq a0 K r h
theorem t136:FnP G ng 136 (adp136 A136):=as136 stays t189 t190 fun a0 a1 K r h=>eq136 cut0_eq a0 a1 K r h
theorem t220:FnP G ng 220 (adp220 A220):=as220 stays fun a0 K r h=>eq220 cut0_eq a0 K r h
theorem t187:FnP G ng 187 (adp187 A187):=as187 stays t220 is221' fun a0 a1 K r h=>eq187 a0 a1 K r h
theorem t133:FnP G ng 133 (adp133 A133):=as133 stays t187 fun a0 K r h=>eq133 a0 K r h
theorem calls133 {s:B} (he:easy s=true) (hs:s.length≤10000) {w:World} (hG:G w):Calls Tryz.prog 133 #[.string ⟨⟨s⟩⟩] w fun e w'=>e=.returned (.bool true)∧Below w.heap.size w w':=
 calls_one t133 (c:=Tryz.f133.body.getD .skip) Tryz.func133 (by kernel_rfl) (by kernel_rfl) (cs:=[.s (.str s)]) (x:=.bool true) (by exact if_pos ⟨he,hs⟩) hG (G_ng hG) (vs:=[.string ⟨⟨s⟩⟩]) (.cons rfl .nil) rfl
theorem calls135 {r:Int} (hr:32≤r∧r≤126∧(r==34)=false∧(r==92)=false) {w:World} (hG:G w):Calls Tryz.prog 135 #[.int .i32 r] w fun e w'=>e=.returned (.int .u8 0)∧Below w.heap.size w w':=
 calls_one t135 (c:=Tryz.f135.body.getD .skip) Tryz.func135 (by kernel_rfl) (by kernel_rfl) (cs:=[.s (.int .i32 r)]) (x:=.int .u8 0) (by exact if_pos hr) hG (G_ng hG) (vs:=[.int .i32 r]) (.cons rfl .nil) rfl
theorem calls136 {s:B} {i:Int} (h:0≤i∧i<s.length∧easy s=true∧s.length≤10000) {w:World} (hG:G w):Calls Tryz.prog 136 #[.string ⟨⟨s⟩⟩,.int .i64 i] w fun e w'=>e=.returned (.int .i64 1)∧Below w.heap.size w w':=
 calls_one t136 (c:=Tryz.f136.body.getD .skip) Tryz.func136 (by kernel_rfl) (by kernel_rfl) (cs:=[.s (.str s),.s (.int .i64 i)]) (x:=.int .i64 1) (by exact if_pos h) hG (G_ng hG) (vs:=[.string ⟨⟨s⟩⟩,.int .i64 i]) (.cons rfl (.cons rfl .nil)) rfl
theorem G_below {w w':World} {B:Nat} (hG:G w) (hb:Below B w w') (hB:ng≤B):G w':=stays.stays w w' hG (fun b hb'=>hb.block b (by omega)) hb.os hb.tape hb.output hb.size
set_option maxHeartbeats 4000000 in
set_option maxRecDepth 1000000 in
theorem quote_walk (s:B) (he:easy s=true) (hs:s.length≤10000) (w:World) (hG:G w) :
  Calls Tryz.prog 81 #[.string ⟨⟨s⟩⟩] w fun e w'=>e=.returned (.string ⟨⟨quoteT s⟩⟩)∧Below w.heap.size w w':=by
 go_enter Tryz.func81,Tryz.ntmps81
 go_wp2_with (go_at_call 133;refine (calls133 he hs hG).mono ?_)
 rintro e W0 ⟨rfl,b0⟩
 have hG0:=G_below hG b0 (G_ng hG)
 have hI0:=Lib.IsBuilderF.of (Lib.fresh_isBuilder 142 5 W0)
 have bA:Below W0.heap.size W0 (W0.alloc (.cells #[.pointer none,.slice none 0 0] 142)):=(Below.refl _ W0).alloc (Nat.le_refl _) _
 go_wp2_with (go_at_call 134;refine (Tryz.Builder_WriteByte_k W0.heap.size W0.heap.size [] 34 _ hI0 (by simp) bA.size).mono ?_)
 rintro e W1 ⟨rfl,h1,b1,k1⟩
 have bB:=bA.trans b1
 have hG1:=G_below hG0 bB (G_ng hG0)
 go_wp2
 go_loopw [] (fun wr=>∃ (k:Nat),Lib.IsBuilderF 142 5 W0.heap.size W0.heap.size (Lib.byteCells (34 :: s.take k)) wr∧wr.heap[W1.heap.size]?=some (.stringIter ⟨⟨s⟩⟩ k)∧Below W0.heap.size W0 wr∧k≤s.length) (fun wr=>s.length - wr.iterPos W1.heap.size)
 case atStart =>
  have hI1:Lib.IsBuilderF 142 5 W0.heap.size W0.heap.size (Lib.byteCells (34 :: s.take 0)) W1:=Or.inr h1
  exact ⟨0,hI1.alloc _,World.iter_heap W1 ⟨⟨s⟩⟩ 0,bB.alloc bB.size _,by omega⟩
 case round =>
  obtain ⟨k,hI,hit,hbw,hk⟩:=hrel
  have hsz:W1.heap.size<wr.heap.size:=(Array.getElem?_eq_some_iff.1 hit).1
  have hGr:=G_below hG0 hbw (G_ng hG0)
  by_cases hp:k<s.length
  ·have hp':k<(⟨⟨s⟩⟩:ByteArray).size:=by rw [AM.size_mk];exact hp
   have hnx:∀ ty,(Instr.next (.pointer (some ⟨W1.heap.size,0,none⟩)) true ty).run Tryz.prog wr=_:=fun ty=>Lib.run_next_any_at wr W1.heap.size ⟨⟨s⟩⟩ k ty hit hp'
   have hec:easyC s[k]=true:=List.all_eq_true.1 he _ (List.getElem_mem hp)
   obtain ⟨q1,q2,q3,q4⟩:=easyC_bd hec
   have hdec:Utf8.decode ⟨⟨s⟩⟩ k=(s[k].toNat,1):=decode_ascii ⟨⟨s⟩⟩ k hp' (by show s[k].toNat<128;omega)
   rw [hdec] at hnx
   have hI2:=hI.iterAt hit (k+1)
   have hit2:=Lib.iterAt_heap wr W1.heap.size ⟨⟨s⟩⟩ k (k+1) hit
   have hbw2:=Lib.below_iterAt hbw (k:=W1.heap.size) bB.size ⟨⟨s⟩⟩ (k+1)
   have hG2:=G_below hG0 hbw2 (G_ng hG0)
   have c135:=calls135 (r:=(s[k].toNat:Int)) ⟨by omega,by omega,q3,q4⟩ hG2
   go_wp2_with (go_at_call 135;refine c135.mono ?_)
   rintro e W2 rfl b2
   have hI3:=hI2.below b2
   have hit3:W2.heap[W1.heap.size]?=some (.stringIter ⟨⟨s⟩⟩ (k+1)):=by
    rw [b2.block _ (Array.getElem?_eq_some_iff.1 hit2).1];exact hit2
   have hbw3:Below W0.heap.size W0 W2:=hbw2.trans ⟨b2.os,b2.tape,b2.output,b2.size,fun j hj=>b2.block j (by have:=hbw2.size;omega)⟩
   have hG3:=G_below hG0 hbw3 (G_ng hG0)
   have c136:=calls136 (s:=s) (i:=(k:Int)) ⟨by omega,by omega,he,hs⟩ hG3
   go_wp2_with (go_at_call 136;refine c136.mono ?_)
   rintro e W3 ⟨rfl,b3⟩
   have hI4:=hI3.below b3
   have hit4:W3.heap[W1.heap.size]?=some (.stringIter ⟨⟨s⟩⟩ (k+1)):=by
    rw [b3.block _ (Array.getElem?_eq_some_iff.1 hit3).1];exact hit3
   have hbw4:Below W0.heap.size W0 W3:=hbw3.trans ⟨b3.os,b3.tape,b3.output,b3.size,fun j hj=>b3.block j (by have:=hbw3.size;omega)⟩
   go_wp2_with (go_at_call 139;refine (Tryz.Builder_WriteRune_k W0.heap.size W0.heap.size _ (s[k].toNat:Int) (by omega) (by omega) _ hI4 (by rw [Lib.byteCells_length];simp;omega) hbw4.size).mono ?_)
   rintro e W4 ⟨rfl,h4,b4,k4⟩
   go_wp2
   go_roundw
   case rel =>
    refine ⟨k+1,?_,k4.iter hit4 (by have:=h1.lt;omega),hbw4.trans b4,by omega⟩
    have hr:Lib.runeCells (s[k].toNat:Int)=Lib.byteCells [s[k]]:=by
     unfold Lib.runeCells
     rw [Lib.encodeRuneZ_one (by omega) (by omega)]
     rfl
    rw [List.take_succ_eq_append_getElem hp,← List.cons_append,Lib.byteCells_append,← hr]
    exact Or.inr h4
   case measure =>
    simp only [World.iterPos,k4.iter hit4 (by have:=h1.lt;omega),hit]
    omega
  ·have hp':¬ k<(⟨⟨s⟩⟩:ByteArray).size:=by rw [AM.size_mk];exact hp
   have hnx:∀ ty,(Instr.next (.pointer (some ⟨W1.heap.size,0,none⟩)) true ty).run Tryz.prog wr=_:=fun ty=>Lib.run_next_end_at wr W1.heap.size ⟨⟨s⟩⟩ k ty hit hp'
   go_wp2_with (go_at_call 134;refine (Tryz.Builder_WriteByte_k W0.heap.size W0.heap.size _ 34 _ hI (by rw [Lib.byteCells_length];simp;omega) hbw.size).mono ?_)
   rintro e W2 ⟨rfl,h2,b2,k2⟩
   have hI2:Lib.IsBuilderF 142 5 W0.heap.size W0.heap.size (Lib.byteCells (34 :: s.take k++[34])) W2:=by
    rw [Lib.byteCells_append];exact Or.inr h2
   have hbw2:=hbw.trans b2
   go_wp2_with (go_at_call 140;refine (Tryz.Builder_String_any_k W0.heap.size W0.heap.size _ _ hI2 hbw2.size).mono ?_)
   rintro e W3 ⟨rfl,-,b3,-⟩
   go_wp2
   go_ret
   have:s.take k=s:=List.take_of_length_le (by omega)
   rw [this]
   refine ⟨rfl,b0.trans ?_⟩
   have hb:=hbw2.trans b3
   exact ⟨hb.os,hb.tape,hb.output,hb.size,fun j hj=>hb.block j (by have:=b0.size;omega)⟩
theorem is81':FnP G ng 81 (adp81 A81):=fnIs_lib (c:=Tryz.f81.body.getD .skip) Tryz.func81 (by kernel_rfl) (by kernel_rfl) fun rc cs K r h=>by
 unfold adp81 yq14 A81 at h
 split at h
 ·split at h
  ·rename_i s hc
   exact ⟨rfl,[.str s],rfl,.str (quoteT s),h,fun w hG=>(quote_walk s hc.1 hc.2 w hG).mono fun e w' ⟨h1,h2⟩=>⟨h1,ext_below h2⟩⟩
  ·cases h
 ·cases h
end Go.Proofs.YtffmgholjdfcnaaGreatDoor
