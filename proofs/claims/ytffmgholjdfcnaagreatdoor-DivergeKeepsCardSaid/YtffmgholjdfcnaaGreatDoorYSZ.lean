import Derived.Test.YtffmgholjdfcnaaGreatDoorYSNvI
import Derived.Test.YtffmgholjdfcnaaGreatDoorYSNwC
import Derived.Test.YtffmgholjdfcnaaGreatDoorYSNwD
import Derived.Test.YtffmgholjdfcnaaGreatDoorRows
import Derived.WalkKit
import Derived.ProofKit
import Derived.OpenShut
import Derived.MakeChecks
import Derived.LaidLaws
import Derived.Lib.LaidTab
import Derived.Lib.LaidU8T
import Derived.Test.YtffmgholjdfcnaaGreatDoorKSS
import Derived.Test.YtffmgholjdfcnaaGreatDoorYSNwJ
import Derived.Test.YtffmgholjdfcnaaGreatDoorYSNwN
import Derived.Test.YtffmgholjdfcnaaGreatDoorYSNwP
set_option linter.unusedVariables false
namespace Go.Proofs.YtffmgholjdfcnaaGreatDoor
open Go AM St Nu
theorem t142d:FnP G ng 142 (adp142 fun _ _=>none):=by intro rc cs K r h;unfold adp142 yq25 at h;split at h<;>cases h
theorem t83:FnP G ng 83 (adp83 A83):=as83 stays t43 is81' t82 t142d fun a0 a1 K r h=>eq83 cut0_eq a0 a1 K r h
theorem t47:FnP G ng 47 (adp47 A47):=as47 stays is81' t82 t83 fun a0 a1 a2 K r h=>eq47 a0 a1 a2 K r h
theorem t32:FnP G ng 32 (adp32 A32):=as32 stays t25 t43 t47 fun a0 a1 a2 K r h=>eq32 cut0_eq a0 a1 a2 K r h
theorem t34:FnP G ng 34 (adp34 A34):=as34 stays t32 fun a0 a1 a2 K r h=>eq34 a0 a1 a2 K r h
theorem t29:FnP G ng 29 (adp29 A29):=as29 stays t32 t34 fun K r h=>by rw [eq29];exact h
theorem t31:FnP G ng 31 (adp31 A31):=as31 stays fun a0 K r h=>eq31 cut0_eq a0 K r h
theorem t91:FnP G ng 91 (adp91 A91):=as91 stays fun a0 K r h=>by rw [eq91];exact h
theorem t61:FnP G ng 61 (adp61 A61):=as61 stays t91 t92 fun a0 K r h=>eq61 cut0_eq a0 K r h
theorem t59:FnP G ng 59 (adp59 A59):=as59 stays t61 fun a0 K r h=>eq59 a0 K r h
theorem t39:FnP G ng 39 (adp39 A39):=as39 stays t59 fun a0 K r h=>eq39 cut0_eq a0 K r h
theorem t12:FnP G ng 12 (adp12 A12):=as12 stays t17 t29 t31 t34 t39 fun a0 a1 a2 a3 K r h=>eq12 cut0_eq a0 a1 a2 a3 K r h
end Go.Proofs.YtffmgholjdfcnaaGreatDoor
set_option linter.unusedVariables false
namespace Go.Proofs.YtffmgholjdfcnaaGreatDoor
open Go AM Go.RowKit Go.ChangeShapes Go.WideShapes Go.ChangeAt
def cellsD:Nat→DataW Unit→List Value
 | _+1,.lit (.int k n)=>[.int k n]
 | f+1,.agg l=>l.flatMap (cellsD f)
 | _,_=>[]
noncomputable def holdAt (w:World) (x:String × DataW Unit):World:=
 { w with heap:=w.heap.modify ((Tryz.prog.globalNamed x.1).getD 0) fun
   | .cells _ t frozen=>.cells (cellsD 5 x.2).toArray t frozen
   | o=>o }
noncomputable def laidWorld (os:Os):World:=
 Rows.resolveTellsRow.laid.foldl holdAt (World.holding Tryz.prog os ⟨#[],#[],[]⟩)
theorem tab_of {P:Program} {W:World} {name:String} {k:IntKind} {zs:List Int} {g:Nat} {t e:TypeId} {n:Nat}
  (hg:P.globalNamed name=some g) (hty:(P.globals[g]?).map (·.type)=some t) (ht:P.underlying t=some (.array n e)) (he:P.underlying e=some (.int k)) (hce:P.cellsOf e=1) (hct:P.cellsOf t=n) :
  ∀ (l:List (String × DataW Unit)) (ps:List MemPlace),DataW.LaidVars P W l ps→(name,Lib.tabData k zs) ∈ l→Lib.TabIs P W name k zs
 | [],_,_,hm=>by cases hm
 | (x,d) :: rest,ps,h,hm=>by
  obtain ⟨g',t',cs,fuel,p,q,hg',ht',hvar,hd,hrest,_⟩:=h
  rcases List.mem_cons.1 hm with hm | hm
  ·cases hm
   obtain rfl:=Option.some.inj (hg.symm.trans hg')
   obtain rfl:=Option.some.inj (hty.symm.trans ht')
   unfold Lib.TabIs
   rw [hvar,← Lib.cells_of_tab ht he hce hct hd]
  ·exact tab_of hg hty ht he hce hct rest _ hrest hm
noncomputable def tP:TypeId:=((Tryz.prog.globals[ng - 1]?).map (·.type)).getD 0
noncomputable def eP:TypeId:=match Tryz.prog.underlying tP with
 | some (.array _ e)=>e
 | _=>0
theorem cell2 {W:World} (h:W.ShapedOpen Tryz.prog):∃ m:Int,W.cell? ⟨2,0,none⟩=some (.int .i64 m):=
 Go.Proofs.cell_of_shapedOpen_int (zero:=#[.int .i64 0]) (t:=3) h (of_decide_eq_true (by kernel_rfl)) (by kernel_rfl) rfl (by kernel_rfl) (by kernel_rfl) Tryz.underlying3
theorem first_is:Rows.laid_unicode_utf8_first=Go.Lib.firstData:=by kernel_rfl
theorem accept_is:Rows.laid_unicode_utf8_acceptRanges=Go.Lib.acceptData:=by kernel_rfl
theorem laid_G {W:World} (h:laidMetH Tryz.prog Rows.resolveTellsRow.laid W) (hs:W.ShapedOpen Tryz.prog):G W:=by
 rw [MakeChecks.laidMetH_plain _ _ _ (by kernel_rfl)] at h
 have hL:=h
 have m1:("unicode/utf8.first",Go.Lib.firstData) ∈ Rows.resolveTellsRow.laid:=by
  rw [← first_is];exact .tail _ (.tail _ (.tail _ (.tail _ (.head _))))
 have m2:("unicode/utf8.acceptRanges",Go.Lib.acceptData) ∈ Rows.resolveTellsRow.laid:=by
  rw [← accept_is];exact .tail _ (.tail _ (.tail _ (.head _)))
 refine ⟨?_,cell2 hs,utf8Tabs_of_readsT (ρ:=Tryz.lays196_ren) (U8Types.of196 Tryz.lays196) Tryz.u8Extra (Lib.laidMet.reads hL m1) (Lib.laidMet.reads hL m2)⟩
 obtain ⟨ps,h,-⟩:=h
 refine tab_of gP (t:=tP) (e:=eP) (n:=20) (by kernel_rfl) (by kernel_rfl) (by kernel_rfl) (by kernel_rfl) (by kernel_rfl) _ ps h ?_
 exact .tail _ (.tail _ (.head _))
theorem open_bytes_ro {H:Type} {enc:TypeId × Value→H} {P:Program} {W:World} {base0:Nat} {sp:Nat→Bool} {held:Bool} {t e:TypeId} {a:Option Addr} {len cap:Nat} {d:DataW H} {ps:List MemPlace}
  (ht:P.underlying t=some (.slice e)) (he:P.underlying e=some (.int .u8)) (hc:P.cellsOf e=1) (h:DataW.Trod enc P W base0 sp held t (.slice a len cap) d ps) (hlt:∀ x ∈ ps,x.block<W.heap.size) (hsp:sp=fun _=>true) :
  ∃ zs:List Int,len≤zs.length∧RoRel W.heap.size none W (.ints .u8 (zs.take len)) (.slice a len cap)∧∀ x,x ∈ zs.take len→0≤x∧x≤255:=by
 subst hsp
 obtain ⟨fuel,hf⟩:=h
 rcases open_ints ht he hc hf with ⟨hcs,_⟩ | ⟨x,l,c,zs,hcs,_,hl,hm,hz,hx,hcell,hwz⟩
 ·simp [Value.cells] at hcs
  obtain ⟨rfl,rfl,rfl⟩:=hcs
  exact ⟨[],by simp,⟨none,0,by simp [Xs.len],by simp [Xs.len],fun i hi=>by simp [Xs.len] at hi⟩,fun x hx=>by simp at hx⟩
 ·simp [Value.cells] at hcs
  obtain ⟨rfl,rfl,rfl⟩:=hcs
  have hz':zs.length=cap:=by simpa using hz
  have hlen:(Xs.ints .u8 (zs.take len)).len=len:=by simp [Xs.len];omega
  refine ⟨zs,by omega,⟨some x,cap,by rw [hlen],by rw [hlen];exact hl,fun i hi=>?_⟩,fun n hn=>?_⟩
  ·rw [hlen] at hi
   have hps:ps=MemPlace.row x zs.length:=by simpa using congrArg Prod.snd hx
   refine ⟨x,rfl,?_,by simp,?_⟩
   ·have:∃ y ∈ ps,y.block=x.block:=by
     rw [hps]
     exact ⟨.cell x.block (x.off+0),List.mem_map.2 ⟨0,by simp;omega,rfl⟩,rfl⟩
    obtain ⟨y,hy,hb⟩:=this
    rw [← hb];exact hlt y hy
   ·rw [hcell i (by omega)]
    simp only [Xs.enc,Xs.toS,List.getElem?_map]
    rw [List.getElem?_take_of_lt hi,List.getElem?_eq_getElem (by omega)]
    simp [S.enc,List.getD,List.getElem?_eq_getElem (by omega:i<zs.length)]
  ·have:=hwz n (List.mem_of_mem_take hn)
   simp [Lit.wf,IntKind.min,IntKind.max,IntKind.signed,IntKind.bits] at this
   omega
end Go.Proofs.YtffmgholjdfcnaaGreatDoor
set_option linter.unusedVariables false
namespace Go.Proofs.YtffmgholjdfcnaaGreatDoor
open Go AM St Nu
theorem t13:FnP G ng 13 (adp13 A13):=as13 stays t17 t29 t31 t32 fun a0 a1 K r h=>eq13 cut0_eq a0 a1 K r h
end Go.Proofs.YtffmgholjdfcnaaGreatDoor
set_option linter.unusedVariables false
namespace Go.Proofs.YtffmgholjdfcnaaGreatDoor
open Go AM St Nu
theorem u87:FnP G ng 87 (adp87 A87):=as87 stays fun a0 K r h=>by rw [eq87];exact h
theorem u51:FnP G ng 51 (adp51 A51):=as51 stays u87 fun a0 a1 K r h=>eq51 cut0_eq a0 a1 K r h
theorem u35:FnP G ng 35 (adp35 A35r):=as35 stays u51 fun a0 K r h=>eq35r cut0_eq a0 K r h
theorem u84:FnP G ng 84 (adp84 A84):=as84 stays u51 fun a0 a1 K r h=>eq84 cut0_eq a0 a1 K r h
theorem u85:FnP G ng 85 (adp85 fun _ _ _=>none):=by intro rc cs K r h;unfold adp85 yq12 at h;split at h<;>cases h
theorem u48:FnP G ng 48 (adp48 A48):=as48 stays u35 u51 u84 u85 fun a0 K r h=>eq48r cut0_eq a0 K r h
theorem u49:FnP G ng 49 (adp49 A49):=as49 stays t39 fun a0 K r h=>eq49 a0 K r h
theorem u86:FnP G ng 86 (adp86 fun _ _=>none):=by intro rc cs K r h;unfold adp86 yq25 at h;split at h<;>cases h
theorem u50:FnP G ng 50 (adp50 A50):=as50 stays u48 u49 u86 fun a0 a1 K r h=>eq50 cut0_eq a0 a1 K r h
theorem u33:FnP G ng 33 (adp33 A33):=as33 stays t26 u48 u49 u50 fun a0 a1 a2 K r h=>eq33 cut0_eq a0 a1 a2 K r h
theorem u30:FnP G ng 30 (adp30 A30):=as30 stays fun a0 K r h=>eq30 a0 K r h
theorem t10:FnP G ng 10 (adp10 A10):=as10 stays t29 u30 t31 t32 u33 t34 fun a0 a1 a2 a3 a4 K r h=>eq10 cut0_eq a0 a1 a2 a3 a4 K r h
end Go.Proofs.YtffmgholjdfcnaaGreatDoor
set_option linter.unusedVariables false
namespace Go.Proofs.YtffmgholjdfcnaaGreatDoor
open Go AM St Nu
theorem u57:FnP G ng 57 (adp57 A57):=as57 stays fun a0 a1 K r h=>by rw [eq57];exact h
theorem u52:FnP G ng 52 (adp52 A52b):=as52 stays u51 fun a0 a1 a2 K r h=>eq52b cut0_eq a0 a1 a2 K r h
theorem u53:FnP G ng 53 (adp53 fun _ _ _ _=>none):=by intro rc cs K r h;unfold adp53 yq93 at h;split at h<;>cases h
theorem u54:FnP G ng 54 (adp54 fun _ _=>none):=by intro rc cs K r h;unfold adp54 yq10 at h;split at h<;>cases h
theorem u55:FnP G ng 55 (adp55 fun _ _ _ _=>none):=by intro rc cs K r h;unfold adp55 yq94 at h;split at h<;>cases h
theorem u56:FnP G ng 56 (adp56 fun _ _=>none):=by intro rc cs K r h;unfold adp56 yq95 at h;split at h<;>cases h
theorem u58:FnP G ng 58 (adp58 fun _ _ _ _ _=>none):=by intro rc cs K r h;unfold adp58 yq97 at h;split at h<;>cases h
theorem u36:FnP G ng 36 (adp36 A36):=as36 stays u52 u53 u54 u55 u56 u57 u58 fun a0 a1 a2 K r h=>eq36 cut0_eq a0 a1 a2 K r h
theorem u60:FnP G ng 60 (adp60 fun _ _ _=>none):=by intro rc cs K r h;unfold adp60 yq85 at h;split at h<;>cases h
theorem u37:FnP G ng 37 (adp37 A37):=as37 stays t59 u60 t61 fun a0 a1 K r h=>eq37 cut0_eq a0 a1 K r h
theorem u38:FnP G ng 38 (adp38 A38):=as38 stays fun a0 a1 a2 K r h=>eq38 a0 a1 a2 K r h
theorem t11:FnP G ng 11 (adp11 A11):=as11 stays t26 t29 u30 t31 t32 t34 u35 u36 u37 u38 fun a0 a1 a2 a3 K r h=>eq11 cut0_eq a0 a1 a2 a3 K r h
end Go.Proofs.YtffmgholjdfcnaaGreatDoor
