import Derived.Test.YtffmgholjdfcnaaGreatDoorKSW
import Derived.Test.YtffmgholjdfcnaaGreatDoorProg
set_option maxRecDepth 100000
set_option linter.unusedVariables false
namespace Go.Proofs.YtffmgholjdfcnaaGreatDoor
open Go Go.Proofs AM
open Go.IntKind (i64 u8)
open Go.Proofs.Tryz
noncomputable section
variable {G:World→Prop} {ng:Nat}
section
variable (C:Cu) (N99:Yq34) (N106:Yq49) (N107:Yq14) (N108:Yq14)
def gam65:List (Nat × Fn1):=[(99,yq34 N99),(106,yq49 N106),(107,yq14 N107),(108,yq14 N108)]
noncomputable def run65 (k:Nat) (a:BY) (K:Zq15):Oo:=runK prog (lookG (gam65 N99 N106 N107 N108)) 6 lv0 C k f65 none [.s (.str a)] (zq15 K)
theorem run65_eq (k:Nat) (a:BY) (K:Zq15):run65 C N99 N106 N107 N108 k a K =
 N106 a fun r1 r2 r3 r4 r5=>bif r1==0 then K 0 false [] [] false else bif r1==4 then K 1 r2 [] [] true else bif r1==5 then K 2 false [] [] true else N107 r3 fun r6=>N108 r6 fun r7=>N107 r4 fun r8=>N99 r2 r7 r8 r5 fun r9 r10 r11 r12 r13=>K r9 r10 r11 r12 r13:=by kernel_rfl
variable {N99 N106 N107 N108}
theorem as65 (S:SP G ng) (h99:FnP G ng 99 (yq34 N99)) (h106:FnP G ng 106 (yq49 N106)) (h107:FnP G ng 107 (yq14 N107)) (h108:FnP G ng 108 (yq14 N108)) {A:Yq28} (hA:Lq28 A (run65 cut0 N99 N106 N107 N108 big)):FnP G ng 65 (yq28 A):=xq28 S (l:=gam65 N99 N106 N107 N108) (mc h99 (mc h106 (mc h107 (mc h108 mn)))) func65 (by kernel_rfl) hA
end
def lvs106:Lv
 | 257=>kk [0,2,3,4]
 | 513=>kk [0,2,3,4,5]
 | 3000000=>kk [2]
 | 3000001 | 3000002=>kk [0,2,3,5]
 | _=>none
section
variable (C:Cu) (N96:Yq32) (N159:Yq50) (N160:Yq20) (N161:Yq45) (N162:Yq45) (N163:Yq1)
def gam106:List (Nat × Fn1):=[(96,yq32 N96),(159,yq50 N159),(160,yq20 N160),(161,yq45 N161),(162,yq45 N162),(163,yq1 N163)]
def run106 (k:Nat) (a:BY) (K:Zq22):Oo:=runK prog (lookG (gam106 N96 N159 N160 N161 N162 N163)) 3 lvs106 C k f106 none [.s (.str a)] (zq22 K)
def p1_106 (k j0:Nat) (a:BY) (b:Int) (d:Bool) (f g i:BY) (l:Int) (m:Bool) (o p q:BY) (t:Bool) (K:Zq22):Oo:=C 257 ([sv a,.u,.box 119 (.ss [si b,.bool d,.str f,.str g,.str i]),.box 119 (.ss [si l,.bool m,.str o,.str p,.str q]),bv t]++us 132) (aK (gam106 N96 N159 N160 N161 N162 N163) 3 lvs106 C k f106 none (zq22 K) [1,j0,1,1])
def p2_106 (k j0:Nat) (a:BY) (b:Int) (d:Bool) (f g i:BY) (l:Int) (m:Bool) (o p q:BY) (t:Bool) (u:Int) (K:Zq22):Oo:=C 513 ([sv a,.u,.box 119 (.ss [si b,.bool d,.str f,.str g,.str i]),.box 119 (.ss [si l,.bool m,.str o,.str p,.str q]),bv t,iv u]++us 131) (aK (gam106 N96 N159 N160 N161 N162 N163) 3 lvs106 C k f106 none (zq22 K) [1,j0,1,1,1,1])
def g3_106 (k j0:Nat) (a:Int) (b:Bool) (d f g:BY) (K:Zq22):Oo:=C 3000000 ([.u,.u,.box 119 (.ss [si a,.bool b,.str d,.str f,.str g])]++us 134) (uK (gam106 N96 N159 N160 N161 N162 N163) 3 lvs106 C k f106 none (zq22 K) j0 0 [1])
def g4_106 (k j0:Nat) (a:BY) (b:Int) (d:Bool) (f g i:BY) (l:Int) (m:Bool) (o p q:BY) (t:Int) (K:Zq22):Oo:=C 3000001 ([sv a,.u,.box 119 (.ss [si b,.bool d,.str f,.str g,.str i]),.box 119 (.ss [si l,.bool m,.str o,.str p,.str q]),.u,iv t]++us 131) (uK (gam106 N96 N159 N160 N161 N162 N163) 3 lvs106 C k f106 none (zq22 K) j0 1 [1])
def g5_106 (k j0:Nat) (a:BY) (b:Int) (d:Bool) (f g i:BY) (l:Int) (m:Bool) (o p q:BY) (t:Int) (K:Zq22):Oo:=C 3000002 ([sv a,.u,.box 119 (.ss [si b,.bool d,.str f,.str g,.str i]),.box 119 (.ss [si l,.bool m,.str o,.str p,.str q]),.u,iv t]++us 131) (uK (gam106 N96 N159 N160 N161 N162 N163) 3 lvs106 C k f106 none (zq22 K) j0 2 [1])
theorem run106_eq (k:Nat) (a:BY) (K:Zq22):run106 C N96 N159 N160 N161 N162 N163 k a K =
 bif !(a==[]) then (at? a 0).bind fun b1=>bif (b1.toNat:Int)==43 then p1_106 C N96 N159 N160 N161 N162 N163 k k a 0 false [] [] [] 0 false [] [] [48] true K else (at? a 0).bind fun b2=>p1_106 C N96 N159 N160 N161 N162 N163 k k a 0 false [] [] [] 0 false [] [] [48] ((b2.toNat:Int)==45) K else p1_106 C N96 N159 N160 N161 N162 N163 k k a 0 false [] [] [] 0 false [] [] [48] false K:=by kernel_rfl
theorem p1_106_eq (hC:Cv C) (k j0 a b d f g i l m o p q t K):p1_106 C N96 N159 N160 N161 N162 N163 k j0 a b d f g i l m o p q t K =
 bif t then (at? a 0).bind fun b3=>(cut a (some (1:Int)) none).bind fun s4=>p2_106 C N96 N159 N160 N161 N162 N163 k j0 s4 b d f g i l ((b3.toNat:Int)==45) o p q t 0 K else p2_106 C N96 N159 N160 N161 N162 N163 k j0 a b d f g i l m o p q t 0 K:=hC.t (by kernel_rfl)
theorem p2_106_eq (hC:Cv C) (k j0 a b d f g i l m o p q t u K):p2_106 C N96 N159 N160 N161 N162 N163 k j0 a b d f g i l m o p q t u K =
 N159 a t fun r5=>bif decide (r5 > 0) then K r5 m o p q else bif a==[] then g3_106 C N96 N159 N160 N161 N162 N163 k j0 b d f g i K else (at? a 0).bind fun b6=>bif (b6.toNat:Int)==46 then g4_106 C N96 N159 N160 N161 N162 N163 k j0 a b d f g i 2 m o p q u K else (at? a 0).bind fun b7=>N160 (b7.toNat:Int) fun r8=>bif !r8 then g3_106 C N96 N159 N160 N161 N162 N163 k j0 b d f g i K else N161 a fun r9=>(cut a (some r9) none).bind fun s10=>N162 s10 fun r11=>bif decide (r11 > 0) then g5_106 C N96 N159 N160 N161 N162 N163 k j0 a b d f g i 3 m o p q (i64.wrap (r9+r11)) K else bif r9==(a.length:Int) then g3_106 C N96 N159 N160 N161 N162 N163 k j0 b d f g i K else (at? a r9).bind fun b12=>bif (b12.toNat:Int) != 46 then g3_106 C N96 N159 N160 N161 N162 N163 k j0 b d f g i K else (cut a none (some r9)).bind fun s13=>(cut a (some (i64.wrap (r9+1))) none).bind fun s14=>N161 s14 fun r15=>(cut s14 none (some r15)).bind fun s16=>(cut s14 (some r15) none).bind fun s17=>bif s17==[] then K 1 m s13 s16 q else bif decide ((s17.length:Int)<3) then g3_106 C N96 N159 N160 N161 N162 N163 k j0 b d f g i K else (at? s17 0).bind fun b18=>bif (b18.toNat:Int) != 101 then (at? s17 0).bind fun b19=>bif (b19.toNat:Int) != 69 then g3_106 C N96 N159 N160 N161 N162 N163 k j0 b d f g i K else (at? s17 1).bind fun b20=>bif (b20.toNat:Int) != 43 then (at? s17 1).bind fun b21=>bif (b21.toNat:Int) != 45 then g3_106 C N96 N159 N160 N161 N162 N163 k j0 b d f g i K else (at? s17 1).bind fun b22=>(cut s17 (some (2:Int)) none).bind fun s23=>N96 ((b22.toNat:Int)==45) s23 fun r24=>bif !(r24==[]) then K 1 m s13 s16 r24 else K 0 false [] [] [] else (at? s17 1).bind fun b25=>(cut s17 (some (2:Int)) none).bind fun s26=>N96 ((b25.toNat:Int)==45) s26 fun r27=>bif !(r27==[]) then K 1 m s13 s16 r27 else K 0 false [] [] [] else (at? s17 1).bind fun b28=>bif (b28.toNat:Int) != 43 then (at? s17 1).bind fun b29=>bif (b29.toNat:Int) != 45 then g3_106 C N96 N159 N160 N161 N162 N163 k j0 b d f g i K else (at? s17 1).bind fun b30=>(cut s17 (some (2:Int)) none).bind fun s31=>N96 ((b30.toNat:Int)==45) s31 fun r32=>bif !(r32==[]) then K 1 m s13 s16 r32 else K 0 false [] [] [] else (at? s17 1).bind fun b33=>(cut s17 (some (2:Int)) none).bind fun s34=>N96 ((b33.toNat:Int)==45) s34 fun r35=>bif !(r35==[]) then K 1 m s13 s16 r35 else K 0 false [] [] []:=hC.t (by kernel_rfl)
theorem g3_106_eq (hC:Cv C) (k j0 a b d f g K):g3_106 C N96 N159 N160 N161 N162 N163 k (j0+1) a b d f g K =
 K 0 false [] [] []:=hC.t (by kernel_rfl)
theorem g4_106_eq (hC:Cv C) (k j0 a b d f g i l m o p q t K):g4_106 C N96 N159 N160 N161 N162 N163 k (j0+1) a b d f g i l m o p q t K =
 (cut a none (some t)).bind fun s36=>(cut a (some (i64.wrap (t+1))) none).bind fun s37=>N161 s37 fun r38=>(cut s37 none (some r38)).bind fun s39=>(cut s37 (some r38) none).bind fun s40=>bif l==2 then N163 s39 [95] fun r41=>bif r41==[] then g3_106 C N96 N159 N160 N161 N162 N163 k j0 b d f g i K else bif s40==[] then K l m s36 s39 q else bif l==3 then g3_106 C N96 N159 N160 N161 N162 N163 k j0 b d f g i K else bif decide ((s40.length:Int)<3) then g3_106 C N96 N159 N160 N161 N162 N163 k j0 b d f g i K else (at? s40 0).bind fun b42=>bif (b42.toNat:Int) != 101 then (at? s40 0).bind fun b43=>bif (b43.toNat:Int) != 69 then g3_106 C N96 N159 N160 N161 N162 N163 k j0 b d f g i K else (at? s40 1).bind fun b44=>bif (b44.toNat:Int) != 43 then (at? s40 1).bind fun b45=>bif (b45.toNat:Int) != 45 then g3_106 C N96 N159 N160 N161 N162 N163 k j0 b d f g i K else (at? s40 1).bind fun b46=>(cut s40 (some (2:Int)) none).bind fun s47=>N96 ((b46.toNat:Int)==45) s47 fun r48=>bif !(r48==[]) then K l m s36 s39 r48 else K 0 false [] [] [] else (at? s40 1).bind fun b49=>(cut s40 (some (2:Int)) none).bind fun s50=>N96 ((b49.toNat:Int)==45) s50 fun r51=>bif !(r51==[]) then K l m s36 s39 r51 else K 0 false [] [] [] else (at? s40 1).bind fun b52=>bif (b52.toNat:Int) != 43 then (at? s40 1).bind fun b53=>bif (b53.toNat:Int) != 45 then g3_106 C N96 N159 N160 N161 N162 N163 k j0 b d f g i K else (at? s40 1).bind fun b54=>(cut s40 (some (2:Int)) none).bind fun s55=>N96 ((b54.toNat:Int)==45) s55 fun r56=>bif !(r56==[]) then K l m s36 s39 r56 else K 0 false [] [] [] else (at? s40 1).bind fun b57=>(cut s40 (some (2:Int)) none).bind fun s58=>N96 ((b57.toNat:Int)==45) s58 fun r59=>bif !(r59==[]) then K l m s36 s39 r59 else K 0 false [] [] [] else bif s40==[] then K l m s36 s39 q else bif l==3 then g3_106 C N96 N159 N160 N161 N162 N163 k j0 b d f g i K else bif decide ((s40.length:Int)<3) then g3_106 C N96 N159 N160 N161 N162 N163 k j0 b d f g i K else (at? s40 0).bind fun b60=>bif (b60.toNat:Int) != 101 then (at? s40 0).bind fun b61=>bif (b61.toNat:Int) != 69 then g3_106 C N96 N159 N160 N161 N162 N163 k j0 b d f g i K else (at? s40 1).bind fun b62=>bif (b62.toNat:Int) != 43 then (at? s40 1).bind fun b63=>bif (b63.toNat:Int) != 45 then g3_106 C N96 N159 N160 N161 N162 N163 k j0 b d f g i K else (at? s40 1).bind fun b64=>(cut s40 (some (2:Int)) none).bind fun s65=>N96 ((b64.toNat:Int)==45) s65 fun r66=>bif !(r66==[]) then K l m s36 s39 r66 else K 0 false [] [] [] else (at? s40 1).bind fun b67=>(cut s40 (some (2:Int)) none).bind fun s68=>N96 ((b67.toNat:Int)==45) s68 fun r69=>bif !(r69==[]) then K l m s36 s39 r69 else K 0 false [] [] [] else (at? s40 1).bind fun b70=>bif (b70.toNat:Int) != 43 then (at? s40 1).bind fun b71=>bif (b71.toNat:Int) != 45 then g3_106 C N96 N159 N160 N161 N162 N163 k j0 b d f g i K else (at? s40 1).bind fun b72=>(cut s40 (some (2:Int)) none).bind fun s73=>N96 ((b72.toNat:Int)==45) s73 fun r74=>bif !(r74==[]) then K l m s36 s39 r74 else K 0 false [] [] [] else (at? s40 1).bind fun b75=>(cut s40 (some (2:Int)) none).bind fun s76=>N96 ((b75.toNat:Int)==45) s76 fun r77=>bif !(r77==[]) then K l m s36 s39 r77 else K 0 false [] [] []:=hC.t (by kernel_rfl)
theorem g5_106_eq (hC:Cv C) (k j0 a b d f g i l m o p q t K):g5_106 C N96 N159 N160 N161 N162 N163 k (j0+1) a b d f g i l m o p q t K =
 (cut a (some t) none).bind fun s78=>N162 s78 fun r79=>bif decide (r79 > 0) then g5_106 C N96 N159 N160 N161 N162 N163 k j0 a b d f g i 3 m o p q (i64.wrap (t+r79)) K else bif t==(a.length:Int) then g3_106 C N96 N159 N160 N161 N162 N163 k j0 b d f g i K else (at? a t).bind fun b80=>bif (b80.toNat:Int) != 46 then g3_106 C N96 N159 N160 N161 N162 N163 k j0 b d f g i K else (cut a none (some t)).bind fun s81=>(cut a (some (i64.wrap (t+1))) none).bind fun s82=>N161 s82 fun r83=>(cut s82 none (some r83)).bind fun s84=>(cut s82 (some r83) none).bind fun s85=>bif l==2 then N163 s84 [95] fun r86=>bif r86==[] then g3_106 C N96 N159 N160 N161 N162 N163 k j0 b d f g i K else bif s85==[] then K l m s81 s84 q else bif l==3 then g3_106 C N96 N159 N160 N161 N162 N163 k j0 b d f g i K else bif decide ((s85.length:Int)<3) then g3_106 C N96 N159 N160 N161 N162 N163 k j0 b d f g i K else (at? s85 0).bind fun b87=>bif (b87.toNat:Int) != 101 then (at? s85 0).bind fun b88=>bif (b88.toNat:Int) != 69 then g3_106 C N96 N159 N160 N161 N162 N163 k j0 b d f g i K else (at? s85 1).bind fun b89=>bif (b89.toNat:Int) != 43 then (at? s85 1).bind fun b90=>bif (b90.toNat:Int) != 45 then g3_106 C N96 N159 N160 N161 N162 N163 k j0 b d f g i K else (at? s85 1).bind fun b91=>(cut s85 (some (2:Int)) none).bind fun s92=>N96 ((b91.toNat:Int)==45) s92 fun r93=>bif !(r93==[]) then K l m s81 s84 r93 else K 0 false [] [] [] else (at? s85 1).bind fun b94=>(cut s85 (some (2:Int)) none).bind fun s95=>N96 ((b94.toNat:Int)==45) s95 fun r96=>bif !(r96==[]) then K l m s81 s84 r96 else K 0 false [] [] [] else (at? s85 1).bind fun b97=>bif (b97.toNat:Int) != 43 then (at? s85 1).bind fun b98=>bif (b98.toNat:Int) != 45 then g3_106 C N96 N159 N160 N161 N162 N163 k j0 b d f g i K else (at? s85 1).bind fun b99=>(cut s85 (some (2:Int)) none).bind fun s100=>N96 ((b99.toNat:Int)==45) s100 fun r101=>bif !(r101==[]) then K l m s81 s84 r101 else K 0 false [] [] [] else (at? s85 1).bind fun b102=>(cut s85 (some (2:Int)) none).bind fun s103=>N96 ((b102.toNat:Int)==45) s103 fun r104=>bif !(r104==[]) then K l m s81 s84 r104 else K 0 false [] [] [] else bif s85==[] then K l m s81 s84 q else bif l==3 then g3_106 C N96 N159 N160 N161 N162 N163 k j0 b d f g i K else bif decide ((s85.length:Int)<3) then g3_106 C N96 N159 N160 N161 N162 N163 k j0 b d f g i K else (at? s85 0).bind fun b105=>bif (b105.toNat:Int) != 101 then (at? s85 0).bind fun b106=>bif (b106.toNat:Int) != 69 then g3_106 C N96 N159 N160 N161 N162 N163 k j0 b d f g i K else (at? s85 1).bind fun b107=>bif (b107.toNat:Int) != 43 then (at? s85 1).bind fun b108=>bif (b108.toNat:Int) != 45 then g3_106 C N96 N159 N160 N161 N162 N163 k j0 b d f g i K else (at? s85 1).bind fun b109=>(cut s85 (some (2:Int)) none).bind fun s110=>N96 ((b109.toNat:Int)==45) s110 fun r111=>bif !(r111==[]) then K l m s81 s84 r111 else K 0 false [] [] [] else (at? s85 1).bind fun b112=>(cut s85 (some (2:Int)) none).bind fun s113=>N96 ((b112.toNat:Int)==45) s113 fun r114=>bif !(r114==[]) then K l m s81 s84 r114 else K 0 false [] [] [] else (at? s85 1).bind fun b115=>bif (b115.toNat:Int) != 43 then (at? s85 1).bind fun b116=>bif (b116.toNat:Int) != 45 then g3_106 C N96 N159 N160 N161 N162 N163 k j0 b d f g i K else (at? s85 1).bind fun b117=>(cut s85 (some (2:Int)) none).bind fun s118=>N96 ((b117.toNat:Int)==45) s118 fun r119=>bif !(r119==[]) then K l m s81 s84 r119 else K 0 false [] [] [] else (at? s85 1).bind fun b120=>(cut s85 (some (2:Int)) none).bind fun s121=>N96 ((b120.toNat:Int)==45) s121 fun r122=>bif !(r122==[]) then K l m s81 s84 r122 else K 0 false [] [] []:=hC.t (by kernel_rfl)
variable {N96 N159 N160 N161 N162 N163}
theorem as106 (S:SP G ng) (h96:FnP G ng 96 (yq32 N96)) (h159:FnP G ng 159 (yq50 N159)) (h160:FnP G ng 160 (yq20 N160)) (h161:FnP G ng 161 (yq45 N161)) (h162:FnP G ng 162 (yq45 N162)) (h163:FnP G ng 163 (yq1 N163)) {A:Yq49} (hA:Lq49 A (run106 cut0 N96 N159 N160 N161 N162 N163 big)):FnP G ng 106 (yq49 A):=xq49 S (l:=gam106 N96 N159 N160 N161 N162 N163) (mc h96 (mc h159 (mc h160 (mc h161 (mc h162 (mc h163 mn)))))) func106 (by kernel_rfl) hA
end
section
variable (C:Cu) (N102:Yq46)
def gam107:List (Nat × Fn1):=[(102,yq46 N102)]
noncomputable def run107 (k:Nat) (a:BY) (K:Zq1):Oo:=runK prog (lookG (gam107 N102)) 3 lv0 C k f107 none [.s (.str a)] (zq1 K)
theorem run107_eq (k:Nat) (a:BY) (K:Zq1):run107 C N102 k a K =
 N102 a [95] [] fun r1=>K r1:=by kernel_rfl
variable {N102}
theorem as107 (S:SP G ng) (h102:FnP G ng 102 (yq46 N102)) {A:Yq14} (hA:Lq14 A (run107 cut0 N102 big)):FnP G ng 107 (yq14 A):=xq14 S (l:=gam107 N102) (mc h102 mn) func107 (by kernel_rfl) hA
end
def lvs108:Lv
 | 577=>kk [3,4,6,15,16,17]
 | 1000322=>kk [3,4,15,16,17]
 | 1000706=>kk [3,4,6,7,15,16,17,27,28]
 | _=>none
section
variable (C:Cu) (N96:Yq32) (N103:Yq47) (N104:Yq36)
def gam108:List (Nat × Fn1):=[(96,yq32 N96),(103,yq47 N103),(104,yq36 N104)]
def run108 (k:Nat) (a:BY) (K:Zq1):Oo:=runK prog (lookG (gam108 N96 N103 N104)) 9 lvs108 C k f108 none [.s (.str a)] (zq1 K)
def l1_108 (k j0:Nat) (a:List BY) (b:BY) (d f:Nat) (g i:Int) (K:Zq1):Oo:=C 1000322 ([.u,.u,.u,.c (.own (.strs a)),sv b]++us 10++[.ali 3 d f,iv g,iv i]++us 27) (hK (gam108 N96 N103 N104) 9 lvs108 C k f108 none (zq1 K) j0 [1,1,1,0,1,0])
def p2_108 (k j0:Nat) (a:List BY) (b d:BY) (f g:Nat) (i l:Int) (K:Zq1):Oo:=C 577 ([.u,.u,.u,.c (.own (.strs a)),sv b,.u,sv d]++us 8++[.ali 3 f g,iv i,iv l]++us 27) (aK (gam108 N96 N103 N104) 9 lvs108 C k f108 none (zq1 K) [1,1,1,0,1,0,j0,1,1,0,0,1,1])
def l3_108 (k j0 j1:Nat) (a:List BY) (b d:BY) (f:Int) (g i:Nat) (l m o p:Int) (K:Zq1):Oo:=C 1000706 ([.u,.u,.u,.c (.own (.strs a)),sv b,.u,sv d,iv f]++us 7++[.ali 3 g i,iv l,iv m]++us 9++[iv o,iv p]++us 16) (hK (gam108 N96 N103 N104) 9 lvs108 C k f108 none (zq1 K) j1 [1,1,1,0,1,0,j0,1,1,0,0,1,1,1,0,1,0])
theorem run108_eq (k:Nat) (a:BY) (K:Zq1):run108 C N96 N103 N104 k a K =
 N103 a [58] fun r1=>bif decide (0≤(0:Int))&&decide ((0:Int)<(r1.length:Int)) then (r1[0]?).bind fun x2=>(cutN r1.length (some (1:Int)) none).bind fun p3=>l1_108 C N96 N103 N104 k k r1 x2 p3.1 p3.2 (p3.2:Int) 0 K else none:=by kernel_rfl
theorem l1_108_eq (hC:Cv C) (k j0 a b d f g i K):l1_108 C N96 N103 N104 k (j0+1) a b d f g i K =
 bif decide (i<g) then bif decide (0≤i)&&decide (i<(f:Int)) then (a[(d+i.toNat)]?).bind fun x4=>bif i==0 then N96 false b fun r5=>p2_108 C N96 N103 N104 k j0 a r5 x4 d f g i K else p2_108 C N96 N103 N104 k j0 a b x4 d f g i K else none else K b:=hC.t (by kernel_rfl)
theorem p2_108_eq (hC:Cv C) (k j0 a b d f g i l K):p2_108 C N96 N103 N104 k j0 a b d f g i l K =
 l3_108 C N96 N103 N104 k j0 k a b d 0 f g i l (d.length:Int) 0 K:=hC.t (by kernel_rfl)
theorem l3_108_eq (hC:Cv C) (k j0 j1 a b d f g i l m o p K):l3_108 C N96 N103 N104 k j0 (j1+1) a b d f g i l m o p K =
 bif decide (p<o) then (at? d p).bind fun b6=>l3_108 C N96 N103 N104 k j0 j1 a b d (i64.wrap ((i64.wrap ((10:Int) * f))+(i64.wrap (u8.wrap ((b6.toNat:Int) - 48))))) g i l m o (i64.wrap (p+1)) K else N104 b 60 f fun r7=>l1_108 C N96 N103 N104 k j0 a r7 g i l (i64.wrap (m+1)) K:=hC.t (by kernel_rfl)
variable {N96 N103 N104}
theorem as108 (S:SP G ng) (h96:FnP G ng 96 (yq32 N96)) (h103:FnP G ng 103 (yq47 N103)) (h104:FnP G ng 104 (yq36 N104)) {A:Yq14} (hA:Lq14 A (run108 cut0 N96 N103 N104 big)):FnP G ng 108 (yq14 A):=xq14 S (l:=gam108 N96 N103 N104) (mc h96 (mc h103 (mc h104 mn))) func108 (by kernel_rfl) hA
end
def lvs159:Lv
 | 386=>kk [1,5,6]
 | 642=>kk [1,10]
 | 769=>kk []
 | _=>none
section
variable (C:Cu)
def gam159:List (Nat × Fn1):=[]
def run159 (k:Nat) (a:BY) (b:Bool) (K:Zq7):Oo:=runK prog (lookG (gam159)) 5 lvs159 C k f159 none [.s (.str a),.s (.bool b)] (zq7 K)
def p1_159 (k:Nat) (a:Bool) (b:BY) (d:Bool) (K:Zq7):Oo:=C 386 ([.u,bv a,.u,.u,.u,sv b,bv d]++us 9) (aK gam159 5 lvs159 C k f159 none (zq7 K) [1,0,1,0,1])
def p2_159 (k:Nat) (a b:Bool) (K:Zq7):Oo:=C 642 ([.u,bv a]++us 8++[bv b,.u,.u,.u,.u,.u]) (aK gam159 5 lvs159 C k f159 none (zq7 K) [1,0,1,0,1,1,1])
def p3_159 (k:Nat) (K:Zq7):Oo:=C 769 (us 16) (aK gam159 5 lvs159 C k f159 none (zq7 K) [1,1])
theorem run159_eq (k:Nat) (a:BY) (b:Bool) (K:Zq7):run159 C k a b K =
 bif a==[46,105,110,102] then p1_159 C k b a (a==[46,105,110,102]) K else bif a==[46,73,110,102] then p1_159 C k b a (a==[46,73,110,102]) K else p1_159 C k b a (a==[46,73,78,70]) K:=by kernel_rfl
theorem p1_159_eq (hC:Cv C) (k a b d K):p1_159 C k a b d K =
 bif d then K 4 else bif b==[46,110,97,110] then p2_159 C k a (b==[46,110,97,110]) K else bif b==[46,78,97,78] then p2_159 C k a (b==[46,78,97,78]) K else p2_159 C k a (b==[46,78,65,78]) K:=hC.t (by kernel_rfl)
theorem p2_159_eq (hC:Cv C) (k a b K):p2_159 C k a b K =
 bif b then bif !a then K 5 else p3_159 C k K else p3_159 C k K:=hC.t (by kernel_rfl)
theorem p3_159_eq (hC:Cv C) (k K):p3_159 C k K =
 K 0:=hC.t (by kernel_rfl)
theorem as159 (S:SP G ng) {A:Yq50} (hA:Lq50 A (run159 cut0 big)):FnP G ng 159 (yq50 A):=xq50 S (l:=gam159) mn func159 (by kernel_rfl) hA
end
section
variable (C:Cu)
def gam160:List (Nat × Fn1):=[]
noncomputable def run160 (k:Nat) (a:Int) (K:Zq5):Oo:=runK prog (lookG (gam160)) 3 lv0 C k f160 none [.s (.int .u8 a)] (zq5 K)
theorem run160_eq (k:Nat) (a:Int) (K:Zq5):run160 C k a K =
 bif decide (a ≥ 48) then K (decide (a≤57)) else K false:=by kernel_rfl
theorem as160 (S:SP G ng) {A:Yq20} (hA:Lq20 A (run160 cut0 big)):FnP G ng 160 (yq20 A):=xq20 S (l:=gam160) mn func160 (by kernel_rfl) hA
end
def lvs161:Lv
 | 1000195=>kk [0,3]
 | _=>none
section
variable (C:Cu) (N160:Yq20)
def gam161:List (Nat × Fn1):=[(160,yq20 N160)]
def run161 (k:Nat) (a:BY) (K:Zq7):Oo:=runK prog (lookG (gam161 N160)) 4 lvs161 C k f161 none [.s (.str a)] (zq7 K)
def l1_161 (k j0:Nat) (a:BY) (b:Int) (K:Zq7):Oo:=C 1000195 ([sv a,.u,.u,iv b]++us 19) (hK (gam161 N160) 4 lvs161 C k f161 none (zq7 K) j0 [1,1,0,0])
theorem run161_eq (k:Nat) (a:BY) (K:Zq7):run161 C N160 k a K =
 l1_161 C N160 k k a 0 K:=by kernel_rfl
theorem l1_161_eq (hC:Cv C) (k j0 a b K):l1_161 C N160 k (j0+1) a b K =
 bif decide (b<(a.length:Int)) then (at? a b).bind fun b1=>bif (b1.toNat:Int)==95 then l1_161 C N160 k j0 a (i64.wrap (b+1)) K else (at? a b).bind fun b2=>N160 (b2.toNat:Int) fun r3=>bif r3 then l1_161 C N160 k j0 a (i64.wrap (b+1)) K else K b else K b:=hC.t (by kernel_rfl)
variable {N160}
theorem as161 (S:SP G ng) (h160:FnP G ng 160 (yq20 N160)) {A:Yq45} (hA:Lq45 A (run161 cut0 N160 big)):FnP G ng 161 (yq45 A):=xq45 S (l:=gam161 N160) (mc h160 mn) func161 (by kernel_rfl) hA
end
def lvs162:Lv
 | 194=>kk [0,3]
 | 322=>kk [27]
 | _=>none
section
variable (C:Cu) (N160:Yq20)
def gam162:List (Nat × Fn1):=[(160,yq20 N160)]
def run162 (k:Nat) (a:BY) (K:Zq7):Oo:=runK prog (lookG (gam162 N160)) 3 lvs162 C k f162 none [.s (.str a)] (zq7 K)
def p1_162 (k:Nat) (a:BY) (b:Bool) (K:Zq7):Oo:=C 194 ([sv a,.u,.u,bv b]++us 37) (aK (gam162 N160) 3 lvs162 C k f162 none (zq7 K) [1,0,0,1])
def p2_162 (k:Nat) (a:Bool) (K:Zq7):Oo:=C 322 (us 27++[bv a]++us 13) (aK (gam162 N160) 3 lvs162 C k f162 none (zq7 K) [1,0,0,1,1,1])
theorem run162_eq (k:Nat) (a:BY) (K:Zq7):run162 C N160 k a K =
 bif decide ((a.length:Int) > 2) then (at? a 0).bind fun b1=>bif (b1.toNat:Int)==58 then (at? a 1).bind fun b2=>bif decide ((b2.toNat:Int) ≥ 48) then (at? a 1).bind fun b3=>bif decide ((b3.toNat:Int)≤53) then (at? a 2).bind fun b4=>N160 (b4.toNat:Int) fun r5=>p1_162 C N160 k a r5 K else p1_162 C N160 k a false K else p1_162 C N160 k a false K else p1_162 C N160 k a false K else p1_162 C N160 k a false K:=by kernel_rfl
theorem p1_162_eq (hC:Cv C) (k a b K):p1_162 C N160 k a b K =
 bif b then K 3 else bif decide ((a.length:Int) > 1) then (at? a 0).bind fun b6=>bif (b6.toNat:Int)==58 then (at? a 1).bind fun b7=>N160 (b7.toNat:Int) fun r8=>p2_162 C N160 k r8 K else p2_162 C N160 k false K else p2_162 C N160 k false K:=hC.t (by kernel_rfl)
theorem p2_162_eq (hC:Cv C) (k a K):p2_162 C N160 k a K =
 bif a then K 2 else K 0:=hC.t (by kernel_rfl)
variable {N160}
theorem as162 (S:SP G ng) (h160:FnP G ng 160 (yq20 N160)) {A:Yq45} (hA:Lq45 A (run162 cut0 N160 big)):FnP G ng 162 (yq45 A):=xq45 S (l:=gam162 N160) (mc h160 mn) func162 (by kernel_rfl) hA
end
variable {G:World→Prop} {ng:Nat}
def lvs17:Lv
 | 962=>kk [1,4,11,53]
 | _=>none
section
variable (C:Cu) (N44:Yq25) (N45:Yq51)
def gam17:List (Nat × Fn1):=[(44,yq25 N44),(45,yq51 N45)]
def run17 (k:Nat) (a:Int) (b:BY) (K:Zq14):Oo:=runK prog (lookG (gam17 N44 N45)) 13 lvs17 C k f17 none [.s (.int .i64 a),.s (.str b)] (zq14 K)
def p1_17 (k:Nat) (a b d f:BY) (g:Bool) (K:Zq14):Oo:=C 962 ([.u,sv a,.u,.u,.box 27 (.ss [.str b,.str d])]++us 6++[sv f]++us 41++[bv g,.u,.u,.u,.u]) (aK (gam17 N44 N45) 13 lvs17 C k f17 none (zq14 K) [1,1,1,1,1,0,1,1])
theorem run17_eq (k:Nat) (a:Int) (b:BY) (K:Zq14):run17 C N44 N45 k a b K =
 N44 b fun r1=>bif r1 then K [116,97,103,58,121,97,109,108,46,111,114,103,44,50,48,48,50,58,110,117,108,108] [] else N45 a [116,97,103,58,121,97,109,108,46,111,114,103,44,50,48,48,50,58,98,111,111,108] b fun r2 r3=>bif r3 then K [116,97,103,58,121,97,109,108,46,111,114,103,44,50,48,48,50,58,98,111,111,108] r2 else N45 a [116,97,103,58,121,97,109,108,46,111,114,103,44,50,48,48,50,58,105,110,116] b fun r4 r5=>bif r5 then K [116,97,103,58,121,97,109,108,46,111,114,103,44,50,48,48,50,58,105,110,116] r4 else N45 a [116,97,103,58,121,97,109,108,46,111,114,103,44,50,48,48,50,58,102,108,111,97,116] b fun r6 r7=>bif r7 then K [116,97,103,58,121,97,109,108,46,111,114,103,44,50,48,48,50,58,102,108,111,97,116] r6 else N45 a [116,97,103,58,121,97,109,108,46,111,114,103,44,50,48,48,50,58,116,105,109,101,115,116,97,109,112] b fun r8 r9=>bif r9 then p1_17 C N44 N45 k b [] [] r8 (a==11) K else p1_17 C N44 N45 k b [] [] r8 false K:=by kernel_rfl
theorem p1_17_eq (hC:Cv C) (k a b d f g K):p1_17 C N44 N45 k a b d f g K =
 bif g then K [116,97,103,58,121,97,109,108,46,111,114,103,44,50,48,48,50,58,116,105,109,101,115,116,97,109,112] f else K [116,97,103,58,121,97,109,108,46,111,114,103,44,50,48,48,50,58,115,116,114] a:=hC.t (by kernel_rfl)
variable {N44 N45}
theorem as17 (S:SP G ng) (h44:FnP G ng 44 (yq25 N44)) (h45:FnP G ng 45 (yq51 N45)) {A:Yq27} (hA:Lq27 A (run17 cut0 N44 N45 big)):FnP G ng 17 (yq27 A):=xq27 S (l:=gam17 N44 N45) (mc h44 (mc h45 mn)) func17 (by kernel_rfl) hA
end
section
variable (C:Cu) (N44:Yq25) (N69:Yq24) (N70:Yq52) (N71:Yq15) (N72:Yq53) (N73:Yq28) (N74:Yq29) (N75:Yq54) (N76:Yq15) (N77:Yq15)
def gam45:List (Nat × Fn1):=[(44,yq25 N44),(69,yq24 N69),(70,yq52 N70),(71,yq15 N71),(72,yq53 N72),(73,yq28 N73),(74,yq29 N74),(75,yq54 N75),(76,yq15 N76),(77,yq15 N77)]
noncomputable def run45 (k:Nat) (a:Int) (b d:BY) (K:Zq9):Oo:=runK prog (lookG (gam45 N44 N69 N70 N71 N72 N73 N74 N75 N76 N77)) 8 lv0 C k f45 none [.s (.int .i64 a),.s (.str b),.s (.str d)] (zq9 K)
theorem run45_eq (k:Nat) (a:Int) (b d:BY) (K:Zq9):run45 C N44 N69 N70 N71 N72 N73 N74 N75 N76 N77 k a b d K =
 bif b==[116,97,103,58,121,97,109,108,46,111,114,103,44,50,48,48,50,58,110,117,108,108] then N44 d fun r1=>K [] r1 else bif b==[116,97,103,58,121,97,109,108,46,111,114,103,44,50,48,48,50,58,98,111,111,108] then N69 a d fun r2 r3=>bif !r3 then K [] false else N70 r2 fun r4=>K r4 true else bif b==[116,97,103,58,121,97,109,108,46,111,114,103,44,50,48,48,50,58,105,110,116] then bif a != 11 then N71 d fun r5 r6=>K r5 r6 else N72 d fun r7 r8=>K r7 (decide (r8 > 0)) else bif b==[116,97,103,58,121,97,109,108,46,111,114,103,44,50,48,48,50,58,102,108,111,97,116] then bif a != 11 then N73 d fun r9 r10 r11 r12 r13=>bif !r13 then K [] false else N74 r9 r10 r11 r12 fun r14=>K r14 true else N75 d fun r15 r16 r17 r18 r19=>bif r19==0 then K [] false else N74 r15 r16 r17 r18 fun r20=>K r20 true else bif b==[116,97,103,58,121,97,109,108,46,111,114,103,44,50,48,48,50,58,116,105,109,101,115,116,97,109,112] then N76 d fun r21 r22=>K r21 r22 else bif b==[116,97,103,58,121,97,109,108,46,111,114,103,44,50,48,48,50,58,98,105,110,97,114,121] then N77 d fun r23 r24=>K r23 r24 else K [] false:=by kernel_rfl
variable {N44 N69 N70 N71 N72 N73 N74 N75 N76 N77}
theorem as45 (S:SP G ng) (h44:FnP G ng 44 (yq25 N44)) (h69:FnP G ng 69 (yq24 N69)) (h70:FnP G ng 70 (yq52 N70)) (h71:FnP G ng 71 (yq15 N71)) (h72:FnP G ng 72 (yq53 N72)) (h73:FnP G ng 73 (yq28 N73)) (h74:FnP G ng 74 (yq29 N74)) (h75:FnP G ng 75 (yq54 N75)) (h76:FnP G ng 76 (yq15 N76)) (h77:FnP G ng 77 (yq15 N77)) {A:Yq51} (hA:Lq51 A (run45 cut0 N44 N69 N70 N71 N72 N73 N74 N75 N76 N77 big)):FnP G ng 45 (yq51 A):=xq51 S (l:=gam45 N44 N69 N70 N71 N72 N73 N74 N75 N76 N77) (mc h44 (mc h69 (mc h70 (mc h71 (mc h72 (mc h73 (mc h74 (mc h75 (mc h76 (mc h77 mn)))))))))) func45 (by kernel_rfl) hA
end
section
variable (C:Cu)
def gam70:List (Nat × Fn1):=[]
noncomputable def run70 (k:Nat) (a:Bool) (K:Zq1):Oo:=runK prog (lookG (gam70)) 3 lv0 C k f70 none [.s (.bool a)] (zq1 K)
theorem run70_eq (k:Nat) (a:Bool) (K:Zq1):run70 C k a K =
 bif a then K [116,114,117,101] else K [102,97,108,115,101]:=by kernel_rfl
theorem as70 (S:SP G ng) {A:Yq52} (hA:Lq52 A (run70 cut0 big)):FnP G ng 70 (yq52 A):=xq52 S (l:=gam70) mn func70 (by kernel_rfl) hA
end
section
variable (C:Cu)
def gam44:List (Nat × Fn1):=[]
noncomputable def run44 (k:Nat) (a:BY) (K:Zq5):Oo:=runK prog (lookG (gam44)) 3 lv0 C k f44 none [.s (.str a)] (zq5 K)
theorem run44_eq (k:Nat) (a:BY) (K:Zq5):run44 C k a K =
 bif a==[] then K true else bif a==[126] then K true else bif a==[110,117,108,108] then K true else bif a==[78,117,108,108] then K true else K (a==[78,85,76,76]):=by kernel_rfl
theorem as44 (S:SP G ng) {A:Yq25} (hA:Lq25 A (run44 cut0 big)):FnP G ng 44 (yq25 A):=xq25 S (l:=gam44) mn func44 (by kernel_rfl) hA
end
def lvs69:Lv
 | 386=>kk [0,1,6,7]
 | 642=>kk [0,1,11]
 | 1410=>kk [17,18]
 | 1986=>kk [27]
 | _=>none
section
variable (C:Cu)
def gam69:List (Nat × Fn1):=[]
def run69 (k:Nat) (a:Int) (b:BY) (K:Zq12):Oo:=runK prog (lookG (gam69)) 6 lvs69 C k f69 none [.s (.int .i64 a),.s (.str b)] (zq12 K)
def p1_69 (k:Nat) (a:Int) (b d:BY) (f:Bool) (K:Zq12):Oo:=C 386 ([iv a,sv b,.u,.u,.u,.u,sv d,bv f]++us 28) (aK gam69 6 lvs69 C k f69 none (zq12 K) [1,0,1,0,1])
def p2_69 (k:Nat) (a:Int) (b:BY) (d:Bool) (K:Zq12):Oo:=C 642 ([iv a,sv b]++us 9++[bv d]++us 24) (aK gam69 6 lvs69 C k f69 none (zq12 K) [1,0,1,0,1,1,1])
def p3_69 (k:Nat) (a:BY) (b:Bool) (K:Zq12):Oo:=C 1410 (us 17++[sv a,bv b]++us 17) (aK gam69 6 lvs69 C k f69 none (zq12 K) [1,1,1,0,1,0,1])
def p4_69 (k:Nat) (a:Bool) (K:Zq12):Oo:=C 1986 (us 27++[bv a]++us 8) (aK gam69 6 lvs69 C k f69 none (zq12 K) [1,1,1,0,1,0,1,1,1])
theorem run69_eq (k:Nat) (a:Int) (b:BY) (K:Zq12):run69 C k a b K =
 bif b==[116,114,117,101] then p1_69 C k a b b (b==[116,114,117,101]) K else bif b==[84,114,117,101] then p1_69 C k a b b (b==[84,114,117,101]) K else p1_69 C k a b b (b==[84,82,85,69]) K:=by kernel_rfl
theorem p1_69_eq (hC:Cv C) (k a b d f K):p1_69 C k a b d f K =
 bif f then K true true else bif d==[102,97,108,115,101] then p2_69 C k a b (d==[102,97,108,115,101]) K else bif d==[70,97,108,115,101] then p2_69 C k a b (d==[70,97,108,115,101]) K else p2_69 C k a b (d==[70,65,76,83,69]) K:=hC.t (by kernel_rfl)
theorem p2_69_eq (hC:Cv C) (k a b d K):p2_69 C k a b d K =
 bif d then K false true else bif a != 11 then K false false else bif b==[121] then p3_69 C k b (b==[121]) K else bif b==[89] then p3_69 C k b (b==[89]) K else bif b==[121,101,115] then p3_69 C k b (b==[121,101,115]) K else bif b==[89,101,115] then p3_69 C k b (b==[89,101,115]) K else bif b==[89,69,83] then p3_69 C k b (b==[89,69,83]) K else bif b==[111,110] then p3_69 C k b (b==[111,110]) K else bif b==[79,110] then p3_69 C k b (b==[79,110]) K else p3_69 C k b (b==[79,78]) K:=hC.t (by kernel_rfl)
theorem p3_69_eq (hC:Cv C) (k a b K):p3_69 C k a b K =
 bif b then K true true else bif a==[110] then p4_69 C k (a==[110]) K else bif a==[78] then p4_69 C k (a==[78]) K else bif a==[110,111] then p4_69 C k (a==[110,111]) K else bif a==[78,111] then p4_69 C k (a==[78,111]) K else bif a==[78,79] then p4_69 C k (a==[78,79]) K else bif a==[111,102,102] then p4_69 C k (a==[111,102,102]) K else bif a==[79,102,102] then p4_69 C k (a==[79,102,102]) K else p4_69 C k (a==[79,70,70]) K:=hC.t (by kernel_rfl)
theorem p4_69_eq (hC:Cv C) (k a K):p4_69 C k a K =
 bif a then K false true else K false false:=hC.t (by kernel_rfl)
theorem as69 (S:SP G ng) {A:Yq24} (hA:Lq24 A (run69 cut0 big)):FnP G ng 69 (yq24 A):=xq24 S (l:=gam69) mn func69 (by kernel_rfl) hA
end
def lvs71:Lv
 | 194=>kk [0,26]
 | 385=>kk [0,4]
 | _=>none
section
variable (C:Cu) (N113:Yq11) (N114:Yq15) (N115:Yq32)
def gam71:List (Nat × Fn1):=[(113,yq11 N113),(114,yq15 N114),(115,yq32 N115)]
def run71 (k:Nat) (a:BY) (K:Zq9):Oo:=runK prog (lookG (gam71 N113 N114 N115)) 9 lvs71 C k f71 none [.s (.str a)] (zq9 K)
def p1_71 (k:Nat) (a:BY) (b:Bool) (K:Zq9):Oo:=C 194 ([sv a]++us 25++[bv b]++us 21) (aK (gam71 N113 N114 N115) 9 lvs71 C k f71 none (zq9 K) [1,0,1])
def p2_71 (k:Nat) (a:BY) (b:Int) (K:Zq9):Oo:=C 385 ([sv a,.u,.u,.u,iv b]++us 43) (aK (gam71 N113 N114 N115) 9 lvs71 C k f71 none (zq9 K) [1,0,1,0,1,1])
theorem run71_eq (k:Nat) (a:BY) (K:Zq9):run71 C N113 N114 N115 k a K =
 bif decide ((a.length:Int) > 2) then (at? a 0).bind fun b1=>bif (b1.toNat:Int)==48 then (at? a 1).bind fun b2=>bif (b2.toNat:Int)==111 then p1_71 C N113 N114 N115 k a true K else (at? a 1).bind fun b3=>p1_71 C N113 N114 N115 k a ((b3.toNat:Int)==120) K else p1_71 C N113 N114 N115 k a false K else p1_71 C N113 N114 N115 k a false K:=by kernel_rfl
theorem p1_71_eq (hC:Cv C) (k a b K):p1_71 C N113 N114 N115 k a b K =
 bif b then (at? a 1).bind fun b4=>bif (b4.toNat:Int)==120 then p2_71 C N113 N114 N115 k a 16 K else p2_71 C N113 N114 N115 k a 8 K else N114 a fun r5 r6=>N115 r6 r5 fun r7=>K r7 (!(r7==[])):=hC.t (by kernel_rfl)
theorem p2_71_eq (hC:Cv C) (k a b K):p2_71 C N113 N114 N115 k a b K =
 (cut a (some (2:Int)) none).bind fun s8=>N113 s8 b fun r9=>K r9 (!(r9==[])):=hC.t (by kernel_rfl)
variable {N113 N114 N115}
theorem as71 (S:SP G ng) (h113:FnP G ng 113 (yq11 N113)) (h114:FnP G ng 114 (yq15 N114)) (h115:FnP G ng 115 (yq32 N115)) {A:Yq15} (hA:Lq15 A (run71 cut0 N113 N114 N115 big)):FnP G ng 71 (yq15 A):=xq15 S (l:=gam71 N113 N114 N115) (mc h113 (mc h114 (mc h115 mn))) func71 (by kernel_rfl) hA
end
def lvs72:Lv
 | 258=>kk [4,5,27]
 | 450=>kk [4,5,6,7,8]
 | 577=>kk [5,6,7,8]
 | 1026=>kk [4,5,57]
 | _=>none
section
variable (C:Cu) (N113:Yq11) (N114:Yq15) (N115:Yq32) (N116:Yq55) (N117:Yq15)
def gam72:List (Nat × Fn1):=[(113,yq11 N113),(114,yq15 N114),(115,yq32 N115),(116,yq55 N116),(117,yq15 N117)]
def run72 (k:Nat) (a:BY) (K:Zq23):Oo:=runK prog (lookG (gam72 N113 N114 N115 N116 N117)) 4 lvs72 C k f72 none [.s (.str a)] (zq23 K)
def p1_72 (k:Nat) (a:BY) (b d:Bool) (K:Zq23):Oo:=C 258 ([.u,.u,.u,.u,sv a,bv b]++us 21++[bv d]++us 60) (aK (gam72 N113 N114 N115 N116 N117) 4 lvs72 C k f72 none (zq23 K) [1,1,0,1])
def p2_72 (k:Nat) (a:BY) (b:Bool) (d:Int) (f:BY) (g:Int) (K:Zq23):Oo:=C 450 ([.u,.u,.u,.u,sv a,bv b,iv d,sv f,iv g]++us 79) (aK (gam72 N113 N114 N115 N116 N117) 4 lvs72 C k f72 none (zq23 K) [1,1,0,1,0,1,1])
def p3_72 (k:Nat) (a:BY) (b d:Bool) (K:Zq23):Oo:=C 1026 ([.u,.u,.u,.u,sv a,bv b]++us 51++[bv d]++us 30) (aK (gam72 N113 N114 N115 N116 N117) 4 lvs72 C k f72 none (zq23 K) [1,1,1,0,0,1,1,1])
def p4_72 (k:Nat) (a:Bool) (b:Int) (d:BY) (f:Int) (K:Zq23):Oo:=C 577 ([.u,.u,.u,.u,.u,bv a,iv b,sv d,iv f]++us 79) (aK (gam72 N113 N114 N115 N116 N117) 4 lvs72 C k f72 none (zq23 K) [1,1,0,1,0,1,1,1])
theorem run72_eq (k:Nat) (a:BY) (K:Zq23):run72 C N113 N114 N115 N116 N117 k a K =
 N114 a fun r1 r2=>bif decide ((r1.length:Int) ≥ 2) then (at? r1 0).bind fun b3=>p1_72 C N113 N114 N115 N116 N117 k r1 r2 ((b3.toNat:Int)==48) K else p1_72 C N113 N114 N115 N116 N117 k r1 r2 false K:=by kernel_rfl
theorem p1_72_eq (hC:Cv C) (k a b d K):p1_72 C N113 N114 N115 N116 N117 k a b d K =
 bif d then (cut a (some (1:Int)) none).bind fun s4=>(at? a 1).bind fun b5=>bif (b5.toNat:Int)==98 then (cut a (some (2:Int)) none).bind fun s6=>p2_72 C N113 N114 N115 N116 N117 k a b 2 s6 1 K else p2_72 C N113 N114 N115 N116 N117 k a b 8 s4 3 K else bif a==[48] then K [48] 4 else bif a==[] then p3_72 C N113 N114 N115 N116 N117 k a b true K else (at? a 0).bind fun b7=>bif decide ((b7.toNat:Int)<49) then p3_72 C N113 N114 N115 N116 N117 k a b true K else (at? a 0).bind fun b8=>p3_72 C N113 N114 N115 N116 N117 k a b (decide ((b8.toNat:Int) > 57)) K:=hC.t (by kernel_rfl)
theorem p2_72_eq (hC:Cv C) (k a b d f g K):p2_72 C N113 N114 N115 N116 N117 k a b d f g K =
 (at? a 1).bind fun b9=>bif (b9.toNat:Int)==120 then (cut a (some (2:Int)) none).bind fun s10=>p4_72 C N113 N114 N115 N116 N117 k b 16 s10 2 K else p4_72 C N113 N114 N115 N116 N117 k b d f g K:=hC.t (by kernel_rfl)
theorem p3_72_eq (hC:Cv C) (k a b d K):p3_72 C N113 N114 N115 N116 N117 k a b d K =
 bif d then K [] 0 else N116 a 10 fun r11 r12=>bif r12 then N115 b r11 fun r13=>K r13 5 else N117 a fun r14 r15=>bif r15 then N115 b r14 fun r16=>K r16 6 else K [] 0:=hC.t (by kernel_rfl)
theorem p4_72_eq (hC:Cv C) (k a b d f K):p4_72 C N113 N114 N115 N116 N117 k a b d f K =
 N116 d b fun r17 r18=>bif !r18 then K [] 0 else N113 r17 b fun r19=>N115 a r19 fun r20=>K r20 f:=hC.t (by kernel_rfl)
variable {N113 N114 N115 N116 N117}
theorem as72 (S:SP G ng) (h113:FnP G ng 113 (yq11 N113)) (h114:FnP G ng 114 (yq15 N114)) (h115:FnP G ng 115 (yq32 N115)) (h116:FnP G ng 116 (yq55 N116)) (h117:FnP G ng 117 (yq15 N117)) {A:Yq53} (hA:Lq53 A (run72 cut0 N113 N114 N115 N116 N117 big)):FnP G ng 72 (yq53 A):=xq53 S (l:=gam72 N113 N114 N115 N116 N117) (mc h113 (mc h114 (mc h115 (mc h116 (mc h117 mn))))) func72 (by kernel_rfl) hA
end
def lvs73:Lv
 | 898=>kk [2,6,7,10,11,12,65]
 | 1153=>kk [2,6,7,10,11,12]
 | 1000643=>kk [2,6,7,10]
 | 1000963=>kk [2,6,7,10,11,13]
 | _=>none
section
variable (C:Cu) (N71:Yq15) (N92:Yq20) (N114:Yq15) (N118:Yq56) (N119:Yq57) (N120:Yq34)
def gam73:List (Nat × Fn1):=[(71,yq15 N71),(92,yq20 N92),(114,yq15 N114),(118,yq56 N118),(119,yq57 N119),(120,yq34 N120)]
def run73 (k:Nat) (a:BY) (K:Zq15):Oo:=runK prog (lookG (gam73 N71 N92 N114 N118 N119 N120)) 4 lvs73 C k f73 none [.s (.str a)] (zq15 K)
def l1_73 (k j0:Nat) (a:Int) (b:Bool) (d f g:BY) (i:Bool) (l:Int) (K:Zq15):Oo:=C 1000643 ([.u,.u,.box 91 (.ss [si a,.bool b,.str d,.str f]),.u,.u,.u,sv g,bv i,.u,.u,iv l]++us 92) (hK (gam73 N71 N92 N114 N118 N119 N120) 4 lvs73 C k f73 none (zq15 K) j0 [1,1,1,1,1,0,0])
def p2_73 (k:Nat) (a:Int) (b:Bool) (d f g:BY) (i:Bool) (l:Int) (m o:BY) (p:Bool) (K:Zq15):Oo:=C 898 ([.u,.u,.box 91 (.ss [si a,.bool b,.str d,.str f]),.u,.u,.u,sv g,bv i,.u,.u,iv l,sv m,sv o]++us 52++[bv p]++us 37) (aK (gam73 N71 N92 N114 N118 N119 N120) 4 lvs73 C k f73 none (zq15 K) [1,1,1,1,1,1,1,0,1])
def l3_73 (k j0:Nat) (a:Int) (b:Bool) (d f g:BY) (i:Bool) (l:Int) (m:BY) (o:Int) (K:Zq15):Oo:=C 1000963 ([.u,.u,.box 91 (.ss [si a,.bool b,.str d,.str f]),.u,.u,.u,sv g,bv i,.u,.u,iv l,sv m,.u,iv o]++us 89) (hK (gam73 N71 N92 N114 N118 N119 N120) 4 lvs73 C k f73 none (zq15 K) j0 [1,1,1,1,1,1,1,0,1,0,1,0,0])
def p4_73 (k:Nat) (a:Int) (b:Bool) (d f g:BY) (i:Bool) (l:Int) (m o:BY) (K:Zq15):Oo:=C 1153 ([.u,.u,.box 91 (.ss [si a,.bool b,.str d,.str f]),.u,.u,.u,sv g,bv i,.u,.u,iv l,sv m,sv o]++us 90) (aK (gam73 N71 N92 N114 N118 N119 N120) 4 lvs73 C k f73 none (zq15 K) [1,1,1,1,1,1,1,1])
theorem run73_eq (k:Nat) (a:BY) (K:Zq15):run73 C N71 N92 N114 N118 N119 N120 k a K =
 N71 a fun r1 r2=>bif r2 then K 0 false [] [] false else N114 a fun r3 r4=>N118 r3 r4 (decide ((r3.length:Int)<(a.length:Int))) fun r5 r6 r7 r8 r9=>bif r9 then K r5 r6 r7 r8 true else l1_73 C N71 N92 N114 N118 N119 N120 k k 0 false [] [] r3 r4 0 K:=by kernel_rfl
theorem l1_73_eq (hC:Cv C) (k j0 a b d f g i l K):l1_73 C N71 N92 N114 N118 N119 N120 k (j0+1) a b d f g i l K =
 bif decide (l<(g.length:Int)) then (at? g l).bind fun b10=>N92 (b10.toNat:Int) fun r11=>bif r11 then l1_73 C N71 N92 N114 N118 N119 N120 k j0 a b d f g i (i64.wrap (l+1)) K else (cut g none (some l)).bind fun s12=>bif decide (l<(g.length:Int)) then (at? g l).bind fun b13=>p2_73 C N71 N92 N114 N118 N119 N120 k a b d f g i l s12 [] ((b13.toNat:Int)==46) K else p2_73 C N71 N92 N114 N118 N119 N120 k a b d f g i l s12 [] false K else (cut g none (some l)).bind fun s14=>bif decide (l<(g.length:Int)) then (at? g l).bind fun b15=>p2_73 C N71 N92 N114 N118 N119 N120 k a b d f g i l s14 [] ((b15.toNat:Int)==46) K else p2_73 C N71 N92 N114 N118 N119 N120 k a b d f g i l s14 [] false K:=hC.t (by kernel_rfl)
theorem p2_73_eq (hC:Cv C) (k a b d f g i l m o p K):p2_73 C N71 N92 N114 N118 N119 N120 k a b d f g i l m o p K =
 bif p then l3_73 C N71 N92 N114 N118 N119 N120 k k a b d f g i l m (i64.wrap (l+1)) K else p4_73 C N71 N92 N114 N118 N119 N120 k a b d f g i l m o K:=hC.t (by kernel_rfl)
theorem l3_73_eq (hC:Cv C) (k j0 a b d f g i l m o K):l3_73 C N71 N92 N114 N118 N119 N120 k (j0+1) a b d f g i l m o K =
 bif decide (o<(g.length:Int)) then (at? g o).bind fun b16=>N92 (b16.toNat:Int) fun r17=>bif r17 then l3_73 C N71 N92 N114 N118 N119 N120 k j0 a b d f g i l m (i64.wrap (o+1)) K else (cut g (some (i64.wrap (l+1))) (some o)).bind fun s18=>p4_73 C N71 N92 N114 N118 N119 N120 k a b d f g i o m s18 K else (cut g (some (i64.wrap (l+1))) (some o)).bind fun s19=>p4_73 C N71 N92 N114 N118 N119 N120 k a b d f g i o m s19 K:=hC.t (by kernel_rfl)
theorem p4_73_eq (hC:Cv C) (k a b d f g i l m o K):p4_73 C N71 N92 N114 N118 N119 N120 k a b d f g i l m o K =
 (cut g (some l) none).bind fun s20=>N119 s20 true fun r21 r22=>bif !r22 then K 0 false [] [] false else N120 i m o r21 fun r23 r24 r25 r26 r27=>K r23 r24 r25 r26 r27:=hC.t (by kernel_rfl)
variable {N71 N92 N114 N118 N119 N120}
theorem as73 (S:SP G ng) (h71:FnP G ng 71 (yq15 N71)) (h92:FnP G ng 92 (yq20 N92)) (h114:FnP G ng 114 (yq15 N114)) (h118:FnP G ng 118 (yq56 N118)) (h119:FnP G ng 119 (yq57 N119)) (h120:FnP G ng 120 (yq34 N120)) {A:Yq28} (hA:Lq28 A (run73 cut0 N71 N92 N114 N118 N119 N120 big)):FnP G ng 73 (yq28 A):=xq28 S (l:=gam73 N71 N92 N114 N118 N119 N120) (mc h71 (mc h92 (mc h114 (mc h118 (mc h119 (mc h120 mn)))))) func73 (by kernel_rfl) hA
end
def lvs75:Lv
 | 1665=>kk [2,5,8,9,10,11,12,13,15,16,18]
 | 1730=>kk [2,5,8,11,12,13,15,16,123]
 | 1794=>kk [2,5,8,11,12,13,15,16]
 | 1858=>kk [2,5,11,13,15,16,130]
 | 1000707=>kk [2,4,5,8,9,10]
 | _=>none
section
variable (C:Cu) (N92:Yq20) (N114:Yq15) (N116:Yq55) (N117:Yq15) (N118:Yq56) (N119:Yq57) (N120:Yq34) (N122:Yq13)
def gam75:List (Nat × Fn1):=[(92,yq20 N92),(114,yq15 N114),(116,yq55 N116),(117,yq15 N117),(118,yq56 N118),(119,yq57 N119),(120,yq34 N120),(122,yq13 N122)]
def run75 (k:Nat) (a:BY) (K:Zq24):Oo:=runK prog (lookG (gam75 N92 N114 N116 N117 N118 N119 N120 N122)) 4 lvs75 C k f75 none [.s (.str a)] (zq24 K)
def l1_75 (k j0:Nat) (a:Int) (b:Bool) (d f g:BY) (i:Bool) (l:Int) (m:BY) (o:Int) (K:Zq24):Oo:=C 1000707 ([.u,.u,.box 91 (.ss [si a,.bool b,.str d,.str f]),.u,sv g,bv i,.u,.u,iv l,sv m,iv o]++us 131) (hK (gam75 N92 N114 N116 N117 N118 N119 N120 N122) 4 lvs75 C k f75 none (zq24 K) j0 [1,1,1,1,1,1,1,0,0])
def p2_75 (k:Nat) (a:Int) (b:Bool) (d f:BY) (g:Bool) (i:Int) (l:BY) (m:Int) (o:BY) (p:Bool) (q t:BY) (u:Int) (v:Bool) (K:Zq24):Oo:=C 1665 ([.u,.u,.box 91 (.ss [si a,.bool b,.str d,.str f]),.u,.u,bv g,.u,.u,iv i,sv l,iv m,sv o,bv p,sv q,.u,sv t,iv u,.u,bv v]++us 123) (aK (gam75 N92 N114 N116 N117 N118 N119 N120 N122) 4 lvs75 C k f75 none (zq24 K) [1,1,1,1,1,1,1,1,1,1,1,1,0,1,0,1,1,1,1])
def p3_75 (k:Nat) (a:Int) (b:Bool) (d f:BY) (g:Bool) (i:Int) (l:BY) (m:Bool) (o p:BY) (q:Int) (K:Zq24):Oo:=C 1794 ([.u,.u,.box 91 (.ss [si a,.bool b,.str d,.str f]),.u,.u,bv g,.u,.u,iv i,.u,.u,sv l,bv m,sv o,.u,sv p,iv q]++us 125) (aK (gam75 N92 N114 N116 N117 N118 N119 N120 N122) 4 lvs75 C k f75 none (zq24 K) [1,1,1,1,1,1,1,1,1,1,1,1,1])
def p4_75 (k:Nat) (a:Int) (b:Bool) (d f:BY) (g:Bool) (i:Int) (l:BY) (m:Bool) (o p:BY) (q:Int) (t:Bool) (K:Zq24):Oo:=C 1730 ([.u,.u,.box 91 (.ss [si a,.bool b,.str d,.str f]),.u,.u,bv g,.u,.u,iv i,.u,.u,sv l,bv m,sv o,.u,sv p,iv q]++us 106++[bv t]++us 18) (aK (gam75 N92 N114 N116 N117 N118 N119 N120 N122) 4 lvs75 C k f75 none (zq24 K) [1,1,1,1,1,1,1,1,1,1,1,1,0,1,0,1,1,1,1,1])
def p5_75 (k:Nat) (a:Int) (b:Bool) (d f:BY) (g:Bool) (i l m:BY) (o:Int) (p:Bool) (K:Zq24):Oo:=C 1858 ([.u,.u,.box 91 (.ss [si a,.bool b,.str d,.str f]),.u,.u,bv g,.u,.u,.u,.u,.u,sv i,.u,sv l,.u,sv m,iv o]++us 113++[bv p]++us 11) (aK (gam75 N92 N114 N116 N117 N118 N119 N120 N122) 4 lvs75 C k f75 none (zq24 K) [1,1,1,1,1,1,1,1,1,1,1,1,1,0,1])
theorem run75_eq (k:Nat) (a:BY) (K:Zq24):run75 C N92 N114 N116 N117 N118 N119 N120 N122 k a K =
 N114 a fun r1 r2=>N118 r1 r2 (decide ((r1.length:Int)<(a.length:Int))) fun r3 r4 r5 r6 r7=>bif r7 then K r3 r4 r5 r6 (i64.wrap ((i64.wrap ((4:Int)+r3)) - 1)) else N122 r1 46 fun r8=>bif decide (r8<0) then K 0 false [] [] 0 else (cut r1 (some (i64.wrap (r8+1))) none).bind fun s9=>l1_75 C N92 N114 N116 N117 N118 N119 N120 N122 k k 0 false [] [] r1 r2 r8 s9 0 K:=by kernel_rfl
theorem l1_75_eq (hC:Cv C) (k j0 a b d f g i l m o K):l1_75 C N92 N114 N116 N117 N118 N119 N120 N122 k (j0+1) a b d f g i l m o K =
 bif decide (o<(m.length:Int)) then (at? m o).bind fun b10=>N92 (b10.toNat:Int) fun r11=>bif r11 then l1_75 C N92 N114 N116 N117 N118 N119 N120 N122 k j0 a b d f g i l m (i64.wrap (o+1)) K else (at? m o).bind fun b12=>bif (b12.toNat:Int)==95 then l1_75 C N92 N114 N116 N117 N118 N119 N120 N122 k j0 a b d f g i l m (i64.wrap (o+1)) K else (cut m none (some o)).bind fun s13=>N116 s13 10 fun r14 r15=>(cut m (some o) none).bind fun s16=>N119 s16 false fun r17 r18=>bif !r18 then K 0 false [] [] 0 else bif decide (l > 0) then (at? g 0).bind fun b19=>N92 (b19.toNat:Int) fun r20=>bif !r20 then K 0 false [] [] 0 else (cut g none (some l)).bind fun s21=>N116 s21 10 fun r22 r23=>bif !r23 then (cut g none (some l)).bind fun s24=>N117 s24 fun r25 r26=>p2_75 C N92 N114 N116 N117 N118 N119 N120 N122 k a b d f i l m o r14 r15 r17 r25 3 r26 K else p2_75 C N92 N114 N116 N117 N118 N119 N120 N122 k a b d f i l m o r14 r15 r17 r22 1 r23 K else p3_75 C N92 N114 N116 N117 N118 N119 N120 N122 k a b d f i l r14 r15 r17 [] 2 K else (cut m none (some o)).bind fun s27=>N116 s27 10 fun r28 r29=>(cut m (some o) none).bind fun s30=>N119 s30 false fun r31 r32=>bif !r32 then K 0 false [] [] 0 else bif decide (l > 0) then (at? g 0).bind fun b33=>N92 (b33.toNat:Int) fun r34=>bif !r34 then K 0 false [] [] 0 else (cut g none (some l)).bind fun s35=>N116 s35 10 fun r36 r37=>bif !r37 then (cut g none (some l)).bind fun s38=>N117 s38 fun r39 r40=>p2_75 C N92 N114 N116 N117 N118 N119 N120 N122 k a b d f i l m o r28 r29 r31 r39 3 r40 K else p2_75 C N92 N114 N116 N117 N118 N119 N120 N122 k a b d f i l m o r28 r29 r31 r36 1 r37 K else p3_75 C N92 N114 N116 N117 N118 N119 N120 N122 k a b d f i l r28 r29 r31 [] 2 K:=hC.t (by kernel_rfl)
theorem p2_75_eq (hC:Cv C) (k a b d f g i l m o p q t u v K):p2_75 C N92 N114 N116 N117 N118 N119 N120 N122 k a b d f g i l m o p q t u v K =
 bif !v then p4_75 C N92 N114 N116 N117 N118 N119 N120 N122 k a b d f g i o p q t u true K else bif u==3 then p4_75 C N92 N114 N116 N117 N118 N119 N120 N122 k a b d f g i o p q t u (decide (m<(l.length:Int))) K else p4_75 C N92 N114 N116 N117 N118 N119 N120 N122 k a b d f g i o p q t u false K:=hC.t (by kernel_rfl)
theorem p3_75_eq (hC:Cv C) (k a b d f g i l m o p q K):p3_75 C N92 N114 N116 N117 N118 N119 N120 N122 k a b d f g i l m o p q K =
 bif i==0 then p5_75 C N92 N114 N116 N117 N118 N119 N120 N122 k a b d f g l o p q (!m) K else p5_75 C N92 N114 N116 N117 N118 N119 N120 N122 k a b d f g l o p q false K:=hC.t (by kernel_rfl)
theorem p4_75_eq (hC:Cv C) (k a b d f g i l m o p q t K):p4_75 C N92 N114 N116 N117 N118 N119 N120 N122 k a b d f g i l m o p q t K =
 bif t then K 0 false [] [] 0 else p3_75 C N92 N114 N116 N117 N118 N119 N120 N122 k a b d f g i l m o p q K:=hC.t (by kernel_rfl)
theorem p5_75_eq (hC:Cv C) (k a b d f g i l m o p K):p5_75 C N92 N114 N116 N117 N118 N119 N120 N122 k a b d f g i l m o p K =
 bif p then K 0 false [] [] 0 else N120 g m i l fun r41 r42 r43 r44 r45=>K r41 r42 r43 r44 o:=hC.t (by kernel_rfl)
variable {N92 N114 N116 N117 N118 N119 N120 N122}
theorem as75 (S:SP G ng) (h92:FnP G ng 92 (yq20 N92)) (h114:FnP G ng 114 (yq15 N114)) (h116:FnP G ng 116 (yq55 N116)) (h117:FnP G ng 117 (yq15 N117)) (h118:FnP G ng 118 (yq56 N118)) (h119:FnP G ng 119 (yq57 N119)) (h120:FnP G ng 120 (yq34 N120)) (h122:FnP G ng 122 (yq13 N122)) {A:Yq54} (hA:Lq54 A (run75 cut0 N92 N114 N116 N117 N118 N119 N120 N122 big)):FnP G ng 75 (yq54 A):=xq54 S (l:=gam75 N92 N114 N116 N117 N118 N119 N120 N122) (mc h92 (mc h114 (mc h116 (mc h117 (mc h118 (mc h119 (mc h120 (mc h122 mn)))))))) func75 (by kernel_rfl) hA
end
def lvs114:Lv
 | 194=>kk [0,16]
 | _=>none
section
variable (C:Cu)
def gam114:List (Nat × Fn1):=[]
def run114 (k:Nat) (a:BY) (K:Zq9):Oo:=runK prog (lookG (gam114)) 4 lvs114 C k f114 none [.s (.str a)] (zq9 K)
def p1_114 (k:Nat) (a:BY) (b:Bool) (K:Zq9):Oo:=C 194 ([sv a]++us 15++[bv b]++us 6) (aK gam114 4 lvs114 C k f114 none (zq9 K) [1,0,1])
theorem run114_eq (k:Nat) (a:BY) (K:Zq9):run114 C k a K =
 bif decide ((a.length:Int) > 0) then (at? a 0).bind fun b1=>bif (b1.toNat:Int)==43 then p1_114 C k a true K else (at? a 0).bind fun b2=>p1_114 C k a ((b2.toNat:Int)==45) K else p1_114 C k a false K:=by kernel_rfl
theorem p1_114_eq (hC:Cv C) (k a b K):p1_114 C k a b K =
 bif b then (cut a (some (1:Int)) none).bind fun s3=>(at? a 0).bind fun b4=>K s3 ((b4.toNat:Int)==45) else K a false:=hC.t (by kernel_rfl)
theorem as114 (S:SP G ng) {A:Yq15} (hA:Lq15 A (run114 cut0 big)):FnP G ng 114 (yq15 A):=xq15 S (l:=gam114) mn func114 (by kernel_rfl) hA
end
def lvs116:Lv
 | 320 | 1000259=>some [(0,.k),(1,.k),(6,.o (.ints .u8 [])),(7,.k)]
 | _=>none
section
variable (C:Cu) (N90:Yq35)
def gam116:List (Nat × Fn1):=[(90,yq35 N90)]
def run116 (k:Nat) (a:BY) (b:Int) (K:Zq9):Oo:=runK prog (lookG (gam116 N90)) 8 lvs116 C k f116 none [.s (.str a),.s (.int .i64 b)] (zq9 K)
def l1_116 (k j0:Nat) (a:BY) (b:Int) (d:List Int) (f:Int) (K:Zq9):Oo:=C 1000259 ([sv a,iv b,.u,.u,.u,.u,.c (.own (.ints .u8 d)),iv f]++us 27) (hK (gam116 N90) 8 lvs116 C k f116 none (zq9 K) j0 [1,1,0,1,0])
def p2_116 (k j0:Nat) (a:BY) (b:Int) (d:List Int) (f:Int) (K:Zq9):Oo:=C 320 ([sv a,iv b,.u,.u,.u,.u,.c (.own (.ints .u8 d)),iv f]++us 27) (aK (gam116 N90) 8 lvs116 C k f116 none (zq9 K) [1,1,0,1,0,j0,1,1])
theorem run116_eq (k:Nat) (a:BY) (b:Int) (K:Zq9):run116 C N90 k a b K =
 l1_116 C N90 k k a b ([]:List Int) 0 K:=by kernel_rfl
theorem l1_116_eq (hC:Cv C) (k j0 a b d f K):l1_116 C N90 k (j0+1) a b d f K =
 bif decide (f<(a.length:Int)) then (at? a f).bind fun b1=>bif (b1.toNat:Int)==95 then p2_116 C N90 k j0 a b d f K else (at? a f).bind fun b2=>N90 (b2.toNat:Int) fun r3=>bif decide (r3 ≥ b) then K [] false else (at? a f).bind fun b4=>bif decide ((d++([(b4.toNat:Int)]:List Int)).length≤1099511627776) then p2_116 C N90 k j0 a b (d++([(b4.toNat:Int)]:List Int)) f K else none else K (d.map fun n=>UInt8.ofNat n.toNat) (decide ((d.length:Int) > 0)):=hC.t (by kernel_rfl)
theorem p2_116_eq (hC:Cv C) (k j0 a b d f K):p2_116 C N90 k j0 a b d f K =
 l1_116 C N90 k j0 a b d (i64.wrap (f+1)) K:=hC.t (by kernel_rfl)
variable {N90}
theorem as116 (S:SP G ng) (h90:FnP G ng 90 (yq35 N90)) {A:Yq55} (hA:Lq55 A (run116 cut0 N90 big)):FnP G ng 116 (yq55 A):=xq55 S (l:=gam116 N90) (mc h90 mn) func116 (by kernel_rfl) hA
end
def lvs117:Lv
 | 258=>kk [0,4,21]
 | 897=>kk [0,4,7,8,9]
 | 1000579=>kk [0,4,7]
 | 1001219=>kk [0,4,7,8,9,10,11,54,55,56,59,60,61,62,66]
 | _=>none
section
variable (C:Cu) (N92:Yq20) (N115:Yq32) (N116:Yq55) (N122:Yq13) (N174:Yq25) (N175:Yq36)
def gam117:List (Nat × Fn1):=[(92,yq20 N92),(115,yq32 N115),(116,yq55 N116),(122,yq13 N122),(174,yq25 N174),(175,yq36 N175)]
def run117 (k:Nat) (a:BY) (K:Zq9):Oo:=runK prog (lookG (gam117 N92 N115 N116 N122 N174 N175)) 4 lvs117 C k f117 none [.s (.str a)] (zq9 K)
def p1_117 (k:Nat) (a:BY) (b:Int) (d:Bool) (K:Zq9):Oo:=C 258 ([sv a,.u,.u,.u,iv b]++us 16++[bv d]++us 68) (aK (gam117 N92 N115 N116 N122 N174 N175) 4 lvs117 C k f117 none (zq9 K) [1,1,0,1])
def l2_117 (k j0:Nat) (a:BY) (b:Int) (d:BY) (K:Zq9):Oo:=C 1000579 ([sv a,.u,.u,.u,iv b,.u,.u,sv d]++us 82) (hK (gam117 N92 N115 N116 N122 N174 N175) 4 lvs117 C k f117 none (zq9 K) j0 [1,1,1,1,1,1,0,0])
def p3_117 (k j0:Nat) (a:BY) (b:Int) (d f:BY) (g:Int) (K:Zq9):Oo:=C 897 ([sv a,.u,.u,.u,iv b,.u,.u,sv d,sv f,iv g]++us 80) (aK (gam117 N92 N115 N116 N122 N174 N175) 4 lvs117 C k f117 none (zq9 K) [1,1,1,1,1,1,0,0,j0,1,0,1,1,1])
def l4_117 (k j0 j1:Nat) (a:BY) (b:Int) (d f:BY) (g i l:Int) (m:BY) (o:Int) (p:Bool) (q:BY) (t:Int) (u v w:Bool) (K:Zq9):Oo:=C 1001219 ([sv a,.u,.u,.u,iv b,.u,.u,sv d,sv f,iv g,iv i,iv l]++us 42++[sv m,iv o,bv p,.u,.u,sv q,iv t,bv u,bv v,.u,.u,.u,bv w]++us 23) (hK (gam117 N92 N115 N116 N122 N174 N175) 4 lvs117 C k f117 none (zq9 K) j1 [1,1,1,1,1,1,0,0,j0,1,0,1,1,1,1,1,1,0,1,0])
theorem run117_eq (k:Nat) (a:BY) (K:Zq9):run117 C N92 N115 N116 N122 N174 N175 k a K =
 N122 a 58 fun r1=>bif decide (r1<1) then p1_117 C N92 N115 N116 N122 N174 N175 k a r1 true K else (at? a 0).bind fun b2=>N92 (b2.toNat:Int) fun r3=>p1_117 C N92 N115 N116 N122 N174 N175 k a r1 (!r3) K:=by kernel_rfl
theorem p1_117_eq (hC:Cv C) (k a b d K):p1_117 C N92 N115 N116 N122 N174 N175 k a b d K =
 bif d then K [] false else (cut a none (some b)).bind fun s4=>N116 s4 10 fun r5 r6=>bif !r6 then K [] false else N115 false r5 fun r7=>l2_117 C N92 N115 N116 N122 N174 N175 k k a b r7 K:=hC.t (by kernel_rfl)
theorem l2_117_eq (hC:Cv C) (k j0 a b d K):l2_117 C N92 N115 N116 N122 N174 N175 k (j0+1) a b d K =
 bif decide (b<(a.length:Int)) then (cut a (some (i64.wrap (b+1))) none).bind fun s8=>N122 s8 58 fun r9=>bif decide (r9<0) then p3_117 C N92 N115 N116 N122 N174 N175 k j0 a b d s8 (s8.length:Int) K else p3_117 C N92 N115 N116 N122 N174 N175 k j0 a b d s8 r9 K else K d true:=hC.t (by kernel_rfl)
theorem p3_117_eq (hC:Cv C) (k j0 a b d f g K):p3_117 C N92 N115 N116 N122 N174 N175 k j0 a b d f g K =
 (cut f none (some g)).bind fun s10=>N174 s10 fun r11=>bif !r11 then K [] false else bif decide ((s10.length:Int) > 2) then K [] false else bif (s10.length:Int)==2 then (at? s10 0).bind fun b12=>bif decide ((b12.toNat:Int) > 53) then K [] false else l4_117 C N92 N115 N116 N122 N174 N175 k j0 k a b d s10 g 0 0 s10 (s10.length:Int) (decide ((s10.length:Int) > 2)) s10 (s10.length:Int) ((s10.length:Int)==2) true (decide ((b12.toNat:Int) > 53)) K else l4_117 C N92 N115 N116 N122 N174 N175 k j0 k a b d s10 g 0 0 s10 (s10.length:Int) (decide ((s10.length:Int) > 2)) s10 (s10.length:Int) ((s10.length:Int)==2) false false K:=hC.t (by kernel_rfl)
theorem l4_117_eq (hC:Cv C) (k j0 j1 a b d f g i l m o p q t u v w K):l4_117 C N92 N115 N116 N122 N174 N175 k j0 (j1+1) a b d f g i l m o p q t u v w K =
 bif decide (l<(f.length:Int)) then (at? f l).bind fun b13=>l4_117 C N92 N115 N116 N122 N174 N175 k j0 j1 a b d f g (i64.wrap ((i64.wrap ((10:Int) * i))+(i64.wrap (u8.wrap ((b13.toNat:Int) - 48))))) (i64.wrap (l+1)) m o p q t u v w K else N175 d 60 i fun r14=>l2_117 C N92 N115 N116 N122 N174 N175 k j0 a (i64.wrap ((i64.wrap (b+1))+g)) r14 K:=hC.t (by kernel_rfl)
variable {N92 N115 N116 N122 N174 N175}
theorem as117 (S:SP G ng) (h92:FnP G ng 92 (yq20 N92)) (h115:FnP G ng 115 (yq32 N115)) (h116:FnP G ng 116 (yq55 N116)) (h122:FnP G ng 122 (yq13 N122)) (h174:FnP G ng 174 (yq25 N174)) (h175:FnP G ng 175 (yq36 N175)) {A:Yq15} (hA:Lq15 A (run117 cut0 N92 N115 N116 N122 N174 N175 big)):FnP G ng 117 (yq15 A):=xq15 S (l:=gam117 N92 N115 N116 N122 N174 N175) (mc h92 (mc h115 (mc h116 (mc h122 (mc h174 (mc h175 mn)))))) func117 (by kernel_rfl) hA
end
def lvs118:Lv
 | 386=>kk [1,2,6,8,9]
 | 642=>kk [2,6,15]
 | 769=>kk [6]
 | _=>none
section
variable (C:Cu)
def gam118:List (Nat × Fn1):=[]
def run118 (k:Nat) (a:BY) (b d:Bool) (K:Zq15):Oo:=runK prog (lookG (gam118)) 8 lvs118 C k f118 none [.s (.str a),.s (.bool b),.s (.bool d)] (zq15 K)
def p1_118 (k:Nat) (a b:Bool) (d:Int) (f:Bool) (g i l:BY) (m:Bool) (K:Zq15):Oo:=C 386 ([.u,bv a,bv b,.u,.u,.u,.box 91 (.ss [si d,.bool f,.str g,.str i]),.u,sv l,bv m]++us 13) (aK gam118 8 lvs118 C k f118 none (zq15 K) [1,0,1,0,1])
def p2_118 (k:Nat) (a:Bool) (b:Int) (d:Bool) (f g:BY) (i:Bool) (K:Zq15):Oo:=C 642 ([.u,.u,bv a,.u,.u,.u,.box 91 (.ss [si b,.bool d,.str f,.str g])]++us 8++[bv i]++us 7) (aK gam118 8 lvs118 C k f118 none (zq15 K) [1,0,1,0,1,1,1])
def p3_118 (k:Nat) (a:Int) (b:Bool) (d f:BY) (K:Zq15):Oo:=C 769 (us 6++[.box 91 (.ss [si a,.bool b,.str d,.str f])]++us 16) (aK gam118 8 lvs118 C k f118 none (zq15 K) [1,1])
theorem run118_eq (k:Nat) (a:BY) (b d:Bool) (K:Zq15):run118 C k a b d K =
 bif a==[46,105,110,102] then p1_118 C k b d 0 false [] [] a (a==[46,105,110,102]) K else bif a==[46,73,110,102] then p1_118 C k b d 0 false [] [] a (a==[46,73,110,102]) K else p1_118 C k b d 0 false [] [] a (a==[46,73,78,70]) K:=by kernel_rfl
theorem p1_118_eq (hC:Cv C) (k a b d f g i l m K):p1_118 C k a b d f g i l m K =
 bif m then K 1 a [] [] true else bif l==[46,110,97,110] then p2_118 C k b d f g i (l==[46,110,97,110]) K else bif l==[46,78,97,78] then p2_118 C k b d f g i (l==[46,78,97,78]) K else p2_118 C k b d f g i (l==[46,78,65,78]) K:=hC.t (by kernel_rfl)
theorem p2_118_eq (hC:Cv C) (k a b d f g i K):p2_118 C k a b d f g i K =
 bif i then bif !a then K 2 false [] [] true else p3_118 C k b d f g K else p3_118 C k b d f g K:=hC.t (by kernel_rfl)
theorem p3_118_eq (hC:Cv C) (k a b d f K):p3_118 C k a b d f K =
 K 0 false [] [] false:=hC.t (by kernel_rfl)
theorem as118 (S:SP G ng) {A:Yq56} (hA:Lq56 A (run118 cut0 big)):FnP G ng 118 (yq56 A):=xq56 S (l:=gam118) mn func118 (by kernel_rfl) hA
end
def lvs119:Lv
 | 322=>kk [0,1,17]
 | 514=>kk [6,7,38]
 | _=>none
section
variable (C:Cu) (N114:Yq15) (N115:Yq32) (N174:Yq25)
def gam119:List (Nat × Fn1):=[(114,yq15 N114),(115,yq32 N115),(174,yq25 N174)]
def run119 (k:Nat) (a:BY) (b:Bool) (K:Zq9):Oo:=runK prog (lookG (gam119 N114 N115 N174)) 8 lvs119 C k f119 none [.s (.str a),.s (.bool b)] (zq9 K)
def p1_119 (k:Nat) (a:BY) (b d:Bool) (K:Zq9):Oo:=C 322 ([sv a,bv b]++us 15++[bv d]++us 24) (aK (gam119 N114 N115 N174) 8 lvs119 C k f119 none (zq9 K) [1,1,0,1])
def p2_119 (k:Nat) (a:BY) (b d:Bool) (K:Zq9):Oo:=C 514 (us 6++[sv a,bv b]++us 30++[bv d,.u,.u,.u]) (aK (gam119 N114 N115 N174) 8 lvs119 C k f119 none (zq9 K) [1,1,1,1,0,1])
theorem run119_eq (k:Nat) (a:BY) (b:Bool) (K:Zq9):run119 C N114 N115 N174 k a b K =
 bif a==[] then K [48] true else (at? a 0).bind fun b1=>bif (b1.toNat:Int) != 101 then (at? a 0).bind fun b2=>p1_119 C N114 N115 N174 k a b ((b2.toNat:Int) != 69) K else p1_119 C N114 N115 N174 k a b false K:=by kernel_rfl
theorem p1_119_eq (hC:Cv C) (k a b d K):p1_119 C N114 N115 N174 k a b d K =
 bif d then K [] false else (cut a (some (1:Int)) none).bind fun s3=>N114 s3 fun r4 r5=>bif (r4.length:Int)==(i64.wrap ((a.length:Int) - 1)) then bif !b then p2_119 C N114 N115 N174 k r4 r5 true K else N174 r4 fun r6=>p2_119 C N114 N115 N174 k r4 r5 (!r6) K else N174 r4 fun r7=>p2_119 C N114 N115 N174 k r4 r5 (!r7) K:=hC.t (by kernel_rfl)
theorem p2_119_eq (hC:Cv C) (k a b d K):p2_119 C N114 N115 N174 k a b d K =
 bif d then K [] false else N115 b a fun r8=>K r8 true:=hC.t (by kernel_rfl)
variable {N114 N115 N174}
theorem as119 (S:SP G ng) (h114:FnP G ng 114 (yq15 N114)) (h115:FnP G ng 115 (yq32 N115)) (h174:FnP G ng 174 (yq25 N174)) {A:Yq57} (hA:Lq57 A (run119 cut0 N114 N115 N174 big)):FnP G ng 119 (yq57 A):=xq57 S (l:=gam119 N114 N115 N174) (mc h114 (mc h115 (mc h174 mn))) func119 (by kernel_rfl) hA
end
def lvs122:Lv
 | 1000195=>kk [0,1,5]
 | _=>none
section
variable (C:Cu)
def gam122:List (Nat × Fn1):=[]
def run122 (k:Nat) (a:BY) (b:Int) (K:Zq7):Oo:=runK prog (lookG (gam122)) 6 lvs122 C k f122 none [.s (.str a),.s (.int .u8 b)] (zq7 K)
def l1_122 (k j0:Nat) (a:BY) (b d:Int) (K:Zq7):Oo:=C 1000195 ([sv a,.c (.s (.int .u8 b)),.u,.u,.u,iv d]++us 12) (hK gam122 6 lvs122 C k f122 none (zq7 K) j0 [1,0,1,0])
theorem run122_eq (k:Nat) (a:BY) (b:Int) (K:Zq7):run122 C k a b K =
 l1_122 C k k a b 0 K:=by kernel_rfl
theorem l1_122_eq (hC:Cv C) (k j0 a b d K):l1_122 C k (j0+1) a b d K =
 bif decide (d<(a.length:Int)) then (at? a d).bind fun b1=>bif (b1.toNat:Int)==b then K d else l1_122 C k j0 a b (i64.wrap (d+1)) K else K (-1):=hC.t (by kernel_rfl)
theorem as122 (S:SP G ng) {A:Yq13} (hA:Lq13 A (run122 cut0 big)):FnP G ng 122 (yq13 A):=xq13 S (l:=gam122) mn func122 (by kernel_rfl) hA
end
def lvs128:Lv
 | 1000451=>some [(4,.k),(5,.o (.ints .u8 [])),(6,.k)]
 | 1000707=>kk [4,5,6,7,8,9]
 | _=>none
section
variable (C:Cu) (N129:Yq14) (N181:Yq35) (N182:Yq58)
def gam128:List (Nat × Fn1):=[(129,yq14 N129),(181,yq35 N181),(182,yq58 N182)]
def run128 (k:Nat) (a:BY) (K:Zq25):Oo:=runK prog (lookG (gam128 N129 N181 N182)) 4 lvs128 C k f128 none [.s (.str a)] (zq25 K)
def l1_128 (k j0:Nat) (a:BY) (b:List Int) (d:Int) (K:Zq25):Oo:=C 1000451 ([.u,.u,.u,.u,sv a,.c (.own (.ints .u8 b)),iv d]++us 81) (hK (gam128 N129 N181 N182) 4 lvs128 C k f128 none (zq25 K) j0 [1,1,1,1,0,1,0])
def l2_128 (k j0 j1:Nat) (a:BY) (b:List Int) (d f g i:Int) (K:Zq25):Oo:=C 1000707 ([.u,.u,.u,.u,sv a,.c (.own (.ints .u8 b)),iv d,iv f,iv g,iv i]++us 78) (hK (gam128 N129 N181 N182) 4 lvs128 C k f128 none (zq25 K) j1 [1,1,1,1,0,1,0,j0,1,0,0,1,0,1,0])
theorem run128_eq (k:Nat) (a:BY) (K:Zq25):run128 C N129 N181 N182 k a K =
 N129 a fun r1=>bif ((r1.length:Int).tmod 4) != 0 then K ([]:List Int) false else l1_128 C N129 N181 N182 k k r1 ([]:List Int) 0 K:=by kernel_rfl
theorem l1_128_eq (hC:Cv C) (k j0 a b d K):l1_128 C N129 N181 N182 k (j0+1) a b d K =
 bif decide (d<(a.length:Int)) then l2_128 C N129 N181 N182 k j0 k a b d 0 0 0 K else N182 b fun r2=>bif !(r2==a) then K ([]:List Int) false else K b true:=hC.t (by kernel_rfl)
theorem l2_128_eq (hC:Cv C) (k j0 j1 a b d f g i K):l2_128 C N129 N181 N182 k j0 (j1+1) a b d f g i K =
 bif decide (i<4) then (at? a (i64.wrap (d+i))).bind fun b3=>N181 (b3.toNat:Int) fun r4=>bif decide (r4<0) then (at? a (i64.wrap (d+i))).bind fun b5=>bif (b5.toNat:Int)==61 then bif (i64.wrap (d+4))==(a.length:Int) then bif decide (i ≥ 2) then l2_128 C N129 N181 N182 k j0 j1 a b d (i64.wrap ((i64.wrap (f * 64))+0)) (i64.wrap (g+1)) (i64.wrap (i+1)) K else bif decide (r4<0) then K ([]:List Int) false else bif decide (g > 0) then K ([]:List Int) false else l2_128 C N129 N181 N182 k j0 j1 a b d (i64.wrap ((i64.wrap (f * 64))+r4)) g (i64.wrap (i+1)) K else bif decide (r4<0) then K ([]:List Int) false else bif decide (g > 0) then K ([]:List Int) false else l2_128 C N129 N181 N182 k j0 j1 a b d (i64.wrap ((i64.wrap (f * 64))+r4)) g (i64.wrap (i+1)) K else bif decide (r4<0) then K ([]:List Int) false else bif decide (g > 0) then K ([]:List Int) false else l2_128 C N129 N181 N182 k j0 j1 a b d (i64.wrap ((i64.wrap (f * 64))+r4)) g (i64.wrap (i+1)) K else bif decide (r4<0) then K ([]:List Int) false else bif decide (g > 0) then K ([]:List Int) false else l2_128 C N129 N181 N182 k j0 j1 a b d (i64.wrap ((i64.wrap (f * 64))+r4)) g (i64.wrap (i+1)) K else bif decide ((b++([(u8.wrap (i64.wrap (f.tdiv 65536))),(u8.wrap (i64.wrap (f.tdiv 256))),(u8.wrap f)]:List Int)).length≤1099511627776) then (cutN (b++([(u8.wrap (i64.wrap (f.tdiv 65536))),(u8.wrap (i64.wrap (f.tdiv 256))),(u8.wrap f)]:List Int)).length none (some (i64.wrap (((b++([(u8.wrap (i64.wrap (f.tdiv 65536))),(u8.wrap (i64.wrap (f.tdiv 256))),(u8.wrap f)]:List Int)).length:Int) - g)))).bind fun p6=>l1_128 C N129 N181 N182 k j0 a (((b++([(u8.wrap (i64.wrap (f.tdiv 65536))),(u8.wrap (i64.wrap (f.tdiv 256))),(u8.wrap f)]:List Int)).drop 0).take p6.2) (i64.wrap (d+4)) K else none:=hC.t (by kernel_rfl)
variable {N129 N181 N182}
theorem as128 (S:SP G ng) (h129:FnP G ng 129 (yq14 N129)) (h181:FnP G ng 181 (yq35 N181)) (h182:FnP G ng 182 (yq58 N182)) {A:Yq59} (hA:Lq59 A (run128 cut0 N129 N181 N182 big)):FnP G ng 128 (yq59 A):=xq59 S (l:=gam128 N129 N181 N182) (mc h129 (mc h181 (mc h182 mn))) func128 (by kernel_rfl) hA
end
variable {G:World→Prop} {ng:Nat}
def lvs74:Lv
 | 323=>kk [1,3]
 | _=>none
section
variable (C:Cu) (N121:Yq43)
def gam74:List (Nat × Fn1):=[(121,yq43 N121)]
def run74 (k:Nat) (a:Int) (b:Bool) (d f:BY) (K:Zq1):Oo:=runK prog (lookG (gam74 N121)) 4 lvs74 C k f74 none [.agg (.ss [.int .i64 a,.bool b,.str d,.str f])] (zq1 K)
def p1_74 (k:Nat) (a:Int) (b:Bool) (d f g:BY) (K:Zq1):Oo:=C 323 ([.u,.box 91 (.ss [si a,.bool b,.str d,.str f]),.u,sv g]++us 36) (aK (gam74 N121) 4 lvs74 C k f74 none (zq1 K) [1,1,1])
theorem run74_eq (k:Nat) (a:Int) (b:Bool) (d f:BY) (K:Zq1):run74 C N121 k a b d f K =
 bif b then p1_74 C N121 k a b d f [45] K else p1_74 C N121 k a b d f [] K:=by kernel_rfl
theorem p1_74_eq (hC:Cv C) (k a b d f g K):p1_74 C N121 k a b d f g K =
 N121 a b d f fun r1=>bif !r1 then K [] else bif a==1 then (cat g [46,105,110,102]).bind fun s2=>K s2 else bif a==2 then K [46,110,97,110] else (at? f 0).bind fun b3=>bif (b3.toNat:Int) != 45 then (cat g d).bind fun s4=>(cat s4 [46,101,43]).bind fun s5=>(cat s5 f).bind fun s6=>K s6 else (cat g d).bind fun s7=>(cat s7 [46,101]).bind fun s8=>(cat s8 f).bind fun s9=>K s9:=hC.t (by kernel_rfl)
variable {N121}
theorem as74 (S:SP G ng) (h121:FnP G ng 121 (yq43 N121)) {A:Yq29} (hA:Lq29 A (run74 cut0 N121 big)):FnP G ng 74 (yq29 A):=xq29 S (l:=gam74 N121) (mc h121 mn) func74 (by kernel_rfl) hA
end
def lvs90:Lv
 | 194=>kk [0,3]
 | 322=>kk [0,13]
 | 450=>kk [0,24]
 | _=>none
section
variable (C:Cu)
def gam90:List (Nat × Fn1):=[]
def run90 (k:Nat) (a:Int) (K:Zq7):Oo:=runK prog (lookG (gam90)) 3 lvs90 C k f90 none [.s (.int .u8 a)] (zq7 K)
def p1_90 (k:Nat) (a:Int) (b:Bool) (K:Zq7):Oo:=C 194 ([.c (.s (.int .u8 a)),.u,.u,bv b]++us 31) (aK gam90 3 lvs90 C k f90 none (zq7 K) [1,0,0,1])
def p2_90 (k:Nat) (a:Int) (b:Bool) (K:Zq7):Oo:=C 322 ([.c (.s (.int .u8 a))]++us 12++[bv b]++us 21) (aK gam90 3 lvs90 C k f90 none (zq7 K) [1,0,0,1,1,1])
def p3_90 (k:Nat) (a:Int) (b:Bool) (K:Zq7):Oo:=C 450 ([.c (.s (.int .u8 a))]++us 23++[bv b]++us 10) (aK gam90 3 lvs90 C k f90 none (zq7 K) [1,0,0,1,1,1,1,1])
theorem run90_eq (k:Nat) (a:Int) (K:Zq7):run90 C k a K =
 bif decide (a ≥ 48) then p1_90 C k a (decide (a≤57)) K else p1_90 C k a false K:=by kernel_rfl
theorem p1_90_eq (hC:Cv C) (k a b K):p1_90 C k a b K =
 bif b then K (i64.wrap (u8.wrap (a - 48))) else bif decide (a ≥ 97) then p2_90 C k a (decide (a≤102)) K else p2_90 C k a false K:=hC.t (by kernel_rfl)
theorem p2_90_eq (hC:Cv C) (k a b K):p2_90 C k a b K =
 bif b then K (i64.wrap ((i64.wrap (u8.wrap (a - 97)))+10)) else bif decide (a ≥ 65) then p3_90 C k a (decide (a≤70)) K else p3_90 C k a false K:=hC.t (by kernel_rfl)
theorem p3_90_eq (hC:Cv C) (k a b K):p3_90 C k a b K =
 bif b then K (i64.wrap ((i64.wrap (u8.wrap (a - 65)))+10)) else K 99:=hC.t (by kernel_rfl)
theorem as90 (S:SP G ng) {A:Yq35} (hA:Lq35 A (run90 cut0 big)):FnP G ng 90 (yq35 A):=xq35 S (l:=gam90) mn func90 (by kernel_rfl) hA
end
def lvs113:Lv
 | 194=>kk [0,1,21]
 | 1000387=>kk [0,1,5,6]
 | _=>none
section
variable (C:Cu) (N90:Yq35) (N173:Yq36)
def gam113:List (Nat × Fn1):=[(90,yq35 N90),(173,yq36 N173)]
def run113 (k:Nat) (a:BY) (b:Int) (K:Zq1):Oo:=runK prog (lookG (gam113 N90 N173)) 8 lvs113 C k f113 none [.s (.str a),.s (.int .i64 b)] (zq1 K)
def p1_113 (k:Nat) (a:BY) (b:Int) (d:Bool) (K:Zq1):Oo:=C 194 ([sv a,iv b]++us 19++[bv d]++us 18) (aK (gam113 N90 N173) 8 lvs113 C k f113 none (zq1 K) [1,0,1])
def l2_113 (k j0:Nat) (a:BY) (b:Int) (d:BY) (f:Int) (K:Zq1):Oo:=C 1000387 ([sv a,iv b,.u,.u,.u,sv d,iv f]++us 33) (hK (gam113 N90 N173) 8 lvs113 C k f113 none (zq1 K) j0 [1,1,1,0,1,0])
theorem run113_eq (k:Nat) (a:BY) (b:Int) (K:Zq1):run113 C N90 N173 k a b K =
 bif b != 2 then bif b != 8 then bif b != 16 then p1_113 C N90 N173 k a b true K else p1_113 C N90 N173 k a b (a==[]) K else p1_113 C N90 N173 k a b (a==[]) K else p1_113 C N90 N173 k a b (a==[]) K:=by kernel_rfl
theorem p1_113_eq (hC:Cv C) (k a b d K):p1_113 C N90 N173 k a b d K =
 bif d then K [] else l2_113 C N90 N173 k k a b [48] 0 K:=hC.t (by kernel_rfl)
theorem l2_113_eq (hC:Cv C) (k j0 a b d f K):l2_113 C N90 N173 k (j0+1) a b d f K =
 bif decide (f<(a.length:Int)) then (at? a f).bind fun b1=>N90 (b1.toNat:Int) fun r2=>bif decide (r2 ≥ b) then K [] else N173 d b r2 fun r3=>l2_113 C N90 N173 k j0 a b r3 (i64.wrap (f+1)) K else K d:=hC.t (by kernel_rfl)
variable {N90 N173}
theorem as113 (S:SP G ng) (h90:FnP G ng 90 (yq35 N90)) (h173:FnP G ng 173 (yq36 N173)) {A:Yq11} (hA:Lq11 A (run113 cut0 N90 N173 big)):FnP G ng 113 (yq11 A):=xq11 S (l:=gam113 N90 N173) (mc h90 (mc h173 mn)) func113 (by kernel_rfl) hA
end
def lvs115:Lv
 | 578=>kk [6,30]
 | 1000323=>kk [0,1,5]
 | _=>none
section
variable (C:Cu) (N174:Yq25)
def gam115:List (Nat × Fn1):=[(174,yq25 N174)]
def run115 (k:Nat) (a:Bool) (b:BY) (K:Zq1):Oo:=runK prog (lookG (gam115 N174)) 7 lvs115 C k f115 none [.s (.bool a),.s (.str b)] (zq1 K)
def l1_115 (k j0:Nat) (a:Bool) (b:BY) (d:Int) (K:Zq1):Oo:=C 1000323 ([bv a,sv b,.u,.u,.u,iv d]++us 28) (hK (gam115 N174) 7 lvs115 C k f115 none (zq1 K) j0 [1,1,1,0,0])
def p2_115 (k:Nat) (a:BY) (b:Bool) (K:Zq1):Oo:=C 578 (us 6++[sv a]++us 23++[bv b,.u,.u,.u]) (aK (gam115 N174) 7 lvs115 C k f115 none (zq1 K) [1,1,1,1,1,0,1])
theorem run115_eq (k:Nat) (a:Bool) (b:BY) (K:Zq1):run115 C N174 k a b K =
 N174 b fun r1=>bif !r1 then K [] else l1_115 C N174 k k a b 0 K:=by kernel_rfl
theorem l1_115_eq (hC:Cv C) (k j0 a b d K):l1_115 C N174 k (j0+1) a b d K =
 bif decide (d<(i64.wrap ((b.length:Int) - 1))) then (at? b d).bind fun b2=>bif (b2.toNat:Int)==48 then l1_115 C N174 k j0 a b (i64.wrap (d+1)) K else (cut b (some d) none).bind fun s3=>bif a then p2_115 C N174 k s3 (!(s3==[48])) K else p2_115 C N174 k s3 false K else (cut b (some d) none).bind fun s4=>bif a then p2_115 C N174 k s4 (!(s4==[48])) K else p2_115 C N174 k s4 false K:=hC.t (by kernel_rfl)
theorem p2_115_eq (hC:Cv C) (k a b K):p2_115 C N174 k a b K =
 bif b then (cat [45] a).bind fun s5=>K s5 else K a:=hC.t (by kernel_rfl)
variable {N174}
theorem as115 (S:SP G ng) (h174:FnP G ng 174 (yq25 N174)) {A:Yq32} (hA:Lq32 A (run115 cut0 N174 big)):FnP G ng 115 (yq32 A):=xq32 S (l:=gam115 N174) (mc h174 mn) func115 (by kernel_rfl) hA
end
def lvs120:Lv
 | 194=>kk [0,1,2,3,8,21]
 | 1000387 | 1000579=>kk [0,2,3,8,10,11]
 | _=>none
section
variable (C:Cu) (N174:Yq25) (N176:Yq25) (N177:Yq11)
def gam120:List (Nat × Fn1):=[(174,yq25 N174),(176,yq25 N176),(177,yq11 N177)]
def run120 (k:Nat) (a:Bool) (b d f:BY) (K:Zq15):Oo:=runK prog (lookG (gam120 N174 N176 N177)) 10 lvs120 C k f120 none [.s (.bool a),.s (.str b),.s (.str d),.s (.str f)] (zq15 K)
def p1_120 (k:Nat) (a:Bool) (b d f:BY) (g:Int) (i:Bool) (l m:BY) (o:Bool) (K:Zq15):Oo:=C 194 ([bv a,sv b,sv d,sv f,.u,.u,.u,.u,.box 91 (.ss [si g,.bool i,.str l,.str m])]++us 12++[bv o]++us 45) (aK (gam120 N174 N176 N177) 10 lvs120 C k f120 none (zq15 K) [1,0,1])
def l2_120 (k j0:Nat) (a:Bool) (b d:BY) (f:Int) (g:Bool) (i l m:BY) (o:Int) (K:Zq15):Oo:=C 1000387 ([bv a,.u,sv b,sv d,.u,.u,.u,.u,.box 91 (.ss [si f,.bool g,.str i,.str l]),.u,sv m,iv o]++us 55) (hK (gam120 N174 N176 N177) 10 lvs120 C k f120 none (zq15 K) j0 [1,1,1,1,0,0])
def l3_120 (k j0:Nat) (a:Bool) (b d:BY) (f:Int) (g:Bool) (i l m:BY) (o:Int) (K:Zq15):Oo:=C 1000579 ([bv a,.u,sv b,sv d,.u,.u,.u,.u,.box 91 (.ss [si f,.bool g,.str i,.str l]),.u,sv m,iv o]++us 55) (hK (gam120 N174 N176 N177) 10 lvs120 C k f120 none (zq15 K) j0 [1,1,1,1,1,0,0])
theorem run120_eq (k:Nat) (a:Bool) (b d f:BY) (K:Zq15):run120 C N174 N176 N177 k a b d f K =
 (cat b d).bind fun s1=>N174 s1 fun r2=>bif !r2 then p1_120 C N174 N176 N177 k a b d f 0 false [] [] true K else N176 f fun r3=>p1_120 C N174 N176 N177 k a b d f 0 false [] [] (!r3) K:=by kernel_rfl
theorem p1_120_eq (hC:Cv C) (k a b d f g i l m o K):p1_120 C N174 N176 N177 k a b d f g i l m o K =
 bif o then K 0 false [] [] false else (cat b d).bind fun s4=>l2_120 C N174 N176 N177 k k a d f g i l m s4 0 K:=hC.t (by kernel_rfl)
theorem l2_120_eq (hC:Cv C) (k j0 a b d f g i l m o K):l2_120 C N174 N176 N177 k (j0+1) a b d f g i l m o K =
 bif decide ((m.length:Int) > 0) then (at? m (i64.wrap ((m.length:Int) - 1))).bind fun b5=>bif (b5.toNat:Int)==48 then (cut m none (some (i64.wrap ((m.length:Int) - 1)))).bind fun s6=>l2_120 C N174 N176 N177 k j0 a b d f g i l s6 (i64.wrap (o+1)) K else l3_120 C N174 N176 N177 k k a b d f g i l m o K else l3_120 C N174 N176 N177 k k a b d f g i l m o K:=hC.t (by kernel_rfl)
theorem l3_120_eq (hC:Cv C) (k j0 a b d f g i l m o K):l3_120 C N174 N176 N177 k (j0+1) a b d f g i l m o K =
 bif decide ((m.length:Int) > 0) then (at? m 0).bind fun b7=>bif (b7.toNat:Int)==48 then (cut m (some (1:Int)) none).bind fun s8=>l3_120 C N174 N176 N177 k j0 a b d f g i l s8 o K else bif m==[] then K 0 a [48] [48] true else N177 d (i64.wrap (o - (b.length:Int))) fun r9=>K 0 a m r9 true else bif m==[] then K 0 a [48] [48] true else N177 d (i64.wrap (o - (b.length:Int))) fun r10=>K 0 a m r10 true:=hC.t (by kernel_rfl)
variable {N174 N176 N177}
theorem as120 (S:SP G ng) (h174:FnP G ng 174 (yq25 N174)) (h176:FnP G ng 176 (yq25 N176)) (h177:FnP G ng 177 (yq11 N177)) {A:Yq34} (hA:Lq34 A (run120 cut0 N174 N176 N177 big)):FnP G ng 120 (yq34 A):=xq34 S (l:=gam120 N174 N176 N177) (mc h174 (mc h176 (mc h177 mn))) func120 (by kernel_rfl) hA
end
section
variable (C:Cu) (N174:Yq25) (N176:Yq25)
def gam121:List (Nat × Fn1):=[(174,yq25 N174),(176,yq25 N176)]
noncomputable def run121 (k:Nat) (a:Int) (b:Bool) (d f:BY) (K:Zq5):Oo:=runK prog (lookG (gam121 N174 N176)) 3 lv0 C k f121 none [.agg (.ss [.int .i64 a,.bool b,.str d,.str f])] (zq5 K)
theorem run121_eq (k:Nat) (a:Int) (b:Bool) (d f:BY) (K:Zq5):run121 C N174 N176 k a b d f K =
 bif a==0 then bif d==[48] then K (f==[48]) else N174 d fun r1=>bif r1 then (at? d 0).bind fun b2=>bif (b2.toNat:Int) != 48 then (at? d (i64.wrap ((d.length:Int) - 1))).bind fun b3=>bif (b3.toNat:Int) != 48 then N176 f fun r4=>K r4 else K false else K false else K false else bif a==1 then bif d==[] then K (f==[]) else K false else bif a==2 then bif d==[] then bif f==[] then K (!b) else K false else K false else K false:=by kernel_rfl
variable {N174 N176}
theorem as121 (S:SP G ng) (h174:FnP G ng 174 (yq25 N174)) (h176:FnP G ng 176 (yq25 N176)) {A:Yq43} (hA:Lq43 A (run121 cut0 N174 N176 big)):FnP G ng 121 (yq43 A):=xq43 S (l:=gam121 N174 N176) (mc h174 (mc h176 mn)) func121 (by kernel_rfl) hA
end
def lvs173:Lv
 | 1000323=>kk [0,1,7,8,9]
 | 1000707=>kk [7,8,10]
 | _=>none
section
variable (C:Cu) (N115:Yq32)
def gam173:List (Nat × Fn1):=[(115,yq32 N115)]
def run173 (k:Nat) (a:BY) (b d:Int) (K:Zq1):Oo:=runK prog (lookG (gam173 N115)) 11 lvs173 C k f173 none [.s (.str a),.s (.int .i64 b),.s (.int .i64 d)] (zq1 K)
def l1_173 (k j0:Nat) (a:BY) (b:Int) (d:List Int) (f g:Int) (K:Zq1):Oo:=C 1000323 ([sv a,iv b,.u,.u,.u,.u,.u,.c (.own (.ints .u8 d)),iv f,iv g]++us 47) (hK (gam173 N115) 11 lvs173 C k f173 none (zq1 K) j0 [1,1,1,0,1,0])
def l2_173 (k j0:Nat) (a:List Int) (b:Int) (d:BY) (K:Zq1):Oo:=C 1000707 (us 7++[.c (.own (.ints .u8 a)),iv b,.u,sv d]++us 46) (hK (gam173 N115) 11 lvs173 C k f173 none (zq1 K) j0 [1,1,1,1,1,0,0])
theorem run173_eq (k:Nat) (a:BY) (b d:Int) (K:Zq1):run173 C N115 k a b d K =
 bif decide (0≤(a.length:Int))&&decide ((a.length:Int)≤(a.length:Int))&&decide ((a.length:Int)≤1099511627776) then l1_173 C N115 k k a b (List.replicate (a.length:Int).toNat (0:Int)) d (i64.wrap ((a.length:Int) - 1)) K else none:=by kernel_rfl
theorem l1_173_eq (hC:Cv C) (k j0 a b d f g K):l1_173 C N115 k (j0+1) a b d f g K =
 bif decide (g ≥ 0) then (at? a g).bind fun b1=>bif decide (0≤g)&&decide (g<(d.length:Int)) then bif decide (g.toNat<d.length) then l1_173 C N115 k j0 a b (d.set g.toNat (u8.wrap (i64.wrap ((48:Int)+((i64.wrap (f+(i64.wrap ((i64.wrap (u8.wrap ((b1.toNat:Int) - 48))) * b)))).tmod 10))))) (i64.wrap ((i64.wrap (f+(i64.wrap ((i64.wrap (u8.wrap ((b1.toNat:Int) - 48))) * b)))).tdiv 10)) (i64.wrap (g - 1)) K else none else none else l2_173 C N115 k k d f [] K:=hC.t (by kernel_rfl)
theorem l2_173_eq (hC:Cv C) (k j0 a b d K):l2_173 C N115 k (j0+1) a b d K =
 bif decide (b > 0) then (cat (([(u8.wrap (i64.wrap ((48:Int)+(b.tmod 10))))]:List Int).map fun n=>UInt8.ofNat n.toNat) d).bind fun s2=>l2_173 C N115 k j0 a (i64.wrap (b.tdiv 10)) s2 K else (cat d (a.map fun n=>UInt8.ofNat n.toNat)).bind fun s3=>N115 false s3 fun r4=>K r4:=hC.t (by kernel_rfl)
variable {N115}
theorem as173 (S:SP G ng) (h115:FnP G ng 115 (yq32 N115)) {A:Yq36} (hA:Lq36 A (run173 cut0 N115 big)):FnP G ng 173 (yq36 A):=xq36 S (l:=gam173 N115) (mc h115 mn) func173 (by kernel_rfl) hA
end
def lvs174:Lv
 | 1000195=>kk [0,3]
 | _=>none
section
variable (C:Cu) (N92:Yq20)
def gam174:List (Nat × Fn1):=[(92,yq20 N92)]
def run174 (k:Nat) (a:BY) (K:Zq5):Oo:=runK prog (lookG (gam174 N92)) 4 lvs174 C k f174 none [.s (.str a)] (zq5 K)
def l1_174 (k j0:Nat) (a:BY) (b:Int) (K:Zq5):Oo:=C 1000195 ([sv a,.u,.u,iv b]++us 14) (hK (gam174 N92) 4 lvs174 C k f174 none (zq5 K) j0 [1,0,1,0])
theorem run174_eq (k:Nat) (a:BY) (K:Zq5):run174 C N92 k a K =
 l1_174 C N92 k k a 0 K:=by kernel_rfl
theorem l1_174_eq (hC:Cv C) (k j0 a b K):l1_174 C N92 k (j0+1) a b K =
 bif decide (b<(a.length:Int)) then (at? a b).bind fun b1=>N92 (b1.toNat:Int) fun r2=>bif !r2 then K false else l1_174 C N92 k j0 a (i64.wrap (b+1)) K else K (decide ((a.length:Int) > 0)):=hC.t (by kernel_rfl)
variable {N92}
theorem as174 (S:SP G ng) (h92:FnP G ng 92 (yq20 N92)) {A:Yq25} (hA:Lq25 A (run174 cut0 N92 big)):FnP G ng 174 (yq25 A):=xq25 S (l:=gam174 N92) (mc h92 mn) func174 (by kernel_rfl) hA
end
def lvs175:Lv
 | 194=>kk [0,1,2,30]
 | _=>none
section
variable (C:Cu) (N173:Yq36) (N176:Yq25)
def gam175:List (Nat × Fn1):=[(173,yq36 N173),(176,yq25 N176)]
def run175 (k:Nat) (a:BY) (b d:Int) (K:Zq1):Oo:=runK prog (lookG (gam175 N173 N176)) 7 lvs175 C k f175 none [.s (.str a),.s (.int .i64 b),.s (.int .i64 d)] (zq1 K)
def p1_175 (k:Nat) (a:BY) (b d:Int) (f:Bool) (K:Zq1):Oo:=C 194 ([sv a,iv b,iv d]++us 27++[bv f,.u,.u,.u,.u]) (aK (gam175 N173 N176) 7 lvs175 C k f175 none (zq1 K) [1,0,1])
theorem run175_eq (k:Nat) (a:BY) (b d:Int) (K:Zq1):run175 C N173 N176 k a b d K =
 N176 a fun r1=>bif !r1 then p1_175 C N173 N176 k a b d true K else (at? a 0).bind fun b2=>bif (b2.toNat:Int)==45 then p1_175 C N173 N176 k a b d true K else bif decide (b<0) then p1_175 C N173 N176 k a b d true K else bif decide (b > 1099511627776) then p1_175 C N173 N176 k a b d true K else bif decide (d<0) then p1_175 C N173 N176 k a b d true K else p1_175 C N173 N176 k a b d (decide (d > 1099511627776)) K:=by kernel_rfl
theorem p1_175_eq (hC:Cv C) (k a b d f K):p1_175 C N173 N176 k a b d f K =
 bif f then K [] else N173 a b d fun r3=>K r3:=hC.t (by kernel_rfl)
variable {N173 N176}
theorem as175 (S:SP G ng) (h173:FnP G ng 173 (yq36 N173)) (h176:FnP G ng 176 (yq25 N176)) {A:Yq36} (hA:Lq36 A (run175 cut0 N173 N176 big)):FnP G ng 175 (yq36 A):=xq36 S (l:=gam175 N173 N176) (mc h173 (mc h176 mn)) func175 (by kernel_rfl) hA
end
def lvs176:Lv
 | 321=>kk [0,12]
 | 385=>kk [0]
 | _=>none
section
variable (C:Cu) (N174:Yq25)
def gam176:List (Nat × Fn1):=[(174,yq25 N174)]
def run176 (k:Nat) (a:BY) (K:Zq5):Oo:=runK prog (lookG (gam176 N174)) 3 lvs176 C k f176 none [.s (.str a)] (zq5 K)
def p1_176 (k:Nat) (a:BY) (b:Bool) (K:Zq5):Oo:=C 321 ([sv a]++us 11++[bv b]++us 9) (aK (gam176 N174) 3 lvs176 C k f176 none (zq5 K) [1,1,0,1])
def p2_176 (k:Nat) (a:BY) (K:Zq5):Oo:=C 385 ([sv a]++us 21) (aK (gam176 N174) 3 lvs176 C k f176 none (zq5 K) [1,1,1])
theorem run176_eq (k:Nat) (a:BY) (K:Zq5):run176 C N174 k a K =
 bif a==[48] then K true else bif decide ((a.length:Int) > 0) then (at? a 0).bind fun b1=>p1_176 C N174 k a ((b1.toNat:Int)==45) K else p1_176 C N174 k a false K:=by kernel_rfl
theorem p1_176_eq (hC:Cv C) (k a b K):p1_176 C N174 k a b K =
 bif b then (cut a (some (1:Int)) none).bind fun s2=>p2_176 C N174 k s2 K else p2_176 C N174 k a K:=hC.t (by kernel_rfl)
theorem p2_176_eq (hC:Cv C) (k a K):p2_176 C N174 k a K =
 N174 a fun r3=>bif r3 then (at? a 0).bind fun b4=>K ((b4.toNat:Int) != 48) else K false:=hC.t (by kernel_rfl)
variable {N174}
theorem as176 (S:SP G ng) (h174:FnP G ng 174 (yq25 N174)) {A:Yq25} (hA:Lq25 A (run176 cut0 N174 big)):FnP G ng 176 (yq25 A):=xq25 S (l:=gam176 N174) (mc h174 mn) func176 (by kernel_rfl) hA
end
def lvs177:Lv
 | 194=>kk [0,1,18]
 | 450 | 578=>kk [0,1,5,6]
 | _=>none
section
variable (C:Cu) (N20:Yq10) (N115:Yq32) (N173:Yq36) (N176:Yq25) (N217:Yq39) (N218:Yq1)
def gam177:List (Nat × Fn1):=[(20,yq10 N20),(115,yq32 N115),(173,yq36 N173),(176,yq25 N176),(217,yq39 N217),(218,yq1 N218)]
def run177 (k:Nat) (a:BY) (b:Int) (K:Zq1):Oo:=runK prog (lookG (gam177 N20 N115 N173 N176 N217 N218)) 8 lvs177 C k f177 none [.s (.str a),.s (.int .i64 b)] (zq1 K)
def p1_177 (k:Nat) (a:BY) (b:Int) (d:Bool) (K:Zq1):Oo:=C 194 ([sv a,iv b]++us 16++[bv d]++us 35) (aK (gam177 N20 N115 N173 N176 N217 N218) 8 lvs177 C k f177 none (zq1 K) [1,0,1])
def p2_177 (k:Nat) (a:BY) (b:Int) (d f:Bool) (K:Zq1):Oo:=C 450 ([sv a,iv b,.u,.u,.u,bv d,bv f]++us 47) (aK (gam177 N20 N115 N173 N176 N217 N218) 8 lvs177 C k f177 none (zq1 K) [1,1,1,1])
def p3_177 (k:Nat) (a:BY) (b:Int) (d f:Bool) (K:Zq1):Oo:=C 578 ([sv a,iv b,.u,.u,.u,bv d,bv f]++us 47) (aK (gam177 N20 N115 N173 N176 N217 N218) 8 lvs177 C k f177 none (zq1 K) [1,1,1,1,1])
theorem run177_eq (k:Nat) (a:BY) (b:Int) (K:Zq1):run177 C N20 N115 N173 N176 N217 N218 k a b K =
 N176 a fun r1=>bif !r1 then p1_177 C N20 N115 N173 N176 N217 N218 k a b true K else bif decide (b<(-1099511627776)) then p1_177 C N20 N115 N173 N176 N217 N218 k a b true K else p1_177 C N20 N115 N173 N176 N217 N218 k a b (decide (b > 1099511627776)) K:=by kernel_rfl
theorem p1_177_eq (hC:Cv C) (k a b d K):p1_177 C N20 N115 N173 N176 N217 N218 k a b d K =
 bif d then K [] else (at? a 0).bind fun b2=>bif (b2.toNat:Int)==45 then (cut a (some (1:Int)) none).bind fun s3=>p2_177 C N20 N115 N173 N176 N217 N218 k s3 b ((b2.toNat:Int)==45) (decide (b<0)) K else p2_177 C N20 N115 N173 N176 N217 N218 k a b ((b2.toNat:Int)==45) (decide (b<0)) K:=hC.t (by kernel_rfl)
theorem p2_177_eq (hC:Cv C) (k a b d f K):p2_177 C N20 N115 N173 N176 N217 N218 k a b d f K =
 bif f then p3_177 C N20 N115 N173 N176 N217 N218 k a (i64.wrap (0 - b)) d f K else p3_177 C N20 N115 N173 N176 N217 N218 k a b d f K:=hC.t (by kernel_rfl)
theorem p3_177_eq (hC:Cv C) (k a b d f K):p3_177 C N20 N115 N173 N176 N217 N218 k a b d f K =
 bif d==f then N173 a 1 b fun r4=>N115 d r4 fun r5=>K r5 else N20 b fun r6=>N217 a r6 fun r7=>bif decide (r7<0) then N218 r6 a fun r8=>N115 f r8 fun r9=>K r9 else N218 a r6 fun r10=>N115 d r10 fun r11=>K r11:=hC.t (by kernel_rfl)
variable {N20 N115 N173 N176 N217 N218}
theorem as177 (S:SP G ng) (h20:FnP G ng 20 (yq10 N20)) (h115:FnP G ng 115 (yq32 N115)) (h173:FnP G ng 173 (yq36 N173)) (h176:FnP G ng 176 (yq25 N176)) (h217:FnP G ng 217 (yq39 N217)) (h218:FnP G ng 218 (yq1 N218)) {A:Yq11} (hA:Lq11 A (run177 cut0 N20 N115 N173 N176 N217 N218 big)):FnP G ng 177 (yq11 A):=xq11 S (l:=gam177 N20 N115 N173 N176 N217 N218) (mc h20 (mc h115 (mc h173 (mc h176 (mc h217 (mc h218 mn)))))) func177 (by kernel_rfl) hA
end
section
variable (C:Cu)
def gam217:List (Nat × Fn1):=[]
noncomputable def run217 (k:Nat) (a b:BY) (K:Zq7):Oo:=runK prog (lookG (gam217)) 5 lv0 C k f217 none [.s (.str a),.s (.str b)] (zq7 K)
theorem run217_eq (k:Nat) (a b:BY) (K:Zq7):run217 C k a b K =
 bif decide ((a.length:Int)<(b.length:Int)) then K (-1) else bif decide ((a.length:Int) > (b.length:Int)) then K 1 else bif Op.bytesLess a b then K (-1) else bif !(Op.bytesLess a b || a==b) then K 1 else K 0:=by kernel_rfl
theorem as217 (S:SP G ng) {A:Yq39} (hA:Lq39 A (run217 cut0 big)):FnP G ng 217 (yq39 A):=xq39 S (l:=gam217) mn func217 (by kernel_rfl) hA
end
def lvs218:Lv
 | 641=>kk [0,1,5,7,8]
 | 832=>kk [0,1,5,6,7,8]
 | 1000323=>kk [0,1,5,6,7]
 | _=>none
section
variable (C:Cu) (N115:Yq32)
def gam218:List (Nat × Fn1):=[(115,yq32 N115)]
def run218 (k:Nat) (a b:BY) (K:Zq1):Oo:=runK prog (lookG (gam218 N115)) 9 lvs218 C k f218 none [.s (.str a),.s (.str b)] (zq1 K)
def l1_218 (k j0:Nat) (a b:BY) (d:List Int) (f g:Int) (K:Zq1):Oo:=C 1000323 ([sv a,sv b,.u,.u,.u,.c (.own (.ints .u8 d)),iv f,iv g]++us 53) (hK (gam218 N115) 9 lvs218 C k f218 none (zq1 K) j0 [1,1,1,0,1,0])
def p2_218 (k j0:Nat) (a b:BY) (d:List Int) (f g:Int) (K:Zq1):Oo:=C 641 ([sv a,sv b,.u,.u,.u,.c (.own (.ints .u8 d)),.u,iv f,iv g]++us 52) (aK (gam218 N115) 9 lvs218 C k f218 none (zq1 K) [1,1,1,0,1,0,j0,1,0,0,1,1])
def p3_218 (k j0:Nat) (a b:BY) (d:List Int) (f g i:Int) (K:Zq1):Oo:=C 832 ([sv a,sv b,.u,.u,.u,.c (.own (.ints .u8 d)),iv f,iv g,iv i]++us 52) (aK (gam218 N115) 9 lvs218 C k f218 none (zq1 K) [1,1,1,0,1,0,j0,1,0,0,1,1,1,1])
theorem run218_eq (k:Nat) (a b:BY) (K:Zq1):run218 C N115 k a b K =
 bif decide (0≤(a.length:Int))&&decide ((a.length:Int)≤(a.length:Int))&&decide ((a.length:Int)≤1099511627776) then l1_218 C N115 k k a b (List.replicate (a.length:Int).toNat (0:Int)) 0 0 K else none:=by kernel_rfl
theorem l1_218_eq (hC:Cv C) (k j0 a b d f g K):l1_218 C N115 k (j0+1) a b d f g K =
 bif decide (g<(a.length:Int)) then (at? a (i64.wrap ((i64.wrap ((a.length:Int) - 1)) - g))).bind fun b1=>bif decide (g<(b.length:Int)) then (at? b (i64.wrap ((i64.wrap ((b.length:Int) - 1)) - g))).bind fun b2=>p2_218 C N115 k j0 a b d g (i64.wrap ((i64.wrap ((i64.wrap (u8.wrap ((b1.toNat:Int) - 48))) - f)) - (i64.wrap (u8.wrap ((b2.toNat:Int) - 48))))) K else p2_218 C N115 k j0 a b d g (i64.wrap ((i64.wrap (u8.wrap ((b1.toNat:Int) - 48))) - f)) K else N115 false (d.map fun n=>UInt8.ofNat n.toNat) fun r3=>K r3:=hC.t (by kernel_rfl)
theorem p2_218_eq (hC:Cv C) (k j0 a b d f g K):p2_218 C N115 k j0 a b d f g K =
 bif decide (g<0) then p3_218 C N115 k j0 a b d 1 f (i64.wrap (g+10)) K else p3_218 C N115 k j0 a b d 0 f g K:=hC.t (by kernel_rfl)
theorem p3_218_eq (hC:Cv C) (k j0 a b d f g i K):p3_218 C N115 k j0 a b d f g i K =
 bif decide (0≤(i64.wrap ((i64.wrap ((a.length:Int) - 1)) - g)))&&decide ((i64.wrap ((i64.wrap ((a.length:Int) - 1)) - g))<(d.length:Int)) then bif decide ((i64.wrap ((i64.wrap ((a.length:Int) - 1)) - g)).toNat<d.length) then l1_218 C N115 k j0 a b (d.set (i64.wrap ((i64.wrap ((a.length:Int) - 1)) - g)).toNat (u8.wrap (i64.wrap ((48:Int)+i)))) f (i64.wrap (g+1)) K else none else none:=hC.t (by kernel_rfl)
variable {N115}
theorem as218 (S:SP G ng) (h115:FnP G ng 115 (yq32 N115)) {A:Yq1} (hA:Lq1 A (run218 cut0 N115 big)):FnP G ng 218 (yq1 A):=xq1 S (l:=gam218 N115) (mc h115 mn) func218 (by kernel_rfl) hA
end
variable {G:World→Prop} {ng:Nat}
section
variable (C:Cu)
def gam19:List (Nat × Fn1):=[]
noncomputable def run19 (k:Nat) (a:Bool) (K:Zq7):Oo:=runK prog (lookG (gam19)) 3 lv0 C k f19 none [.s (.bool a)] (zq7 K)
theorem run19_eq (k:Nat) (a:Bool) (K:Zq7):run19 C k a K =
 bif a then K 11 else K 12:=by kernel_rfl
theorem as19 (S:SP G ng) {A:Yq62} (hA:Lq62 A (run19 cut0 big)):FnP G ng 19 (yq62 A):=xq62 S (l:=gam19) mn func19 (by kernel_rfl) hA
end
variable {G:World→Prop} {ng:Nat}
def lvs9:Lv
 | 322=>kk [0,1,2,3,28]
 | 1000578=>kk [0,3,9,10,35,36,37]
 | _=>none
section
variable (C:Cu) (N16:Yq27) (N19:Yq62) (N22:Yq60) (N24:Yq58) (N25:Yq67)
def gam9:List (Nat × Fn1):=[(16,yq27 N16),(19,yq62 N19),(22,yq60 N22),(24,yq58 N24),(25,yq67 N25)]
def run9 (k:Nat) (a:Bool) (b:BY) (d:List Int) (f:Int) (K:Zq5):Oo:=runK prog (lookG (gam9 N16 N19 N22 N24 N25)) 9 lvs9 C k f9 none [.s (.bool a),.s (.str b),.ro (.ints .u8 d),.s (.int .u8 f)] (zq5 K)
def p1_9 (k:Nat) (a:Bool) (b:BY) (d:List Int) (f:Int) (g:Bool) (K:Zq5):Oo:=C 322 ([bv a,sv b,.c (.ro (.ints .u8 d)),.c (.s (.int .u8 f))]++us 24++[bv g]++us 57) (aK (gam9 N16 N19 N22 N24 N25) 9 lvs9 C k f9 none (zq5 K) [1,1,0,1])
def l2_9 (k j0:Nat) (a:Bool) (b d:Int) (f g:List BY) (i l:Int) (K:Zq5):Oo:=C 1000578 ([bv a,.u,.u,.c (.s (.int .u8 b)),.u,.u,.u,.u,.u,iv d,.box 44 (.strs f)]++us 24++[.c (.own (.strs g)),iv i,iv l]++us 48) (hK (gam9 N16 N19 N22 N24 N25) 9 lvs9 C k f9 none (zq5 K) j0 [1,1,1,1,1,0,1,0])
theorem run9_eq (k:Nat) (a:Bool) (b:BY) (d:List Int) (f:Int) (K:Zq5):run9 C N16 N19 N22 N24 N25 k a b d f K =
 N22 fun r1=>bif !r1 then K false else bif decide ((b.length:Int) > 60) then p1_9 C N16 N19 N22 N24 N25 k a b d f true K else p1_9 C N16 N19 N22 N24 N25 k a b d f (decide ((d.length:Int) > 8)) K:=by kernel_rfl
theorem p1_9_eq (hC:Cv C) (k a b d f g K):p1_9 C N16 N19 N22 N24 N25 k a b d f g K =
 bif g then K true else N19 a fun r2=>N24 d fun r3=>l2_9 C N16 N19 N22 N24 N25 k k a f r2 ([[116,97,103,58,121,97,109,108,46,111,114,103,44,50,48,48,50,58,110,117,108,108],[116,97,103,58,121,97,109,108,46,111,114,103,44,50,48,48,50,58,98,111,111,108],[116,97,103,58,121,97,109,108,46,111,114,103,44,50,48,48,50,58,105,110,116],[116,97,103,58,121,97,109,108,46,111,114,103,44,50,48,48,50,58,102,108,111,97,116],[116,97,103,58,121,97,109,108,46,111,114,103,44,50,48,48,50,58,116,105,109,101,115,116,97,109,112]]:List (BY)) ([b,r3]:List (BY)) 2 0 K:=hC.t (by kernel_rfl)
theorem l2_9_eq (hC:Cv C) (k j0 a b d f g i l K):l2_9 C N16 N19 N22 N24 N25 k (j0+1) a b d f g i l K =
 bif decide (l<i) then bif decide (0≤l)&&decide (l<(g.length:Int)) then (g[l.toNat]?).bind fun x4=>N16 d x4 fun r5 r6=>N25 d r5 x4 true fun r7 r8 r9=>bif !r9 then K false else bif !((r5==r7)&&((r6==r8)&&true)) then K false else bif decide (0≤(b.tmod 5))&&decide ((b.tmod 5)<5) then (f[(0+(b.tmod 5).toNat)]?).bind fun x10=>N25 d x10 x4 true fun r11 r12 r13=>bif !(r13==(x10==r5)) then bif x10==[116,97,103,58,121,97,109,108,46,111,114,103,44,50,48,48,50,58,116,105,109,101,115,116,97,109,112] then bif !(!a) then K false else l2_9 C N16 N19 N22 N24 N25 k j0 a b d f g i (i64.wrap (l+1)) K else K false else l2_9 C N16 N19 N22 N24 N25 k j0 a b d f g i (i64.wrap (l+1)) K else none else none else K true:=hC.t (by kernel_rfl)
variable {N16 N19 N22 N24 N25}
theorem as9 (S:SP G ng) (h16:FnP G ng 16 (yq27 N16)) (h19:FnP G ng 19 (yq62 N19)) (h22:FnP G ng 22 (yq60 N22)) (h24:FnP G ng 24 (yq58 N24)) (h25:FnP G ng 25 (yq67 N25)) {A:Yq71} (hA:Lq71 A (run9 cut0 N16 N19 N22 N24 N25 big)):FnP G ng 9 (yq71 A):=xq71 S (l:=gam9 N16 N19 N22 N24 N25) (mc h16 (mc h19 (mc h22 (mc h24 (mc h25 mn))))) func9 (by kernel_rfl) hA
end
section
variable (C:Cu) (N25:Yq67) (N27:Yq25)
def gam22:List (Nat × Fn1):=[(25,yq67 N25),(27,yq25 N27)]
noncomputable def run22 (k:Nat) (K:Zq5):Oo:=runK prog (lookG (gam22 N25 N27)) 1 lv0 C k f22 none [] (zq5 K)
theorem run22_eq (k:Nat) (K:Zq5):run22 C N25 N27 k K =
 N25 11 [116,97,103,58,121,97,109,108,46,111,114,103,44,50,48,48,50,58,105,110,116] [48,49,48] false fun r1 r2 r3=>N25 12 [116,97,103,58,121,97,109,108,46,111,114,103,44,50,48,48,50,58,98,111,111,108] [121,101,115] true fun r4 r5 r6=>N25 12 [33,120] [97] true fun r7 r8 r9=>N25 11 [] [121,101,115] false fun r10 r11 r12=>N25 11 [116,97,103,58,121,97,109,108,46,111,114,103,44,50,48,48,50,58,115,101,116] [97] false fun r13 r14 r15=>bif r3 then bif (r1==[116,97,103,58,121,97,109,108,46,111,114,103,44,50,48,48,50,58,105,110,116])&&((r2==[56])&&true) then bif !r6 then bif r9 then bif (r7==[33,120])&&((r8==[97])&&true) then bif r12 then bif (r10==[116,97,103,58,121,97,109,108,46,111,114,103,44,50,48,48,50,58,115,116,114])&&((r11==[121,101,115])&&true) then bif !r15 then N27 [116,97,103,58,121,97,109,108,46,111,114,103,44,50,48,48,50,58,98,105,110,97,114,121] fun r16=>bif r16 then N27 [116,97,103,58,121,97,109,108,46,111,114,103,44,50,48,48,50,58,115,116,114] fun r17=>K (!r17) else K false else K false else K false else K false else K false else K false else K false else K false else K false:=by kernel_rfl
variable {N25 N27}
theorem as22 (S:SP G ng) (h25:FnP G ng 25 (yq67 N25)) (h27:FnP G ng 27 (yq25 N27)) {A:Yq60} (hA:Lq60 A (run22 cut0 N25 N27 big)):FnP G ng 22 (yq60 A):=xq60 S (l:=gam22 N25 N27) (mc h25 (mc h27 mn)) func22 (by kernel_rfl) hA
end
def lvs24:Lv
 | 1000323=>kk [0,3,4,5]
 | _=>none
section
variable (C:Cu)
def gam24:List (Nat × Fn1):=[]
def run24 (k:Nat) (a:List Int) (K:Zq1):Oo:=runK prog (lookG (gam24)) 6 lvs24 C k f24 none [.ro (.ints .u8 a)] (zq1 K)
def l1_24 (k j0:Nat) (a:List Int) (b:List BY) (d:BY) (f:Int) (K:Zq1):Oo:=C 1000323 ([.c (.ro (.ints .u8 a)),.u,.u,.box 64 (.strs b),sv d,iv f]++us 17) (hK gam24 6 lvs24 C k f24 none (zq1 K) j0 [1,1,1,0,1,0])
theorem run24_eq (k:Nat) (a:List Int) (K:Zq1):run24 C k a K =
 l1_24 C k k a (((((((((((((((((((((((((List.replicate 24 []).set 0 [121,101,115]).set 1 [110,111]).set 2 [48]).set 3 [49]).set 4 [56]).set 5 [48,120]).set 6 [48,111]).set 7 [48,98]).set 8 [95]).set 9 [58]).set 10 [46]).set 11 [101]).set 12 [69]).set 13 [43]).set 14 [45]).set 15 [105,110,102]).set 16 [110,97,110]).set 17 [50,48,48,49,45,48,49,45,48,49]).set 18 [32]).set 19 [84]).set 20 [116,114,117,101]).set 21 [126]).set 22 [65,81,61,61]).set 23 [120]) [] 0 K:=by kernel_rfl
theorem l1_24_eq (hC:Cv C) (k j0 a b d f K):l1_24 C k (j0+1) a b d f K =
 bif decide (f<(a.length:Int)) then bif decide (0≤f)&&decide (f<(a.length:Int)) then (a[f.toNat]?).bind fun x1=>bif decide (0≤(x1.tmod 24))&&decide ((x1.tmod 24)<24) then (b[(0+(x1.tmod 24).toNat)]?).bind fun x2=>(cat d x2).bind fun s3=>l1_24 C k j0 a b s3 (i64.wrap (f+1)) K else none else none else K d:=hC.t (by kernel_rfl)
theorem as24 (S:SP G ng) {A:Yq58} (hA:Lq58 A (run24 cut0 big)):FnP G ng 24 (yq58 A):=xq58 S (l:=gam24) mn func24 (by kernel_rfl) hA
end
def lvs25:Lv
 | 832=>kk [2,8]
 | 898 | 1345=>kk [1,2,8]
 | 1026=>kk [0,1,2,8]
 | 5000321=>kk [0,1,2,8,19]
 | _=>none
section
variable (C:Cu) (N16:Yq27) (N27:Yq25) (N43:Yq14) (N46:Yq51)
def gam25:List (Nat × Fn1):=[(16,yq27 N16),(27,yq25 N27),(43,yq14 N43),(46,yq51 N46)]
def run25 (k:Nat) (a:Int) (b d:BY) (f:Bool) (K:Zq13):Oo:=runK prog (lookG (gam25 N16 N27 N43 N46)) 12 lvs25 C k f25 none [.s (.int .i64 a),.s (.str b),.s (.str d),.s (.bool f)] (zq13 K)
def p1_25 (k:Nat) (a b d:BY) (K:Zq13):Oo:=C 832 ([.u,.u,sv a,.u,.u,.u,.u,.u,.box 27 (.ss [.str b,.str d])]++us 43) (aK (gam25 N16 N27 N43 N46) 12 lvs25 C k f25 none (zq13 K) [1,0,1,0,0,0,0,0,1])
def p2_25 (k:Nat) (a b d f:BY) (K:Zq13):Oo:=C 898 ([.u,sv a,sv b,.u,.u,.u,.u,.u,.box 27 (.ss [.str d,.str f])]++us 43) (aK (gam25 N16 N27 N43 N46) 12 lvs25 C k f25 none (zq13 K) [1,0,1,0,0,0,1])
def p3_25 (k:Nat) (a:Int) (b d f g:BY) (i:Bool) (K:Zq13):Oo:=C 5000321 ([iv a,sv b,sv d,.u,.u,.u,.u,.u,.box 27 (.ss [.str f,.str g])]++us 10++[bv i]++us 32) (aK (gam25 N16 N27 N43 N46) 12 lvs25 C k f25 none (zq13 K) [1,0,1,0,0,0,0,0,0,0,0,0,0,1,1,1,1])
def p4_25 (k:Nat) (a:Int) (b d f g:BY) (K:Zq13):Oo:=C 1026 ([iv a,sv b,sv d,.u,.u,.u,.u,.u,.box 27 (.ss [.str f,.str g])]++us 43) (aK (gam25 N16 N27 N43 N46) 12 lvs25 C k f25 none (zq13 K) [1,1])
def p5_25 (k:Nat) (a b d f:BY) (K:Zq13):Oo:=C 1345 ([.u,sv a,sv b,.u,.u,.u,.u,.u,.box 27 (.ss [.str d,.str f])]++us 43) (aK (gam25 N16 N27 N43 N46) 12 lvs25 C k f25 none (zq13 K) [1,1,1])
theorem run25_eq (k:Nat) (a:Int) (b d:BY) (f:Bool) (K:Zq13):run25 C N16 N27 N43 N46 k a b d f K =
 bif b==[] then bif f then N16 a d fun r1 r2=>K r1 r2 true else p1_25 C N16 N27 N43 N46 k d [] [] K else bif b==[33] then p1_25 C N16 N27 N43 N46 k d [] [] K else bif b==[116,97,103,58,121,97,109,108,46,111,114,103,44,50,48,48,50,58,115,116,114] then p2_25 C N16 N27 N43 N46 k b d [] [] K else bif b==[116,97,103,58,121,97,109,108,46,111,114,103,44,50,48,48,50,58,109,97,112] then p3_25 C N16 N27 N43 N46 k a b d [] [] (b==[116,97,103,58,121,97,109,108,46,111,114,103,44,50,48,48,50,58,109,97,112]) K else bif b==[116,97,103,58,121,97,109,108,46,111,114,103,44,50,48,48,50,58,115,101,113] then p3_25 C N16 N27 N43 N46 k a b d [] [] (b==[116,97,103,58,121,97,109,108,46,111,114,103,44,50,48,48,50,58,115,101,113]) K else bif b==[116,97,103,58,121,97,109,108,46,111,114,103,44,50,48,48,50,58,115,101,116] then p3_25 C N16 N27 N43 N46 k a b d [] [] (b==[116,97,103,58,121,97,109,108,46,111,114,103,44,50,48,48,50,58,115,101,116]) K else bif b==[116,97,103,58,121,97,109,108,46,111,114,103,44,50,48,48,50,58,111,109,97,112] then p3_25 C N16 N27 N43 N46 k a b d [] [] (b==[116,97,103,58,121,97,109,108,46,111,114,103,44,50,48,48,50,58,111,109,97,112]) K else p3_25 C N16 N27 N43 N46 k a b d [] [] (b==[116,97,103,58,121,97,109,108,46,111,114,103,44,50,48,48,50,58,112,97,105,114,115]) K:=by kernel_rfl
theorem p1_25_eq (hC:Cv C) (k a b d K):p1_25 C N16 N27 N43 N46 k a b d K =
 p2_25 C N16 N27 N43 N46 k [116,97,103,58,121,97,109,108,46,111,114,103,44,50,48,48,50,58,115,116,114] a b d K:=hC.t (by kernel_rfl)
theorem p2_25_eq (hC:Cv C) (k a b d f K):p2_25 C N16 N27 N43 N46 k a b d f K =
 N43 b fun r3=>K a r3 true:=hC.t (by kernel_rfl)
theorem p3_25_eq (hC:Cv C) (k a b d f g i K):p3_25 C N16 N27 N43 N46 k a b d f g i K =
 bif i then K [] [] false else p4_25 C N16 N27 N43 N46 k a b d f g K:=hC.t (by kernel_rfl)
theorem p4_25_eq (hC:Cv C) (k a b d f g K):p4_25 C N16 N27 N43 N46 k a b d f g K =
 N27 b fun r4=>bif r4 then N46 a b d fun r5 r6=>bif !r6 then K [] [] false else p5_25 C N16 N27 N43 N46 k b r5 f g K else p5_25 C N16 N27 N43 N46 k b d f g K:=hC.t (by kernel_rfl)
theorem p5_25_eq (hC:Cv C) (k a b d f K):p5_25 C N16 N27 N43 N46 k a b d f K =
 N43 a fun r7=>N43 b fun r8=>K r7 r8 true:=hC.t (by kernel_rfl)
variable {N16 N27 N43 N46}
theorem as25 (S:SP G ng) (h16:FnP G ng 16 (yq27 N16)) (h27:FnP G ng 27 (yq25 N27)) (h43:FnP G ng 43 (yq14 N43)) (h46:FnP G ng 46 (yq51 N46)) {A:Yq67} (hA:Lq67 A (run25 cut0 N16 N27 N43 N46 big)):FnP G ng 25 (yq67 A):=xq67 S (l:=gam25 N16 N27 N43 N46) (mc h16 (mc h27 (mc h43 (mc h46 mn)))) func25 (by kernel_rfl) hA
end
def lvs26:Lv
 | 578=>kk [0,1,2,8,12,21]
 | 962=>kk [0,1,2,8,26]
 | _=>none
section
variable (C:Cu) (N17:Yq27) (N28:Yq25) (N45:Yq51)
def gam26:List (Nat × Fn1):=[(17,yq27 N17),(28,yq25 N28),(45,yq51 N45)]
def run26 (k:Nat) (a:Int) (b d:BY) (f:Bool) (K:Zq13):Oo:=runK prog (lookG (gam26 N17 N28 N45)) 12 lvs26 C k f26 none [.s (.int .i64 a),.s (.str b),.s (.str d),.s (.bool f)] (zq13 K)
def p1_26 (k:Nat) (a:Int) (b d f g i:BY) (l:Bool) (K:Zq13):Oo:=C 578 ([iv a,sv b,sv d,.u,.u,.u,.u,.u,.box 27 (.ss [.str f,.str g]),.u,.u,.u,sv i]++us 8++[bv l]++us 30) (aK (gam26 N17 N28 N45) 12 lvs26 C k f26 none (zq13 K) [1,0,1,0,1,1,1])
def p2_26 (k:Nat) (a:Int) (b d f g:BY) (i:Bool) (K:Zq13):Oo:=C 962 ([iv a,sv b,sv d,.u,.u,.u,.u,.u,.box 27 (.ss [.str f,.str g])]++us 17++[bv i]++us 25) (aK (gam26 N17 N28 N45) 12 lvs26 C k f26 none (zq13 K) [1,0,1,0,1,1,1,1,1])
theorem run26_eq (k:Nat) (a:Int) (b d:BY) (f:Bool) (K:Zq13):run26 C N17 N28 N45 k a b d f K =
 bif b==[] then bif f then N17 a d fun r1 r2=>K r1 r2 true else K [116,97,103,58,121,97,109,108,46,111,114,103,44,50,48,48,50,58,115,116,114] d true else bif b==[33] then p1_26 C N17 N28 N45 k a b d [] [] b (b==[33]) K else p1_26 C N17 N28 N45 k a b d [] [] b (b==[116,97,103,58,121,97,109,108,46,111,114,103,44,50,48,48,50,58,115,116,114]) K:=by kernel_rfl
theorem p1_26_eq (hC:Cv C) (k a b d f g i l K):p1_26 C N17 N28 N45 k a b d f g i l K =
 bif l then K [116,97,103,58,121,97,109,108,46,111,114,103,44,50,48,48,50,58,115,116,114] d true else bif i==[116,97,103,58,121,97,109,108,46,111,114,103,44,50,48,48,50,58,109,97,112] then p2_26 C N17 N28 N45 k a b d f g (i==[116,97,103,58,121,97,109,108,46,111,114,103,44,50,48,48,50,58,109,97,112]) K else bif i==[116,97,103,58,121,97,109,108,46,111,114,103,44,50,48,48,50,58,115,101,113] then p2_26 C N17 N28 N45 k a b d f g (i==[116,97,103,58,121,97,109,108,46,111,114,103,44,50,48,48,50,58,115,101,113]) K else bif i==[116,97,103,58,121,97,109,108,46,111,114,103,44,50,48,48,50,58,115,101,116] then p2_26 C N17 N28 N45 k a b d f g (i==[116,97,103,58,121,97,109,108,46,111,114,103,44,50,48,48,50,58,115,101,116]) K else bif i==[116,97,103,58,121,97,109,108,46,111,114,103,44,50,48,48,50,58,111,109,97,112] then p2_26 C N17 N28 N45 k a b d f g (i==[116,97,103,58,121,97,109,108,46,111,114,103,44,50,48,48,50,58,111,109,97,112]) K else p2_26 C N17 N28 N45 k a b d f g (i==[116,97,103,58,121,97,109,108,46,111,114,103,44,50,48,48,50,58,112,97,105,114,115]) K:=hC.t (by kernel_rfl)
theorem p2_26_eq (hC:Cv C) (k a b d f g i K):p2_26 C N17 N28 N45 k a b d f g i K =
 bif i then K [] [] false else N28 b fun r3=>bif !r3 then K b d true else N45 a b d fun r4 r5=>bif !r5 then K [] [] false else K b r4 true:=hC.t (by kernel_rfl)
variable {N17 N28 N45}
theorem as26 (S:SP G ng) (h17:FnP G ng 17 (yq27 N17)) (h28:FnP G ng 28 (yq25 N28)) (h45:FnP G ng 45 (yq51 N45)) {A:Yq67} (hA:Lq67 A (run26 cut0 N17 N28 N45 big)):FnP G ng 26 (yq67 A):=xq67 S (l:=gam26 N17 N28 N45) (mc h17 (mc h28 (mc h45 mn))) func26 (by kernel_rfl) hA
end
def lvs27:Lv
 | 578=>kk [4]
 | _=>none
section
variable (C:Cu)
def gam27:List (Nat × Fn1):=[]
def run27 (k:Nat) (a:BY) (K:Zq5):Oo:=runK prog (lookG (gam27)) 3 lvs27 C k f27 none [.s (.str a)] (zq5 K)
def p1_27 (k:Nat) (a:Bool) (K:Zq5):Oo:=C 578 ([.u,.u,.u,.u,bv a]++us 6) (aK gam27 3 lvs27 C k f27 none (zq5 K) [1,0,1,0,1])
theorem run27_eq (k:Nat) (a:BY) (K:Zq5):run27 C k a K =
 bif a==[116,97,103,58,121,97,109,108,46,111,114,103,44,50,48,48,50,58,110,117,108,108] then p1_27 C k (a==[116,97,103,58,121,97,109,108,46,111,114,103,44,50,48,48,50,58,110,117,108,108]) K else bif a==[116,97,103,58,121,97,109,108,46,111,114,103,44,50,48,48,50,58,98,111,111,108] then p1_27 C k (a==[116,97,103,58,121,97,109,108,46,111,114,103,44,50,48,48,50,58,98,111,111,108]) K else bif a==[116,97,103,58,121,97,109,108,46,111,114,103,44,50,48,48,50,58,105,110,116] then p1_27 C k (a==[116,97,103,58,121,97,109,108,46,111,114,103,44,50,48,48,50,58,105,110,116]) K else bif a==[116,97,103,58,121,97,109,108,46,111,114,103,44,50,48,48,50,58,102,108,111,97,116] then p1_27 C k (a==[116,97,103,58,121,97,109,108,46,111,114,103,44,50,48,48,50,58,102,108,111,97,116]) K else bif a==[116,97,103,58,121,97,109,108,46,111,114,103,44,50,48,48,50,58,116,105,109,101,115,116,97,109,112] then p1_27 C k (a==[116,97,103,58,121,97,109,108,46,111,114,103,44,50,48,48,50,58,116,105,109,101,115,116,97,109,112]) K else p1_27 C k (a==[116,97,103,58,121,97,109,108,46,111,114,103,44,50,48,48,50,58,98,105,110,97,114,121]) K:=by kernel_rfl
theorem p1_27_eq (hC:Cv C) (k a K):p1_27 C k a K =
 bif a then K true else K false:=hC.t (by kernel_rfl)
theorem as27 (S:SP G ng) {A:Yq25} (hA:Lq25 A (run27 cut0 big)):FnP G ng 27 (yq25 A):=xq25 S (l:=gam27) mn func27 (by kernel_rfl) hA
end
def lvs28:Lv
 | 578=>kk [4]
 | _=>none
section
variable (C:Cu)
def gam28:List (Nat × Fn1):=[]
def run28 (k:Nat) (a:BY) (K:Zq5):Oo:=runK prog (lookG (gam28)) 3 lvs28 C k f28 none [.s (.str a)] (zq5 K)
def p1_28 (k:Nat) (a:Bool) (K:Zq5):Oo:=C 578 ([.u,.u,.u,.u,bv a]++us 6) (aK gam28 3 lvs28 C k f28 none (zq5 K) [1,0,1,0,1])
theorem run28_eq (k:Nat) (a:BY) (K:Zq5):run28 C k a K =
 bif a==[116,97,103,58,121,97,109,108,46,111,114,103,44,50,48,48,50,58,110,117,108,108] then p1_28 C k (a==[116,97,103,58,121,97,109,108,46,111,114,103,44,50,48,48,50,58,110,117,108,108]) K else bif a==[116,97,103,58,121,97,109,108,46,111,114,103,44,50,48,48,50,58,98,111,111,108] then p1_28 C k (a==[116,97,103,58,121,97,109,108,46,111,114,103,44,50,48,48,50,58,98,111,111,108]) K else bif a==[116,97,103,58,121,97,109,108,46,111,114,103,44,50,48,48,50,58,105,110,116] then p1_28 C k (a==[116,97,103,58,121,97,109,108,46,111,114,103,44,50,48,48,50,58,105,110,116]) K else bif a==[116,97,103,58,121,97,109,108,46,111,114,103,44,50,48,48,50,58,102,108,111,97,116] then p1_28 C k (a==[116,97,103,58,121,97,109,108,46,111,114,103,44,50,48,48,50,58,102,108,111,97,116]) K else bif a==[116,97,103,58,121,97,109,108,46,111,114,103,44,50,48,48,50,58,116,105,109,101,115,116,97,109,112] then p1_28 C k (a==[116,97,103,58,121,97,109,108,46,111,114,103,44,50,48,48,50,58,116,105,109,101,115,116,97,109,112]) K else p1_28 C k (a==[116,97,103,58,121,97,109,108,46,111,114,103,44,50,48,48,50,58,98,105,110,97,114,121]) K:=by kernel_rfl
theorem p1_28_eq (hC:Cv C) (k a K):p1_28 C k a K =
 bif a then K true else K false:=hC.t (by kernel_rfl)
theorem as28 (S:SP G ng) {A:Yq25} (hA:Lq25 A (run28 cut0 big)):FnP G ng 28 (yq25 A):=xq25 S (l:=gam28) mn func28 (by kernel_rfl) hA
end
section
variable (C:Cu) (N42:Yq25) (N62:Yq15) (N64:Yq15) (N67:Yq15) (N78:Yq72) (N79:Yq72) (N80:Yq15)
def gam46:List (Nat × Fn1):=[(42,yq25 N42),(62,yq15 N62),(64,yq15 N64),(67,yq15 N67),(78,yq72 N78),(79,yq72 N79),(80,yq15 N80)]
noncomputable def run46 (k:Nat) (a:Int) (b d:BY) (K:Zq9):Oo:=runK prog (lookG (gam46 N42 N62 N64 N67 N78 N79 N80)) 8 lv0 C k f46 none [.s (.int .i64 a),.s (.str b),.s (.str d)] (zq9 K)
theorem run46_eq (k:Nat) (a:Int) (b d:BY) (K:Zq9):run46 C N42 N62 N64 N67 N78 N79 N80 k a b d K =
 bif b==[116,97,103,58,121,97,109,108,46,111,114,103,44,50,48,48,50,58,110,117,108,108] then N42 d fun r1=>K [] r1 else bif b==[116,97,103,58,121,97,109,108,46,111,114,103,44,50,48,48,50,58,98,111,111,108] then N78 a d fun r2 r3=>K r2 r3 else bif b==[116,97,103,58,121,97,109,108,46,111,114,103,44,50,48,48,50,58,102,108,111,97,116] then N79 a d fun r4 r5=>K r4 r5 else bif b==[116,97,103,58,121,97,109,108,46,111,114,103,44,50,48,48,50,58,116,105,109,101,115,116,97,109,112] then N67 d fun r6 r7=>K r6 r7 else bif b==[116,97,103,58,121,97,109,108,46,111,114,103,44,50,48,48,50,58,98,105,110,97,114,121] then N80 d fun r8 r9=>K r8 r9 else bif a==11 then N64 d fun r10 r11=>K r10 r11 else N62 d fun r12 r13=>K r12 r13:=by kernel_rfl
variable {N42 N62 N64 N67 N78 N79 N80}
theorem as46 (S:SP G ng) (h42:FnP G ng 42 (yq25 N42)) (h62:FnP G ng 62 (yq15 N62)) (h64:FnP G ng 64 (yq15 N64)) (h67:FnP G ng 67 (yq15 N67)) (h78:FnP G ng 78 (yq72 N78)) (h79:FnP G ng 79 (yq72 N79)) (h80:FnP G ng 80 (yq15 N80)) {A:Yq51} (hA:Lq51 A (run46 cut0 N42 N62 N64 N67 N78 N79 N80 big)):FnP G ng 46 (yq51 A):=xq51 S (l:=gam46 N42 N62 N64 N67 N78 N79 N80) (mc h42 (mc h62 (mc h64 (mc h67 (mc h78 (mc h79 (mc h80 mn))))))) func46 (by kernel_rfl) hA
end
variable {G:World→Prop} {ng:Nat}
section
variable (C:Cu) (N40:Yq24) (N130:Yq52)
def gam78:List (Nat × Fn1):=[(40,yq24 N40),(130,yq52 N130)]
noncomputable def run78 (k:Nat) (a:Int) (b:BY) (K:Zq9):Oo:=runK prog (lookG (gam78 N40 N130)) 8 lv0 C k f78 none [.s (.int .i64 a),.s (.str b)] (zq9 K)
theorem run78_eq (k:Nat) (a:Int) (b:BY) (K:Zq9):run78 C N40 N130 k a b K =
 N40 a b fun r1 r2=>bif !r2 then K [] false else N130 r1 fun r3=>K r3 true:=by kernel_rfl
variable {N40 N130}
theorem as78 (S:SP G ng) (h40:FnP G ng 40 (yq24 N40)) (h130:FnP G ng 130 (yq52 N130)) {A:Yq72} (hA:Lq72 A (run78 cut0 N40 N130 big)):FnP G ng 78 (yq72 A):=xq72 S (l:=gam78 N40 N130) (mc h40 (mc h130 mn)) func78 (by kernel_rfl) hA
end
section
variable (C:Cu) (N63:Yq28) (N65:Yq28) (N66:Yq29)
def gam79:List (Nat × Fn1):=[(63,yq28 N63),(65,yq28 N65),(66,yq29 N66)]
noncomputable def run79 (k:Nat) (a:Int) (b:BY) (K:Zq9):Oo:=runK prog (lookG (gam79 N63 N65 N66)) 9 lv0 C k f79 none [.s (.int .i64 a),.s (.str b)] (zq9 K)
theorem run79_eq (k:Nat) (a:Int) (b:BY) (K:Zq9):run79 C N63 N65 N66 k a b K =
 bif a==11 then N65 b fun r1 r2 r3 r4 r5=>N66 r1 r2 r3 r4 fun r6=>K r6 r5 else N63 b fun r7 r8 r9 r10 r11=>N66 r7 r8 r9 r10 fun r12=>K r12 r11:=by kernel_rfl
variable {N63 N65 N66}
theorem as79 (S:SP G ng) (h63:FnP G ng 63 (yq28 N63)) (h65:FnP G ng 65 (yq28 N65)) (h66:FnP G ng 66 (yq29 N66)) {A:Yq72} (hA:Lq72 A (run79 cut0 N63 N65 N66 big)):FnP G ng 79 (yq72 A):=xq72 S (l:=gam79 N63 N65 N66) (mc h63 (mc h65 (mc h66 mn))) func79 (by kernel_rfl) hA
end
section
variable (C:Cu) (N131:Yq59) (N132:Yq58)
def gam80:List (Nat × Fn1):=[(131,yq59 N131),(132,yq58 N132)]
noncomputable def run80 (k:Nat) (a:BY) (K:Zq9):Oo:=runK prog (lookG (gam80 N131 N132)) 6 lv0 C k f80 none [.s (.str a)] (zq9 K)
theorem run80_eq (k:Nat) (a:BY) (K:Zq9):run80 C N131 N132 k a K =
 N131 a fun r1 r2=>N132 r1 fun r3=>K r3 r2:=by kernel_rfl
variable {N131 N132}
theorem as80 (S:SP G ng) (h131:FnP G ng 131 (yq59 N131)) (h132:FnP G ng 132 (yq58 N132)) {A:Yq15} (hA:Lq15 A (run80 cut0 N131 N132 big)):FnP G ng 80 (yq15 A):=xq15 S (l:=gam80 N131 N132) (mc h131 (mc h132 mn)) func80 (by kernel_rfl) hA
end
section
variable (C:Cu) (N128:Yq59) (N129:Yq14)
def gam77:List (Nat × Fn1):=[(128,yq59 N128),(129,yq14 N129)]
noncomputable def run77 (k:Nat) (a:BY) (K:Zq9):Oo:=runK prog (lookG (gam77 N128 N129)) 6 lv0 C k f77 none [.s (.str a)] (zq9 K)
theorem run77_eq (k:Nat) (a:BY) (K:Zq9):run77 C N128 N129 k a K =
 N128 a fun r1 r2=>bif !r2 then K [] false else N129 a fun r3=>K r3 true:=by kernel_rfl
variable {N128 N129}
theorem as77 (S:SP G ng) (h128:FnP G ng 128 (yq59 N128)) (h129:FnP G ng 129 (yq14 N129)) {A:Yq15} (hA:Lq15 A (run77 cut0 N128 N129 big)):FnP G ng 77 (yq15 A):=xq15 S (l:=gam77 N128 N129) (mc h128 (mc h129 mn)) func77 (by kernel_rfl) hA
end
def lvs129:Lv
 | 1000259=>some [(0,.k),(3,.o (.ints .u8 [])),(4,.k)]
 | _=>none
section
variable (C:Cu)
def gam129:List (Nat × Fn1):=[]
def run129 (k:Nat) (a:BY) (K:Zq1):Oo:=runK prog (lookG (gam129)) 5 lvs129 C k f129 none [.s (.str a)] (zq1 K)
def l1_129 (k j0:Nat) (a:BY) (b:List Int) (d:Int) (K:Zq1):Oo:=C 1000259 ([sv a,.u,.u,.c (.own (.ints .u8 b)),iv d]++us 36) (hK gam129 5 lvs129 C k f129 none (zq1 K) j0 [1,1,0,1,0])
theorem run129_eq (k:Nat) (a:BY) (K:Zq1):run129 C k a K =
 l1_129 C k k a ([]:List Int) 0 K:=by kernel_rfl
theorem l1_129_eq (hC:Cv C) (k j0 a b d K):l1_129 C k (j0+1) a b d K =
 bif decide (d<(a.length:Int)) then (at? a d).bind fun b1=>bif (b1.toNat:Int) != 32 then (at? a d).bind fun b2=>bif (b2.toNat:Int) != 9 then (at? a d).bind fun b3=>bif (b3.toNat:Int) != 10 then (at? a d).bind fun b4=>bif (b4.toNat:Int) != 13 then (at? a d).bind fun b5=>bif decide ((b++([(b5.toNat:Int)]:List Int)).length≤1099511627776) then l1_129 C k j0 a (b++([(b5.toNat:Int)]:List Int)) (i64.wrap (d+1)) K else none else l1_129 C k j0 a b (i64.wrap (d+1)) K else l1_129 C k j0 a b (i64.wrap (d+1)) K else l1_129 C k j0 a b (i64.wrap (d+1)) K else l1_129 C k j0 a b (i64.wrap (d+1)) K else K (b.map fun n=>UInt8.ofNat n.toNat):=hC.t (by kernel_rfl)
theorem as129 (S:SP G ng) {A:Yq14} (hA:Lq14 A (run129 cut0 big)):FnP G ng 129 (yq14 A):=xq14 S (l:=gam129) mn func129 (by kernel_rfl) hA
end
section
variable (C:Cu) (N183:Yq52)
def gam130:List (Nat × Fn1):=[(183,yq52 N183)]
noncomputable def run130 (k:Nat) (a:Bool) (K:Zq1):Oo:=runK prog (lookG (gam130 N183)) 3 lv0 C k f130 none [.s (.bool a)] (zq1 K)
theorem run130_eq (k:Nat) (a:Bool) (K:Zq1):run130 C N183 k a K =
 N183 a fun r1=>K r1:=by kernel_rfl
variable {N183}
theorem as130 (S:SP G ng) (h183:FnP G ng 183 (yq52 N183)) {A:Yq52} (hA:Lq52 A (run130 cut0 N183 big)):FnP G ng 130 (yq52 A):=xq52 S (l:=gam130 N183) (mc h183 mn) func130 (by kernel_rfl) hA
end
def lvs131:Lv
 | 1152 | 1000514=>some [(0,.k),(4,.k),(5,.k),(6,.o (.ints .u8 [])),(7,.k),(8,.k),(17,.k),(18,.k)]
 | _=>none
section
variable (C:Cu) (N132:Yq58) (N151:Yq1) (N184:Yq14) (N185:Yq73)
def gam131:List (Nat × Fn1):=[(132,yq58 N132),(151,yq1 N151),(184,yq14 N184),(185,yq73 N185)]
def run131 (k:Nat) (a:BY) (K:Zq25):Oo:=runK prog (lookG (gam131 N132 N151 N184 N185)) 11 lvs131 C k f131 none [.s (.str a)] (zq25 K)
def l1_131 (k j0:Nat) (a:BY) (b:List Int) (d:BY) (f:List Int) (g i l m:Int) (K:Zq25):Oo:=C 1000514 ([sv a,.u,.u,.u,.box 170 (.ints .u8 b),sv d,.c (.own (.ints .u8 f)),iv g,iv i]++us 8++[iv l,iv m]++us 34) (hK (gam131 N132 N151 N184 N185) 11 lvs131 C k f131 none (zq25 K) j0 [1,1,1,1,1,1,0,1,0])
def p2_131 (k j0:Nat) (a:BY) (b:List Int) (d:BY) (f:List Int) (g i l m:Int) (K:Zq25):Oo:=C 1152 ([sv a,.u,.u,.u,.box 170 (.ints .u8 b),sv d,.c (.own (.ints .u8 f)),iv g,iv i]++us 8++[iv l,iv m]++us 34) (aK (gam131 N132 N151 N184 N185) 11 lvs131 C k f131 none (zq25 K) [1,1,1,1,1,1,0,1,0,j0,1,1,1])
theorem run131_eq (k:Nat) (a:BY) (K:Zq25):run131 C N132 N151 N184 N185 k a K =
 N184 a fun r1=>N185 fun r2=>whole ((Xs.ints .u8 r2).toS.length==256) (N151 r1 [61] fun r3=>l1_131 C N132 N151 N184 N185 k k r1 r2 r3 ([]:List Int) 0 0 (r3.length:Int) 0 K):=by kernel_rfl
theorem l1_131_eq (hC:Cv C) (k j0 a b d f g i l m K):l1_131 C N132 N151 N184 N185 k (j0+1) a b d f g i l m K =
 bif decide (m<l) then (at? d m).bind fun b4=>bif decide (0≤(b4.toNat:Int))&&decide ((b4.toNat:Int)<256) then (b[(0+(b4.toNat:Int).toNat)]?).bind fun x5=>bif decide (x5 > 63) then K ([]:List Int) false else bif decide ((i64.wrap (i+6)) ≥ 8) then bif decide ((i64.wrap ((i64.wrap (i+6)) - 8))<0) then none else bif decide ((f++([(u8.wrap ((i64.wrap ((BitVec.ofInt (IntKind.bits .i64) (i64.wrap ((BitVec.ofInt (IntKind.bits .i64) (i64.wrap (g * 2 ^ 6)) ||| BitVec.ofInt (IntKind.bits .i64) (i64.wrap x5)).toNat)) &&& BitVec.ofInt (IntKind.bits .i64) 65535).toNat)).fdiv (2 ^ (min (i64.wrap ((i64.wrap (i+6)) - 8)).toNat 64))))]:List Int)).length≤1099511627776) then p2_131 C N132 N151 N184 N185 k j0 a b d (f++([(u8.wrap ((i64.wrap ((BitVec.ofInt (IntKind.bits .i64) (i64.wrap ((BitVec.ofInt (IntKind.bits .i64) (i64.wrap (g * 2 ^ 6)) ||| BitVec.ofInt (IntKind.bits .i64) (i64.wrap x5)).toNat)) &&& BitVec.ofInt (IntKind.bits .i64) 65535).toNat)).fdiv (2 ^ (min (i64.wrap ((i64.wrap (i+6)) - 8)).toNat 64))))]:List Int)) (i64.wrap ((BitVec.ofInt (IntKind.bits .i64) (i64.wrap ((BitVec.ofInt (IntKind.bits .i64) (i64.wrap (g * 2 ^ 6)) ||| BitVec.ofInt (IntKind.bits .i64) (i64.wrap x5)).toNat)) &&& BitVec.ofInt (IntKind.bits .i64) 65535).toNat)) (i64.wrap ((i64.wrap (i+6)) - 8)) l m K else none else p2_131 C N132 N151 N184 N185 k j0 a b d f (i64.wrap ((BitVec.ofInt (IntKind.bits .i64) (i64.wrap ((BitVec.ofInt (IntKind.bits .i64) (i64.wrap (g * 2 ^ 6)) ||| BitVec.ofInt (IntKind.bits .i64) (i64.wrap x5)).toNat)) &&& BitVec.ofInt (IntKind.bits .i64) 65535).toNat)) (i64.wrap (i+6)) l m K else none else N132 f fun r6=>bif !(r6==a) then K ([]:List Int) false else K f true:=hC.t (by kernel_rfl)
theorem p2_131_eq (hC:Cv C) (k j0 a b d f g i l m K):p2_131 C N132 N151 N184 N185 k j0 a b d f g i l m K =
 l1_131 C N132 N151 N184 N185 k j0 a b d f g i l (i64.wrap (m+1)) K:=hC.t (by kernel_rfl)
variable {N132 N151 N184 N185}
theorem as131 (S:SP G ng) (h132:FnP G ng 132 (yq58 N132)) (h151:FnP G ng 151 (yq1 N151)) (h184:FnP G ng 184 (yq14 N184)) (h185:FnP G ng 185 (yq73 N185)) {A:Yq59} (hA:Lq59 A (run131 cut0 N132 N151 N184 N185 big)):FnP G ng 131 (yq59 A):=xq59 S (l:=gam131 N132 N151 N184 N185) (mc h132 (mc h151 (mc h184 (mc h185 mn)))) func131 (by kernel_rfl) hA
end
def lvs132:Lv
 | 1000259=>some [(0,.k),(3,.k),(4,.o (.ints .u8 []))]
 | 1000707=>kk [0,3,4,8,9]
 | _=>none
section
variable (C:Cu) (N186:Yq73)
def gam132:List (Nat × Fn1):=[(186,yq73 N186)]
def run132 (k:Nat) (a:List Int) (K:Zq1):Oo:=runK prog (lookG (gam132 N186)) 3 lvs132 C k f132 none [.ro (.ints .u8 a)] (zq1 K)
def l1_132 (k j0:Nat) (a b d:List Int) (K:Zq1):Oo:=C 1000259 ([.c (.ro (.ints .u8 a)),.u,.u,.box 173 (.ints .u8 b),.c (.own (.ints .u8 d))]++us 60) (hK (gam132 N186) 3 lvs132 C k f132 none (zq1 K) j0 [1,1,1,0,0])
def l2_132 (k j0 j1:Nat) (a b d f:List Int) (g:Int) (K:Zq1):Oo:=C 1000707 ([.c (.ro (.ints .u8 a)),.u,.u,.box 173 (.ints .u8 b),.c (.own (.ints .u8 d)),.u,.u,.u,.box 176 (.ints .u8 f),iv g]++us 55) (hK (gam132 N186) 3 lvs132 C k f132 none (zq1 K) j1 [1,1,1,0,0,j0,1,0,1,1,1,1,1,0,1,0])
theorem run132_eq (k:Nat) (a:List Int) (K:Zq1):run132 C N186 k a K =
 N186 fun r1=>whole ((Xs.ints .u8 r1).toS.length==64) (l1_132 C N186 k k a r1 ([]:List Int) K):=by kernel_rfl
theorem l1_132_eq (hC:Cv C) (k j0 a b d K):l1_132 C N186 k (j0+1) a b d K =
 bif decide ((a.length:Int) > 0) then (cutN a.length (some (((min a.length 3):Nat):Int)) none).bind fun p2=>((([0,0,0]:List Int).take 0++a.take (min a.length 3)++([0,0,0]:List Int).drop (0+(min a.length 3)))[0]?).bind fun x3=>((([0,0,0]:List Int).take 0++a.take (min a.length 3)++([0,0,0]:List Int).drop (0+(min a.length 3)))[1]?).bind fun x4=>((([0,0,0]:List Int).take 0++a.take (min a.length 3)++([0,0,0]:List Int).drop (0+(min a.length 3)))[2]?).bind fun x5=>bif decide (0≤((i64.wrap ((BitVec.ofInt (IntKind.bits .i64) (i64.wrap ((BitVec.ofInt (IntKind.bits .i64) (i64.wrap ((i64.wrap x3) * 2 ^ 16)) ||| BitVec.ofInt (IntKind.bits .i64) (i64.wrap ((i64.wrap x4) * 2 ^ 8))).toNat)) ||| BitVec.ofInt (IntKind.bits .i64) (i64.wrap x5)).toNat)).fdiv (2 ^ 18)))&&decide (((i64.wrap ((BitVec.ofInt (IntKind.bits .i64) (i64.wrap ((BitVec.ofInt (IntKind.bits .i64) (i64.wrap ((i64.wrap x3) * 2 ^ 16)) ||| BitVec.ofInt (IntKind.bits .i64) (i64.wrap ((i64.wrap x4) * 2 ^ 8))).toNat)) ||| BitVec.ofInt (IntKind.bits .i64) (i64.wrap x5)).toNat)).fdiv (2 ^ 18))<64) then (b[(0+((i64.wrap ((BitVec.ofInt (IntKind.bits .i64) (i64.wrap ((BitVec.ofInt (IntKind.bits .i64) (i64.wrap ((i64.wrap x3) * 2 ^ 16)) ||| BitVec.ofInt (IntKind.bits .i64) (i64.wrap ((i64.wrap x4) * 2 ^ 8))).toNat)) ||| BitVec.ofInt (IntKind.bits .i64) (i64.wrap x5)).toNat)).fdiv (2 ^ 18)).toNat)]?).bind fun x6=>bif decide (0≤(i64.wrap ((BitVec.ofInt (IntKind.bits .i64) ((i64.wrap ((BitVec.ofInt (IntKind.bits .i64) (i64.wrap ((BitVec.ofInt (IntKind.bits .i64) (i64.wrap ((i64.wrap x3) * 2 ^ 16)) ||| BitVec.ofInt (IntKind.bits .i64) (i64.wrap ((i64.wrap x4) * 2 ^ 8))).toNat)) ||| BitVec.ofInt (IntKind.bits .i64) (i64.wrap x5)).toNat)).fdiv (2 ^ 12)) &&& BitVec.ofInt (IntKind.bits .i64) 63).toNat)))&&decide ((i64.wrap ((BitVec.ofInt (IntKind.bits .i64) ((i64.wrap ((BitVec.ofInt (IntKind.bits .i64) (i64.wrap ((BitVec.ofInt (IntKind.bits .i64) (i64.wrap ((i64.wrap x3) * 2 ^ 16)) ||| BitVec.ofInt (IntKind.bits .i64) (i64.wrap ((i64.wrap x4) * 2 ^ 8))).toNat)) ||| BitVec.ofInt (IntKind.bits .i64) (i64.wrap x5)).toNat)).fdiv (2 ^ 12)) &&& BitVec.ofInt (IntKind.bits .i64) 63).toNat))<64) then (b[(0+(i64.wrap ((BitVec.ofInt (IntKind.bits .i64) ((i64.wrap ((BitVec.ofInt (IntKind.bits .i64) (i64.wrap ((BitVec.ofInt (IntKind.bits .i64) (i64.wrap ((i64.wrap x3) * 2 ^ 16)) ||| BitVec.ofInt (IntKind.bits .i64) (i64.wrap ((i64.wrap x4) * 2 ^ 8))).toNat)) ||| BitVec.ofInt (IntKind.bits .i64) (i64.wrap x5)).toNat)).fdiv (2 ^ 12)) &&& BitVec.ofInt (IntKind.bits .i64) 63).toNat)).toNat)]?).bind fun x7=>bif decide (0≤(i64.wrap ((BitVec.ofInt (IntKind.bits .i64) ((i64.wrap ((BitVec.ofInt (IntKind.bits .i64) (i64.wrap ((BitVec.ofInt (IntKind.bits .i64) (i64.wrap ((i64.wrap x3) * 2 ^ 16)) ||| BitVec.ofInt (IntKind.bits .i64) (i64.wrap ((i64.wrap x4) * 2 ^ 8))).toNat)) ||| BitVec.ofInt (IntKind.bits .i64) (i64.wrap x5)).toNat)).fdiv (2 ^ 6)) &&& BitVec.ofInt (IntKind.bits .i64) 63).toNat)))&&decide ((i64.wrap ((BitVec.ofInt (IntKind.bits .i64) ((i64.wrap ((BitVec.ofInt (IntKind.bits .i64) (i64.wrap ((BitVec.ofInt (IntKind.bits .i64) (i64.wrap ((i64.wrap x3) * 2 ^ 16)) ||| BitVec.ofInt (IntKind.bits .i64) (i64.wrap ((i64.wrap x4) * 2 ^ 8))).toNat)) ||| BitVec.ofInt (IntKind.bits .i64) (i64.wrap x5)).toNat)).fdiv (2 ^ 6)) &&& BitVec.ofInt (IntKind.bits .i64) 63).toNat))<64) then (b[(0+(i64.wrap ((BitVec.ofInt (IntKind.bits .i64) ((i64.wrap ((BitVec.ofInt (IntKind.bits .i64) (i64.wrap ((BitVec.ofInt (IntKind.bits .i64) (i64.wrap ((i64.wrap x3) * 2 ^ 16)) ||| BitVec.ofInt (IntKind.bits .i64) (i64.wrap ((i64.wrap x4) * 2 ^ 8))).toNat)) ||| BitVec.ofInt (IntKind.bits .i64) (i64.wrap x5)).toNat)).fdiv (2 ^ 6)) &&& BitVec.ofInt (IntKind.bits .i64) 63).toNat)).toNat)]?).bind fun x8=>bif decide (0≤(i64.wrap ((BitVec.ofInt (IntKind.bits .i64) (i64.wrap ((BitVec.ofInt (IntKind.bits .i64) (i64.wrap ((BitVec.ofInt (IntKind.bits .i64) (i64.wrap ((i64.wrap x3) * 2 ^ 16)) ||| BitVec.ofInt (IntKind.bits .i64) (i64.wrap ((i64.wrap x4) * 2 ^ 8))).toNat)) ||| BitVec.ofInt (IntKind.bits .i64) (i64.wrap x5)).toNat)) &&& BitVec.ofInt (IntKind.bits .i64) 63).toNat)))&&decide ((i64.wrap ((BitVec.ofInt (IntKind.bits .i64) (i64.wrap ((BitVec.ofInt (IntKind.bits .i64) (i64.wrap ((BitVec.ofInt (IntKind.bits .i64) (i64.wrap ((i64.wrap x3) * 2 ^ 16)) ||| BitVec.ofInt (IntKind.bits .i64) (i64.wrap ((i64.wrap x4) * 2 ^ 8))).toNat)) ||| BitVec.ofInt (IntKind.bits .i64) (i64.wrap x5)).toNat)) &&& BitVec.ofInt (IntKind.bits .i64) 63).toNat))<64) then (b[(0+(i64.wrap ((BitVec.ofInt (IntKind.bits .i64) (i64.wrap ((BitVec.ofInt (IntKind.bits .i64) (i64.wrap ((BitVec.ofInt (IntKind.bits .i64) (i64.wrap ((i64.wrap x3) * 2 ^ 16)) ||| BitVec.ofInt (IntKind.bits .i64) (i64.wrap ((i64.wrap x4) * 2 ^ 8))).toNat)) ||| BitVec.ofInt (IntKind.bits .i64) (i64.wrap x5)).toNat)) &&& BitVec.ofInt (IntKind.bits .i64) 63).toNat)).toNat)]?).bind fun x9=>l2_132 C N186 k j0 k ((a.drop p2.1).take p2.2) b d ([x6,x7,x8,x9]:List Int) (i64.wrap ((((min a.length 3):Nat):Int)+1)) K else none else none else none else none else K (d.map fun n=>UInt8.ofNat n.toNat):=hC.t (by kernel_rfl)
theorem l2_132_eq (hC:Cv C) (k j0 j1 a b d f g K):l2_132 C N186 k j0 (j1+1) a b d f g K =
 bif decide (g<4) then bif decide (0≤g)&&decide (g<4) then bif decide ((0+g.toNat)<f.length) then l2_132 C N186 k j0 j1 a b d (f.set (0+g.toNat) 61) (i64.wrap (g+1)) K else none else none else bif decide (4≤f.length) then bif decide ((d++((f.drop 0).take 4)).length≤1099511627776) then l1_132 C N186 k j0 a b (d++((f.drop 0).take 4)) K else none else none:=hC.t (by kernel_rfl)
variable {N186}
theorem as132 (S:SP G ng) (h186:FnP G ng 186 (yq73 N186)) {A:Yq58} (hA:Lq58 A (run132 cut0 N186 big)):FnP G ng 132 (yq58 A):=xq58 S (l:=gam132 N186) (mc h186 mn) func132 (by kernel_rfl) hA
end
def lvs181:Lv
 | 1000195=>kk [0,3]
 | _=>none
section
variable (C:Cu)
def gam181:List (Nat × Fn1):=[]
def run181 (k:Nat) (a:Int) (K:Zq7):Oo:=runK prog (lookG (gam181)) 4 lvs181 C k f181 none [.s (.int .u8 a)] (zq7 K)
def l1_181 (k j0:Nat) (a b:Int) (K:Zq7):Oo:=C 1000195 ([.c (.s (.int .u8 a)),.u,.u,iv b]++us 9) (hK gam181 4 lvs181 C k f181 none (zq7 K) j0 [1,0,1,0])
theorem run181_eq (k:Nat) (a:Int) (K:Zq7):run181 C k a K =
 l1_181 C k k a 0 K:=by kernel_rfl
theorem l1_181_eq (hC:Cv C) (k j0 a b K):l1_181 C k (j0+1) a b K =
 bif decide (b<64) then (at? ([65,66,67,68,69,70,71,72,73,74,75,76,77,78,79,80,81,82,83,84,85,86,87,88,89,90,97,98,99,100,101,102,103,104,105,106,107,108,109,110,111,112,113,114,115,116,117,118,119,120,121,122,48,49,50,51,52,53,54,55,56,57,43,47]:BY) b).bind fun b1=>bif (b1.toNat:Int)==a then K b else l1_181 C k j0 a (i64.wrap (b+1)) K else K (-1):=hC.t (by kernel_rfl)
theorem as181 (S:SP G ng) {A:Yq35} (hA:Lq35 A (run181 cut0 big)):FnP G ng 181 (yq35 A):=xq35 S (l:=gam181) mn func181 (by kernel_rfl) hA
end
def lvs182:Lv
 | 320=>kk [0,3,4]
 | 578 | 705 | 897=>kk [0,3,4,5]
 | 1000259=>some [(0,.k),(3,.o (.ints .u8 [])),(4,.k)]
 | _=>none
section
variable (C:Cu)
def gam182:List (Nat × Fn1):=[]
def run182 (k:Nat) (a:List Int) (K:Zq1):Oo:=runK prog (lookG (gam182)) 3 lvs182 C k f182 none [.ro (.ints .u8 a)] (zq1 K)
def l1_182 (k j0:Nat) (a b:List Int) (d:Int) (K:Zq1):Oo:=C 1000259 ([.c (.ro (.ints .u8 a)),.u,.u,.c (.own (.ints .u8 b)),iv d]++us 79) (hK gam182 3 lvs182 C k f182 none (zq1 K) j0 [1,1,0,1,0])
def p2_182 (k j0:Nat) (a b:List Int) (d f:Int) (K:Zq1):Oo:=C 578 ([.c (.ro (.ints .u8 a)),.u,.u,.c (.own (.ints .u8 b)),iv d,iv f]++us 78) (aK gam182 3 lvs182 C k f182 none (zq1 K) [1,1,0,1,0,j0,1,0,0,1,1])
def p3_182 (k j0:Nat) (a b:List Int) (d f:Int) (K:Zq1):Oo:=C 705 ([.c (.ro (.ints .u8 a)),.u,.u,.c (.own (.ints .u8 b)),iv d,iv f]++us 78) (aK gam182 3 lvs182 C k f182 none (zq1 K) [1,1,0,1,0,j0,1,0,0,1,1,1])
def p4_182 (k j0:Nat) (a b:List Int) (d f:Int) (K:Zq1):Oo:=C 897 ([.c (.ro (.ints .u8 a)),.u,.u,.c (.own (.ints .u8 b)),iv d,iv f]++us 78) (aK gam182 3 lvs182 C k f182 none (zq1 K) [1,1,0,1,0,j0,1,0,0,1,1,1,1,1])
def p5_182 (k j0:Nat) (a b:List Int) (d:Int) (K:Zq1):Oo:=C 320 ([.c (.ro (.ints .u8 a)),.u,.u,.c (.own (.ints .u8 b)),iv d]++us 79) (aK gam182 3 lvs182 C k f182 none (zq1 K) [1,1,0,1,0,j0,1,1])
theorem run182_eq (k:Nat) (a:List Int) (K:Zq1):run182 C k a K =
 l1_182 C k k a ([]:List Int) 0 K:=by kernel_rfl
theorem l1_182_eq (hC:Cv C) (k j0 a b d K):l1_182 C k (j0+1) a b d K =
 bif decide (d<(a.length:Int)) then bif decide (0≤d)&&decide (d<(a.length:Int)) then (a[d.toNat]?).bind fun x1=>bif decide ((i64.wrap (d+1))<(a.length:Int)) then bif decide (0≤(i64.wrap (d+1)))&&decide ((i64.wrap (d+1))<(a.length:Int)) then (a[(i64.wrap (d+1)).toNat]?).bind fun x2=>p2_182 C k j0 a b d (i64.wrap ((i64.wrap ((i64.wrap x1) * 65536))+(i64.wrap ((i64.wrap x2) * 256)))) K else none else p2_182 C k j0 a b d (i64.wrap ((i64.wrap x1) * 65536)) K else none else K (b.map fun n=>UInt8.ofNat n.toNat):=hC.t (by kernel_rfl)
theorem p2_182_eq (hC:Cv C) (k j0 a b d f K):p2_182 C k j0 a b d f K =
 bif decide ((i64.wrap (d+2))<(a.length:Int)) then bif decide (0≤(i64.wrap (d+2)))&&decide ((i64.wrap (d+2))<(a.length:Int)) then (a[(i64.wrap (d+2)).toNat]?).bind fun x3=>p3_182 C k j0 a b d (i64.wrap (f+(i64.wrap x3))) K else none else p3_182 C k j0 a b d f K:=hC.t (by kernel_rfl)
theorem p3_182_eq (hC:Cv C) (k j0 a b d f K):p3_182 C k j0 a b d f K =
 (at? ([65,66,67,68,69,70,71,72,73,74,75,76,77,78,79,80,81,82,83,84,85,86,87,88,89,90,97,98,99,100,101,102,103,104,105,106,107,108,109,110,111,112,113,114,115,116,117,118,119,120,121,122,48,49,50,51,52,53,54,55,56,57,43,47]:BY) (i64.wrap (f.tdiv 262144))).bind fun b4=>(at? ([65,66,67,68,69,70,71,72,73,74,75,76,77,78,79,80,81,82,83,84,85,86,87,88,89,90,97,98,99,100,101,102,103,104,105,106,107,108,109,110,111,112,113,114,115,116,117,118,119,120,121,122,48,49,50,51,52,53,54,55,56,57,43,47]:BY) ((i64.wrap (f.tdiv 4096)).tmod 64)).bind fun b5=>bif decide ((b++([(b4.toNat:Int),(b5.toNat:Int),61,61]:List Int)).length≤1099511627776) then bif decide ((i64.wrap (d+1))<(a.length:Int)) then (at? ([65,66,67,68,69,70,71,72,73,74,75,76,77,78,79,80,81,82,83,84,85,86,87,88,89,90,97,98,99,100,101,102,103,104,105,106,107,108,109,110,111,112,113,114,115,116,117,118,119,120,121,122,48,49,50,51,52,53,54,55,56,57,43,47]:BY) ((i64.wrap (f.tdiv 64)).tmod 64)).bind fun b6=>bif decide (0≤(i64.wrap (((b++([(b4.toNat:Int),(b5.toNat:Int),61,61]:List Int)).length:Int) - 2)))&&decide ((i64.wrap (((b++([(b4.toNat:Int),(b5.toNat:Int),61,61]:List Int)).length:Int) - 2))<((b++([(b4.toNat:Int),(b5.toNat:Int),61,61]:List Int)).length:Int)) then bif decide ((i64.wrap (((b++([(b4.toNat:Int),(b5.toNat:Int),61,61]:List Int)).length:Int) - 2)).toNat<(b++([(b4.toNat:Int),(b5.toNat:Int),61,61]:List Int)).length) then p4_182 C k j0 a ((b++([(b4.toNat:Int),(b5.toNat:Int),61,61]:List Int)).set (i64.wrap (((b++([(b4.toNat:Int),(b5.toNat:Int),61,61]:List Int)).length:Int) - 2)).toNat (b6.toNat:Int)) d f K else none else none else p4_182 C k j0 a (b++([(b4.toNat:Int),(b5.toNat:Int),61,61]:List Int)) d f K else none:=hC.t (by kernel_rfl)
theorem p4_182_eq (hC:Cv C) (k j0 a b d f K):p4_182 C k j0 a b d f K =
 bif decide ((i64.wrap (d+2))<(a.length:Int)) then (at? ([65,66,67,68,69,70,71,72,73,74,75,76,77,78,79,80,81,82,83,84,85,86,87,88,89,90,97,98,99,100,101,102,103,104,105,106,107,108,109,110,111,112,113,114,115,116,117,118,119,120,121,122,48,49,50,51,52,53,54,55,56,57,43,47]:BY) (f.tmod 64)).bind fun b7=>bif decide (0≤(i64.wrap ((b.length:Int) - 1)))&&decide ((i64.wrap ((b.length:Int) - 1))<(b.length:Int)) then bif decide ((i64.wrap ((b.length:Int) - 1)).toNat<b.length) then p5_182 C k j0 a (b.set (i64.wrap ((b.length:Int) - 1)).toNat (b7.toNat:Int)) d K else none else none else p5_182 C k j0 a b d K:=hC.t (by kernel_rfl)
theorem p5_182_eq (hC:Cv C) (k j0 a b d K):p5_182 C k j0 a b d K =
 l1_182 C k j0 a b (i64.wrap (d+3)) K:=hC.t (by kernel_rfl)
theorem as182 (S:SP G ng) {A:Yq58} (hA:Lq58 A (run182 cut0 big)):FnP G ng 182 (yq58 A):=xq58 S (l:=gam182) mn func182 (by kernel_rfl) hA
end
section
variable (C:Cu)
def gam183:List (Nat × Fn1):=[]
noncomputable def run183 (k:Nat) (a:Bool) (K:Zq1):Oo:=runK prog (lookG (gam183)) 3 lv0 C k f183 none [.s (.bool a)] (zq1 K)
theorem run183_eq (k:Nat) (a:Bool) (K:Zq1):run183 C k a K =
 bif a then K [116,114,117,101] else K [102,97,108,115,101]:=by kernel_rfl
theorem as183 (S:SP G ng) {A:Yq52} (hA:Lq52 A (run183 cut0 big)):FnP G ng 183 (yq52 A):=xq52 S (l:=gam183) mn func183 (by kernel_rfl) hA
end
def lvs185:Lv
 | 1000258=>kk [0,1,5]
 | 1000578=>kk [0,1,11,12]
 | _=>none
section
variable (C:Cu) (N186:Yq73)
def gam185:List (Nat × Fn1):=[(186,yq73 N186)]
def run185 (k:Nat) (K:Zq26):Oo:=runK prog (lookG (gam185 N186)) 5 lvs185 C k f185 none [] (zq26 K)
def l1_185 (k j0:Nat) (a b:List Int) (d:Int) (K:Zq26):Oo:=C 1000258 ([.box 170 (.ints .u8 a),.box 170 (.ints .u8 b),.u,.u,.u,iv d]++us 16) (hK (gam185 N186) 5 lvs185 C k f185 none (zq26 K) j0 [1,1,0,1,0])
def l2_185 (k j0:Nat) (a b d:List Int) (f:Int) (K:Zq26):Oo:=C 1000578 ([.box 170 (.ints .u8 a),.box 170 (.ints .u8 b)]++us 9++[.c (.agg (.ints .u8 d)),iv f]++us 9) (hK (gam185 N186) 5 lvs185 C k f185 none (zq26 K) j0 [1,1,1,0,1,0])
theorem run185_eq (k:Nat) (K:Zq26):run185 C N186 k K =
 l1_185 C N186 k k (List.replicate 256 (0:Int)) (List.replicate 256 (0:Int)) 0 K:=by kernel_rfl
theorem l1_185_eq (hC:Cv C) (k j0 a b d K):l1_185 C N186 k (j0+1) a b d K =
 bif decide (d<256) then bif decide (0≤d)&&decide (d<256) then bif decide ((0+d.toNat)<b.length) then l1_185 C N186 k j0 a (b.set (0+d.toNat) 64) (i64.wrap (d+1)) K else none else none else N186 fun r1=>l2_185 C N186 k k a b r1 0 K:=hC.t (by kernel_rfl)
theorem l2_185_eq (hC:Cv C) (k j0 a b d f K):l2_185 C N186 k (j0+1) a b d f K =
 bif decide (f<64) then bif decide (f<64) then (at? d f).bind fun x2=>bif decide (0≤x2)&&decide (x2<256) then bif decide ((0+x2.toNat)<b.length) then l2_185 C N186 k j0 a (b.set (0+x2.toNat) (u8.wrap f)) d (i64.wrap (f+1)) K else none else none else none else whole ((Xs.ints .u8 b).toS.length==256) (K b):=hC.t (by kernel_rfl)
variable {N186}
theorem as185 (S:SP G ng) (h186:FnP G ng 186 (yq73 N186)) {A:Yq73} (hA:Lq73 A (run185 cut0 N186 big)):FnP G ng 185 (yq73 A):=xq73 S (l:=gam185 N186) (mc h186 mn) func185 (by kernel_rfl) hA
end
section
variable (C:Cu)
def gam186:List (Nat × Fn1):=[]
noncomputable def run186 (k:Nat) (K:Zq26):Oo:=runK prog (lookG (gam186)) 2 lv0 C k f186 none [] (zq26 K)
theorem run186_eq (k:Nat) (K:Zq26):run186 C k K =
 bif decide (64≤(List.replicate 64 (0:Int)).length) then K ((List.replicate 64 (0:Int)).take 0++(([65,66,67,68,69,70,71,72,73,74,75,76,77,78,79,80,81,82,83,84,85,86,87,88,89,90,97,98,99,100,101,102,103,104,105,106,107,108,109,110,111,112,113,114,115,116,117,118,119,120,121,122,48,49,50,51,52,53,54,55,56,57,43,47]:BY).map fun c=>(c.toNat:Int)).take (min (([65,66,67,68,69,70,71,72,73,74,75,76,77,78,79,80,81,82,83,84,85,86,87,88,89,90,97,98,99,100,101,102,103,104,105,106,107,108,109,110,111,112,113,114,115,116,117,118,119,120,121,122,48,49,50,51,52,53,54,55,56,57,43,47]:BY).map fun c=>(c.toNat:Int)).length 64)++(List.replicate 64 (0:Int)).drop (0+(min (([65,66,67,68,69,70,71,72,73,74,75,76,77,78,79,80,81,82,83,84,85,86,87,88,89,90,97,98,99,100,101,102,103,104,105,106,107,108,109,110,111,112,113,114,115,116,117,118,119,120,121,122,48,49,50,51,52,53,54,55,56,57,43,47]:BY).map fun c=>(c.toNat:Int)).length 64))) else none:=by kernel_rfl
theorem as186 (S:SP G ng) {A:Yq73} (hA:Lq73 A (run186 cut0 big)):FnP G ng 186 (yq73 A):=xq73 S (l:=gam186) mn func186 (by kernel_rfl) hA
end
variable {G:World→Prop} {ng:Nat}
def lvs12:Lv
 | 322=>kk [0,1,2,3,27]
 | 1000450=>kk [0,2,31,32,33]
 | _=>none
section
variable (C:Cu) (N17:Yq27) (N29:Yq60) (N31:Yq58) (N34:Yq74) (N39:Yq25)
def gam12:List (Nat × Fn1):=[(17,yq27 N17),(29,yq60 N29),(31,yq58 N31),(34,yq74 N34),(39,yq25 N39)]
def run12 (k:Nat) (a:Bool) (b d:BY) (f:List Int) (K:Zq5):Oo:=runK prog (lookG (gam12 N17 N29 N31 N34 N39)) 9 lvs12 C k f12 none [.s (.bool a),.s (.str b),.s (.str d),.ro (.ints .u8 f)] (zq5 K)
def p1_12 (k:Nat) (a:Bool) (b d:BY) (f:List Int) (g:Bool) (K:Zq5):Oo:=C 322 ([bv a,sv b,sv d,.c (.ro (.ints .u8 f))]++us 23++[bv g]++us 66) (aK (gam12 N17 N29 N31 N34 N39) 9 lvs12 C k f12 none (zq5 K) [1,1,0,1])
def l2_12 (k j0:Nat) (a:Bool) (b:BY) (d:List BY) (f g:Int) (K:Zq5):Oo:=C 1000450 ([bv a,.u,sv b]++us 28++[.c (.own (.strs d)),iv f,iv g]++us 60) (hK (gam12 N17 N29 N31 N34 N39) 9 lvs12 C k f12 none (zq5 K) j0 [1,1,1,0,1,0])
theorem run12_eq (k:Nat) (a:Bool) (b d:BY) (f:List Int) (K:Zq5):run12 C N17 N29 N31 N34 N39 k a b d f K =
 N29 fun r1=>bif !r1 then K false else bif decide ((b.length:Int) > 60) then p1_12 C N17 N29 N31 N34 N39 k a b d f true K else bif decide ((d.length:Int) > 40) then p1_12 C N17 N29 N31 N34 N39 k a b d f true K else p1_12 C N17 N29 N31 N34 N39 k a b d f (decide ((f.length:Int) > 8)) K:=by kernel_rfl
theorem p1_12_eq (hC:Cv C) (k a b d f g K):p1_12 C N17 N29 N31 N34 N39 k a b d f g K =
 bif g then K true else N31 f fun r2=>l2_12 C N17 N29 N31 N34 N39 k k a d ([b,r2]:List (BY)) 2 0 K:=hC.t (by kernel_rfl)
theorem l2_12_eq (hC:Cv C) (k j0 a b d f g K):l2_12 C N17 N29 N31 N34 N39 k (j0+1) a b d f g K =
 bif decide (g<f) then bif decide (0≤g)&&decide (g<(d.length:Int)) then (d[g.toNat]?).bind fun x3=>N34 false [] x3 fun r4=>bif !r4 then K false else N34 a [33] x3 fun r5=>bif !r5 then K false else N34 a [116,97,103,58,121,97,109,108,46,111,114,103,44,50,48,48,50,58,115,116,114] x3 fun r6=>bif !r6 then K false else (cat [33,121] b).bind fun s7=>N34 a s7 x3 fun r8=>bif !r8 then K false else N17 11 x3 fun r9 r10=>N17 12 x3 fun r11 r12=>N34 true [] x3 fun r13=>bif !(r13==((r9==r11)&&((r10==r12)&&true))) then K false else (cat [33,121] b).bind fun s14=>N39 s14 fun r15=>bif r15 then (cat [33,121] b).bind fun s16=>(cat x3 x3).bind fun s17=>N34 a s16 s17 fun r18=>bif !r18 then K false else l2_12 C N17 N29 N31 N34 N39 k j0 a b d f (i64.wrap (g+1)) K else l2_12 C N17 N29 N31 N34 N39 k j0 a b d f (i64.wrap (g+1)) K else none else N34 true [] [60,60] fun r19=>bif r19 then N34 true [] [61] fun r20=>bif r20 then N34 a [116,97,103,58,121,97,109,108,46,111,114,103,44,50,48,48,50,58,110,117,108,108] [126] fun r21=>K r21 else K false else K false:=hC.t (by kernel_rfl)
variable {N17 N29 N31 N34 N39}
theorem as12 (S:SP G ng) (h17:FnP G ng 17 (yq27 N17)) (h29:FnP G ng 29 (yq60 N29)) (h31:FnP G ng 31 (yq58 N31)) (h34:FnP G ng 34 (yq74 N34)) (h39:FnP G ng 39 (yq25 N39)) {A:Yq75} (hA:Lq75 A (run12 cut0 N17 N29 N31 N34 N39 big)):FnP G ng 12 (yq75 A):=xq75 S (l:=gam12 N17 N29 N31 N34 N39) (mc h17 (mc h29 (mc h31 (mc h34 (mc h39 mn))))) func12 (by kernel_rfl) hA
end
def lvs13:Lv
 | 322=>kk [0,1,22]
 | 1000450=>kk [26,27,28]
 | _=>none
section
variable (C:Cu) (N17:Yq27) (N29:Yq60) (N31:Yq58) (N32:Yq76)
def gam13:List (Nat × Fn1):=[(17,yq27 N17),(29,yq60 N29),(31,yq58 N31),(32,yq76 N32)]
def run13 (k:Nat) (a:BY) (b:List Int) (K:Zq5):Oo:=runK prog (lookG (gam13 N17 N29 N31 N32)) 5 lvs13 C k f13 none [.s (.str a),.ro (.ints .u8 b)] (zq5 K)
def p1_13 (k:Nat) (a:BY) (b:List Int) (d:Bool) (K:Zq5):Oo:=C 322 ([sv a,.c (.ro (.ints .u8 b))]++us 20++[bv d]++us 111) (aK (gam13 N17 N29 N31 N32) 5 lvs13 C k f13 none (zq5 K) [1,1,0,1])
def l2_13 (k j0:Nat) (a:List BY) (b d:Int) (K:Zq5):Oo:=C 1000450 (us 26++[.c (.own (.strs a)),iv b,iv d]++us 105) (hK (gam13 N17 N29 N31 N32) 5 lvs13 C k f13 none (zq5 K) j0 [1,1,1,0,1,0])
theorem run13_eq (k:Nat) (a:BY) (b:List Int) (K:Zq5):run13 C N17 N29 N31 N32 k a b K =
 N29 fun r1=>bif !r1 then K false else bif decide ((a.length:Int) > 60) then p1_13 C N17 N29 N31 N32 k a b true K else p1_13 C N17 N29 N31 N32 k a b (decide ((b.length:Int) > 8)) K:=by kernel_rfl
theorem p1_13_eq (hC:Cv C) (k a b d K):p1_13 C N17 N29 N31 N32 k a b d K =
 bif d then K true else N31 b fun r2=>l2_13 C N17 N29 N31 N32 k k ([a,r2]:List (BY)) 2 0 K:=hC.t (by kernel_rfl)
theorem l2_13_eq (hC:Cv C) (k j0 a b d K):l2_13 C N17 N29 N31 N32 k (j0+1) a b d K =
 bif decide (d<b) then bif decide (0≤d)&&decide (d<(a.length:Int)) then (a[d.toNat]?).bind fun x3=>N32 true [] x3 fun r4 r5 r6=>N17 11 x3 fun r7 r8=>N17 12 x3 fun r9 r10=>bif !r6 then K false else bif r4==0 then bif (r7==r9)&&((r8==r10)&&true) then bif !(r5==[]) then K false else l2_13 C N17 N29 N31 N32 k j0 a b (i64.wrap (d+1)) K else K false else bif r4==1 then bif r7==[116,97,103,58,121,97,109,108,46,111,114,103,44,50,48,48,50,58,115,116,114] then bif r9==[116,97,103,58,121,97,109,108,46,111,114,103,44,50,48,48,50,58,105,110,116] then bif !((r5.length:Int)==(i64.wrap ((x3.length:Int)+2))) then K false else l2_13 C N17 N29 N31 N32 k j0 a b (i64.wrap (d+1)) K else bif r9==[116,97,103,58,121,97,109,108,46,111,114,103,44,50,48,48,50,58,102,108,111,97,116] then bif !((r5.length:Int)==(i64.wrap ((x3.length:Int)+2))) then K false else l2_13 C N17 N29 N31 N32 k j0 a b (i64.wrap (d+1)) K else K false else K false else bif r4==2 then bif r7==[116,97,103,58,121,97,109,108,46,111,114,103,44,50,48,48,50,58,116,105,109,101,115,116,97,109,112] then bif r9==[116,97,103,58,121,97,109,108,46,111,114,103,44,50,48,48,50,58,115,116,114] then bif (r5.length:Int)==31 then bif !(decide ((x3.length:Int) ≥ 10)) then K false else l2_13 C N17 N29 N31 N32 k j0 a b (i64.wrap (d+1)) K else K false else K false else K false else bif r4==3 then bif r7==[116,97,103,58,121,97,109,108,46,111,114,103,44,50,48,48,50,58,98,111,111,108] then bif !((r7==r9)&&((r8==r10)&&true)) then bif r5==r8 then bif !(decide ((r5.length:Int)≤(i64.wrap ((8:Int) * (x3.length:Int))))) then K false else l2_13 C N17 N29 N31 N32 k j0 a b (i64.wrap (d+1)) K else K false else K false else bif r7==[116,97,103,58,121,97,109,108,46,111,114,103,44,50,48,48,50,58,105,110,116] then bif !((r7==r9)&&((r8==r10)&&true)) then bif r5==r8 then bif !(decide ((r5.length:Int)≤(i64.wrap ((8:Int) * (x3.length:Int))))) then K false else l2_13 C N17 N29 N31 N32 k j0 a b (i64.wrap (d+1)) K else K false else K false else bif r7==[116,97,103,58,121,97,109,108,46,111,114,103,44,50,48,48,50,58,102,108,111,97,116] then bif !((r7==r9)&&((r8==r10)&&true)) then bif r5==r8 then bif !(decide ((r5.length:Int)≤(i64.wrap ((8:Int) * (x3.length:Int))))) then K false else l2_13 C N17 N29 N31 N32 k j0 a b (i64.wrap (d+1)) K else K false else K false else K false else K false else none else K true:=hC.t (by kernel_rfl)
variable {N17 N29 N31 N32}
theorem as13 (S:SP G ng) (h17:FnP G ng 17 (yq27 N17)) (h29:FnP G ng 29 (yq60 N29)) (h31:FnP G ng 31 (yq58 N31)) (h32:FnP G ng 32 (yq76 N32)) {A:Yq77} (hA:Lq77 A (run13 cut0 N17 N29 N31 N32 big)):FnP G ng 13 (yq77 A):=xq77 S (l:=gam13 N17 N29 N31 N32) (mc h17 (mc h29 (mc h31 (mc h32 mn)))) func13 (by kernel_rfl) hA
end
def lvs10:Lv
 | 322=>kk [0,1,2,3,4,35]
 | 1000450=>kk [0,2,4,39,40,41]
 | 1000642=>kk [0,2,4,12,39,40,41,48,49,50]
 | _=>none
section
variable (C:Cu) (N29:Yq60) (N30:Yq66) (N31:Yq58) (N32:Yq76) (N33:Yq76) (N34:Yq74)
def gam10:List (Nat × Fn1):=[(29,yq60 N29),(30,yq66 N30),(31,yq58 N31),(32,yq76 N32),(33,yq76 N33),(34,yq74 N34)]
def run10 (k:Nat) (a:Bool) (b d:BY) (f:Int) (g:List Int) (K:Zq5):Oo:=runK prog (lookG (gam10 N29 N30 N31 N32 N33 N34)) 11 lvs10 C k f10 none [.s (.bool a),.s (.str b),.s (.str d),.s (.int .u8 f),.ro (.ints .u8 g)] (zq5 K)
def p1_10 (k:Nat) (a:Bool) (b d:BY) (f:Int) (g:List Int) (i:Bool) (K:Zq5):Oo:=C 322 ([bv a,sv b,sv d,.c (.s (.int .u8 f)),.c (.ro (.ints .u8 g))]++us 30++[bv i]++us 61) (aK (gam10 N29 N30 N31 N32 N33 N34) 11 lvs10 C k f10 none (zq5 K) [1,1,0,1])
def l2_10 (k j0:Nat) (a:Bool) (b:BY) (d:List Int) (f:List BY) (g i:Int) (K:Zq5):Oo:=C 1000450 ([bv a,.u,sv b,.u,.c (.ro (.ints .u8 d))]++us 34++[.c (.own (.strs f)),iv g,iv i]++us 55) (hK (gam10 N29 N30 N31 N32 N33 N34) 11 lvs10 C k f10 none (zq5 K) j0 [1,1,1,0,1,0])
def l3_10 (k j0 j1:Nat) (a:Bool) (b:BY) (d:List Int) (f:BY) (g:List BY) (i l:Int) (m:List BY) (o p:Int) (K:Zq5):Oo:=C 1000642 ([bv a,.u,sv b,.u,.c (.ro (.ints .u8 d))]++us 7++[sv f]++us 26++[.c (.own (.strs g)),iv i,iv l]++us 6++[.c (.own (.strs m)),iv o,iv p]++us 46) (hK (gam10 N29 N30 N31 N32 N33 N34) 11 lvs10 C k f10 none (zq5 K) j1 [1,1,1,0,1,0,j0,1,1,0,0,1,1,0])
theorem run10_eq (k:Nat) (a:Bool) (b d:BY) (f:Int) (g:List Int) (K:Zq5):run10 C N29 N30 N31 N32 N33 N34 k a b d f g K =
 N29 fun r1=>bif !r1 then K false else bif decide ((d.length:Int) > 60) then p1_10 C N29 N30 N31 N32 N33 N34 k a b d f g true K else bif decide ((b.length:Int) > 60) then p1_10 C N29 N30 N31 N32 N33 N34 k a b d f g true K else p1_10 C N29 N30 N31 N32 N33 N34 k a b d f g (decide ((g.length:Int) > 8)) K:=by kernel_rfl
theorem p1_10_eq (hC:Cv C) (k a b d f g i K):p1_10 C N29 N30 N31 N32 N33 N34 k a b d f g i K =
 bif i then K true else N30 f fun r2=>l2_10 C N29 N30 N31 N32 N33 N34 k k a d g ([b,r2]:List (BY)) 2 0 K:=hC.t (by kernel_rfl)
theorem l2_10_eq (hC:Cv C) (k j0 a b d f g i K):l2_10 C N29 N30 N31 N32 N33 N34 k (j0+1) a b d f g i K =
 bif decide (i<g) then bif decide (0≤i)&&decide (i<(f.length:Int)) then (f[i.toNat]?).bind fun x3=>N31 d fun r4=>l3_10 C N29 N30 N31 N32 N33 N34 k j0 k a b d x3 f g i ([b,r4]:List (BY)) 2 0 K else none else K true:=hC.t (by kernel_rfl)
theorem l3_10_eq (hC:Cv C) (k j0 j1 a b d f g i l m o p K):l3_10 C N29 N30 N31 N32 N33 N34 k j0 (j1+1) a b d f g i l m o p K =
 bif decide (p<o) then bif decide (0≤p)&&decide (p<(m.length:Int)) then (m[p.toNat]?).bind fun x5=>N32 a f x5 fun r6 r7 r8=>N33 a f x5 fun r9 r10 r11=>bif r6 != r9 then K false else bif !(r7==r10) then K false else bif !(r8==r11) then K false else N34 a f x5 fun r12=>bif r11 then bif !(r12==(r9==0)) then K false else l3_10 C N29 N30 N31 N32 N33 N34 k j0 j1 a b d f g i l m o (i64.wrap (p+1)) K else bif !(r12==false) then K false else l3_10 C N29 N30 N31 N32 N33 N34 k j0 j1 a b d f g i l m o (i64.wrap (p+1)) K else none else l2_10 C N29 N30 N31 N32 N33 N34 k j0 a b d g i (i64.wrap (l+1)) K:=hC.t (by kernel_rfl)
variable {N29 N30 N31 N32 N33 N34}
theorem as10 (S:SP G ng) (h29:FnP G ng 29 (yq60 N29)) (h30:FnP G ng 30 (yq66 N30)) (h31:FnP G ng 31 (yq58 N31)) (h32:FnP G ng 32 (yq76 N32)) (h33:FnP G ng 33 (yq76 N33)) (h34:FnP G ng 34 (yq74 N34)) {A:Yq78} (hA:Lq78 A (run10 cut0 N29 N30 N31 N32 N33 N34 big)):FnP G ng 10 (yq78 A):=xq78 S (l:=gam10 N29 N30 N31 N32 N33 N34) (mc h29 (mc h30 (mc h31 (mc h32 (mc h33 (mc h34 mn)))))) func10 (by kernel_rfl) hA
end
section
variable (C:Cu) (N32:Yq76) (N34:Yq74)
def gam29:List (Nat × Fn1):=[(32,yq76 N32),(34,yq74 N34)]
noncomputable def run29 (k:Nat) (K:Zq5):Oo:=runK prog (lookG (gam29 N32 N34)) 1 lv0 C k f29 none [] (zq5 K)
theorem run29_eq (k:Nat) (K:Zq5):run29 C N32 N34 k K =
 N32 true [] [121,101,115] fun r1 r2 r3=>N32 true [] [48,111,55] fun r4 r5 r6=>N32 false [116,97,103,58,121,97,109,108,46,111,114,103,44,50,48,48,50,58,105,110,116] [48,49,48] fun r7 r8 r9=>N32 true [] [50,48,48,49,45,48,49,45,48,49] fun r10 r11 r12=>N32 true [116,97,103,58,121,97,109,108,46,111,114,103,44,50,48,48,50,58,105,110,116] [120] fun r13 r14 r15=>bif r3 then bif r1==3 then bif r2==[116,114,117,101] then bif r6 then bif r4==1 then bif r5==[34,48,111,55,34] then bif r9 then bif r7==3 then bif r8==[56] then bif r12 then bif r10==2 then bif r11==[33,60,116,97,103,58,121,97,109,108,46,111,114,103,44,50,48,48,50,58,116,105,109,101,115,116,97,109,112,62,32] then bif !r15 then N34 true [] [60,60] fun r16=>bif r16 then N34 false [116,97,103,58,121,97,109,108,46,111,114,103,44,50,48,48,50,58,98,111,111,108] [111,110] fun r17=>K (!r17) else K false else K false else K false else K false else K false else K false else K false else K false else K false else K false else K false else K false else K false else K false:=by kernel_rfl
variable {N32 N34}
theorem as29 (S:SP G ng) (h32:FnP G ng 32 (yq76 N32)) (h34:FnP G ng 34 (yq74 N34)) {A:Yq60} (hA:Lq60 A (run29 cut0 N32 N34 big)):FnP G ng 29 (yq60 A):=xq60 S (l:=gam29 N32 N34) (mc h32 (mc h34 mn)) func29 (by kernel_rfl) hA
end
section
variable (C:Cu)
def gam30:List (Nat × Fn1):=[]
noncomputable def run30 (k:Nat) (a:Int) (K:Zq1):Oo:=runK prog (lookG (gam30)) 4 lv0 C k f30 none [.s (.int .u8 a)] (zq1 K)
theorem run30_eq (k:Nat) (a:Int) (K:Zq1):run30 C k a K =
 bif decide (0≤(a.tmod 16))&&decide ((a.tmod 16)<16) then ((((((((((((((((((List.replicate 16 []).set 0 []).set 1 [33]).set 2 [116,97,103,58,121,97,109,108,46,111,114,103,44,50,48,48,50,58,115,116,114]).set 3 [116,97,103,58,121,97,109,108,46,111,114,103,44,50,48,48,50,58,110,117,108,108]).set 4 [116,97,103,58,121,97,109,108,46,111,114,103,44,50,48,48,50,58,98,111,111,108]).set 5 [116,97,103,58,121,97,109,108,46,111,114,103,44,50,48,48,50,58,105,110,116]).set 6 [116,97,103,58,121,97,109,108,46,111,114,103,44,50,48,48,50,58,102,108,111,97,116]).set 7 [116,97,103,58,121,97,109,108,46,111,114,103,44,50,48,48,50,58,116,105,109,101,115,116,97,109,112]).set 8 [116,97,103,58,121,97,109,108,46,111,114,103,44,50,48,48,50,58,98,105,110,97,114,121]).set 9 [116,97,103,58,121,97,109,108,46,111,114,103,44,50,48,48,50,58,109,97,112]).set 10 []).set 11 []).set 12 []).set 13 []).set 14 [33,120]).set 15 [116,97,103,58,121,97,109,108,46,111,114,103,44,50,48,48,50,58,118,97,108,117,101])[(0+(a.tmod 16).toNat)]?).bind fun x1=>K x1 else none:=by kernel_rfl
theorem as30 (S:SP G ng) {A:Yq66} (hA:Lq66 A (run30 cut0 big)):FnP G ng 30 (yq66 A):=xq66 S (l:=gam30) mn func30 (by kernel_rfl) hA
end
def lvs31:Lv
 | 1000323=>kk [0,3,4,5]
 | _=>none
section
variable (C:Cu)
def gam31:List (Nat × Fn1):=[]
def run31 (k:Nat) (a:List Int) (K:Zq1):Oo:=runK prog (lookG (gam31)) 6 lvs31 C k f31 none [.ro (.ints .u8 a)] (zq1 K)
def l1_31 (k j0:Nat) (a:List Int) (b:List BY) (d:BY) (f:Int) (K:Zq1):Oo:=C 1000323 ([.c (.ro (.ints .u8 a)),.u,.u,.box 64 (.strs b),sv d,iv f]++us 17) (hK gam31 6 lvs31 C k f31 none (zq1 K) j0 [1,1,1,0,1,0])
theorem run31_eq (k:Nat) (a:List Int) (K:Zq1):run31 C k a K =
 l1_31 C k k a (((((((((((((((((((((((((List.replicate 24 []).set 0 [121,101,115]).set 1 [110,111]).set 2 [48]).set 3 [49]).set 4 [56]).set 5 [48,120]).set 6 [48,111]).set 7 [48,98]).set 8 [95]).set 9 [58]).set 10 [46]).set 11 [101]).set 12 [69]).set 13 [43]).set 14 [45]).set 15 [105,110,102]).set 16 [110,97,110]).set 17 [50,48,48,49,45,48,49,45,48,49]).set 18 [32]).set 19 [84]).set 20 [116,114,117,101]).set 21 [126]).set 22 [65,81,61,61]).set 23 [120]) [] 0 K:=by kernel_rfl
theorem l1_31_eq (hC:Cv C) (k j0 a b d f K):l1_31 C k (j0+1) a b d f K =
 bif decide (f<(a.length:Int)) then bif decide (0≤f)&&decide (f<(a.length:Int)) then (a[f.toNat]?).bind fun x1=>bif decide (0≤(x1.tmod 24))&&decide ((x1.tmod 24)<24) then (b[(0+(x1.tmod 24).toNat)]?).bind fun x2=>(cat d x2).bind fun s3=>l1_31 C k j0 a b s3 (i64.wrap (f+1)) K else none else none else K d:=hC.t (by kernel_rfl)
theorem as31 (S:SP G ng) {A:Yq58} (hA:Lq58 A (run31 cut0 big)):FnP G ng 31 (yq58 A):=xq58 S (l:=gam31) mn func31 (by kernel_rfl) hA
end
def lvs32:Lv
 | 450=>kk [1,2,9,36]
 | 833=>kk [13,14]
 | _=>none
section
variable (C:Cu) (N25:Yq67) (N43:Yq14) (N47:Yq79)
def gam32:List (Nat × Fn1):=[(25,yq67 N25),(43,yq14 N43),(47,yq79 N47)]
def run32 (k:Nat) (a:Bool) (b d:BY) (K:Zq27):Oo:=runK prog (lookG (gam32 N25 N43 N47)) 15 lvs32 C k f32 none [.s (.bool a),.s (.str b),.s (.str d)] (zq27 K)
def p1_32 (k:Nat) (a b d f:BY) (g:Bool) (K:Zq27):Oo:=C 450 ([.u,sv a,sv b]++us 6++[.box 27 (.ss [.str d,.str f])]++us 26++[bv g]++us 18) (aK (gam32 N25 N43 N47) 15 lvs32 C k f32 none (zq27 K) [1,1,1,0,1,1])
def p2_32 (k:Nat) (a:Int) (b:BY) (K:Zq27):Oo:=C 833 (us 13++[iv a,sv b]++us 40) (aK (gam32 N25 N43 N47) 15 lvs32 C k f32 none (zq27 K) [1,1,1,1,1,1])
theorem run32_eq (k:Nat) (a:Bool) (b d:BY) (K:Zq27):run32 C N25 N43 N47 k a b d K =
 N25 11 b d a fun r1 r2 r3=>bif !r3 then K 0 [] false else N25 12 b d a fun r4 r5 r6=>bif r6 then p1_32 C N25 N43 N47 k b d r1 r2 ((r1==r4)&&((r2==r5)&&true)) K else p1_32 C N25 N43 N47 k b d r1 r2 false K:=by kernel_rfl
theorem p1_32_eq (hC:Cv C) (k a b d f g K):p1_32 C N25 N43 N47 k a b d f g K =
 bif g then K 0 [] true else N43 f fun r7=>bif a==[] then N47 d f b fun r8 r9=>p2_32 C N25 N43 N47 k r8 r9 K else bif d==[116,97,103,58,121,97,109,108,46,111,114,103,44,50,48,48,50,58,110,117,108,108] then p2_32 C N25 N43 N47 k 3 [110,117,108,108] K else p2_32 C N25 N43 N47 k 3 r7 K:=hC.t (by kernel_rfl)
theorem p2_32_eq (hC:Cv C) (k a b K):p2_32 C N25 N43 N47 k a b K =
 K a b true:=hC.t (by kernel_rfl)
variable {N25 N43 N47}
theorem as32 (S:SP G ng) (h25:FnP G ng 25 (yq67 N25)) (h43:FnP G ng 43 (yq14 N43)) (h47:FnP G ng 47 (yq79 N47)) {A:Yq76} (hA:Lq76 A (run32 cut0 N25 N43 N47 big)):FnP G ng 32 (yq76 A):=xq76 S (l:=gam32 N25 N43 N47) (mc h25 (mc h43 (mc h47 mn))) func32 (by kernel_rfl) hA
end
def lvs33:Lv
 | 450=>kk [1,2,9,29]
 | 578=>kk [1,2,9,36]
 | _=>none
section
variable (C:Cu) (N26:Yq67) (N48:Yq14) (N49:Yq14) (N50:Yq80)
def gam33:List (Nat × Fn1):=[(26,yq67 N26),(48,yq14 N48),(49,yq14 N49),(50,yq80 N50)]
def run33 (k:Nat) (a:Bool) (b d:BY) (K:Zq27):Oo:=runK prog (lookG (gam33 N26 N48 N49 N50)) 13 lvs33 C k f33 none [.s (.bool a),.s (.str b),.s (.str d)] (zq27 K)
def p1_33 (k:Nat) (a b d f:BY) (g:Bool) (K:Zq27):Oo:=C 450 ([.u,sv a,sv b]++us 6++[.box 27 (.ss [.str d,.str f])]++us 19++[bv g]++us 33) (aK (gam33 N26 N48 N49 N50) 13 lvs33 C k f33 none (zq27 K) [1,1,1,1,0,0,1])
def p2_33 (k:Nat) (a b d f:BY) (g:Bool) (K:Zq27):Oo:=C 578 ([.u,sv a,sv b]++us 6++[.box 27 (.ss [.str d,.str f])]++us 26++[bv g]++us 26) (aK (gam33 N26 N48 N49 N50) 13 lvs33 C k f33 none (zq27 K) [1,1,1,1,0,0,1,1,1])
theorem run33_eq (k:Nat) (a:Bool) (b d:BY) (K:Zq27):run33 C N26 N48 N49 N50 k a b d K =
 N26 11 b d a fun r1 r2 r3=>bif !r3 then K 0 [] false else N26 12 b d a fun r4 r5 r6=>bif r6 then p1_33 C N26 N48 N49 N50 k b d r1 r2 ((r1==r4)&&((r2==r5)&&true)) K else p1_33 C N26 N48 N49 N50 k b d r1 r2 false K:=by kernel_rfl
theorem p1_33_eq (hC:Cv C) (k a b d f g K):p1_33 C N26 N48 N49 N50 k a b d f g K =
 bif g then K 0 [] true else bif !(a==[]) then p2_33 C N26 N48 N49 N50 k a b d f (d==[116,97,103,58,121,97,109,108,46,111,114,103,44,50,48,48,50,58,110,117,108,108]) K else p2_33 C N26 N48 N49 N50 k a b d f false K:=hC.t (by kernel_rfl)
theorem p2_33_eq (hC:Cv C) (k a b d f g K):p2_33 C N26 N48 N49 N50 k a b d f g K =
 bif g then K 3 [110,117,108,108] true else bif !(a==[]) then K 3 f true else bif d==[116,97,103,58,121,97,109,108,46,111,114,103,44,50,48,48,50,58,115,116,114] then N48 b fun r7=>K 1 r7 true else bif d==[116,97,103,58,121,97,109,108,46,111,114,103,44,50,48,48,50,58,116,105,109,101,115,116,97,109,112] then N49 [116,97,103,58,121,97,109,108,46,111,114,103,44,50,48,48,50,58,116,105,109,101,115,116,97,109,112] fun r8=>(cat r8 [32]).bind fun s9=>K 2 s9 true else N50 d f fun r10=>K 3 r10 true:=hC.t (by kernel_rfl)
variable {N26 N48 N49 N50}
theorem as33 (S:SP G ng) (h26:FnP G ng 26 (yq67 N26)) (h48:FnP G ng 48 (yq14 N48)) (h49:FnP G ng 49 (yq14 N49)) (h50:FnP G ng 50 (yq80 N50)) {A:Yq76} (hA:Lq76 A (run33 cut0 N26 N48 N49 N50 big)):FnP G ng 33 (yq76 A):=xq76 S (l:=gam33 N26 N48 N49 N50) (mc h26 (mc h48 (mc h49 (mc h50 mn)))) func33 (by kernel_rfl) hA
end
section
variable (C:Cu) (N32:Yq76)
def gam34:List (Nat × Fn1):=[(32,yq76 N32)]
noncomputable def run34 (k:Nat) (a:Bool) (b d:BY) (K:Zq5):Oo:=runK prog (lookG (gam34 N32)) 10 lv0 C k f34 none [.s (.bool a),.s (.str b),.s (.str d)] (zq5 K)
theorem run34_eq (k:Nat) (a:Bool) (b d:BY) (K:Zq5):run34 C N32 k a b d K =
 N32 a b d fun r1 r2 r3=>bif r3 then K (r1==0) else K false:=by kernel_rfl
variable {N32}
theorem as34 (S:SP G ng) (h32:FnP G ng 32 (yq76 N32)) {A:Yq74} (hA:Lq74 A (run34 cut0 N32 big)):FnP G ng 34 (yq74 A):=xq74 S (l:=gam34 N32) (mc h32 mn) func34 (by kernel_rfl) hA
end
def lvs39:Lv
 | 1000195=>kk [0,3]
 | _=>none
section
variable (C:Cu) (N59:Yq20)
def gam39:List (Nat × Fn1):=[(59,yq20 N59)]
def run39 (k:Nat) (a:BY) (K:Zq5):Oo:=runK prog (lookG (gam39 N59)) 4 lvs39 C k f39 none [.s (.str a)] (zq5 K)
def l1_39 (k j0:Nat) (a:BY) (b:Int) (K:Zq5):Oo:=C 1000195 ([sv a,.u,.u,iv b]++us 14) (hK (gam39 N59) 4 lvs39 C k f39 none (zq5 K) j0 [1,0,1,0])
theorem run39_eq (k:Nat) (a:BY) (K:Zq5):run39 C N59 k a K =
 l1_39 C N59 k k a 0 K:=by kernel_rfl
theorem l1_39_eq (hC:Cv C) (k j0 a b K):l1_39 C N59 k (j0+1) a b K =
 bif decide (b<(a.length:Int)) then (at? a b).bind fun b1=>N59 (b1.toNat:Int) fun r2=>bif !r2 then K false else l1_39 C N59 k j0 a (i64.wrap (b+1)) K else K (decide ((a.length:Int) > 0)):=hC.t (by kernel_rfl)
variable {N59}
theorem as39 (S:SP G ng) (h59:FnP G ng 59 (yq20 N59)) {A:Yq25} (hA:Lq25 A (run39 cut0 N59 big)):FnP G ng 39 (yq25 A):=xq25 S (l:=gam39 N59) (mc h59 mn) func39 (by kernel_rfl) hA
end
section
variable (C:Cu) (N81:Yq14) (N82:Yq14) (N83:Yq80)
def gam47:List (Nat × Fn1):=[(81,yq14 N81),(82,yq14 N82),(83,yq80 N83)]
noncomputable def run47 (k:Nat) (a b d:BY) (K:Zq28):Oo:=runK prog (lookG (gam47 N81 N82 N83)) 6 lv0 C k f47 none [.agg (.ss [.str a,.str b]),.s (.str d)] (zq28 K)
theorem run47_eq (k:Nat) (a b d:BY) (K:Zq28):run47 C N81 N82 N83 k a b d K =
 bif a==[116,97,103,58,121,97,109,108,46,111,114,103,44,50,48,48,50,58,115,116,114] then N81 d fun r1=>K 1 r1 else bif a==[116,97,103,58,121,97,109,108,46,111,114,103,44,50,48,48,50,58,116,105,109,101,115,116,97,109,112] then N82 [116,97,103,58,121,97,109,108,46,111,114,103,44,50,48,48,50,58,116,105,109,101,115,116,97,109,112] fun r2=>(cat r2 [32]).bind fun s3=>K 2 s3 else N83 a b fun r4=>K 3 r4:=by kernel_rfl
variable {N81 N82 N83}
theorem as47 (S:SP G ng) (h81:FnP G ng 81 (yq14 N81)) (h82:FnP G ng 82 (yq14 N82)) (h83:FnP G ng 83 (yq80 N83)) {A:Yq79} (hA:Lq79 A (run47 cut0 N81 N82 N83 big)):FnP G ng 47 (yq79 A):=xq79 S (l:=gam47 N81 N82 N83) (mc h81 (mc h82 (mc h83 mn))) func47 (by kernel_rfl) hA
end
def lvs50:Lv
 | 770=>kk [1,19]
 | 962=>kk [3,4,36]
 | _=>none
section
variable (C:Cu) (N48:Yq14) (N49:Yq14) (N86:Yq25)
def gam50:List (Nat × Fn1):=[(48,yq14 N48),(49,yq14 N49),(86,yq25 N86)]
def run50 (k:Nat) (a b:BY) (K:Zq1):Oo:=runK prog (lookG (gam50 N48 N49 N86)) 5 lvs50 C k f50 none [.agg (.ss [.str a,.str b])] (zq1 K)
def p1_50 (k:Nat) (a b:BY) (d:Bool) (K:Zq1):Oo:=C 770 ([.u,.box 27 (.ss [.str a,.str b])]++us 17++[bv d]++us 21) (aK (gam50 N48 N49 N86) 5 lvs50 C k f50 none (zq1 K) [1,0,1,0,1,1,1,1,1])
def p2_50 (k:Nat) (a b:BY) (d:Bool) (K:Zq1):Oo:=C 962 ([.u,.u,.u,sv a,sv b]++us 31++[bv d,.u,.u,.u,.u]) (aK (gam50 N48 N49 N86) 5 lvs50 C k f50 none (zq1 K) [1,1,1,0,1])
theorem run50_eq (k:Nat) (a b:BY) (K:Zq1):run50 C N48 N49 N86 k a b K =
 bif a==[116,97,103,58,121,97,109,108,46,111,114,103,44,50,48,48,50,58,115,116,114] then N86 b fun r1=>bif r1 then K b else N48 b fun r2=>K r2 else bif a==[116,97,103,58,121,97,109,108,46,111,114,103,44,50,48,48,50,58,110,117,108,108] then K [110,117,108,108] else bif a==[116,97,103,58,121,97,109,108,46,111,114,103,44,50,48,48,50,58,98,111,111,108] then p1_50 C N48 N49 N86 k a b (a==[116,97,103,58,121,97,109,108,46,111,114,103,44,50,48,48,50,58,98,111,111,108]) K else bif a==[116,97,103,58,121,97,109,108,46,111,114,103,44,50,48,48,50,58,105,110,116] then p1_50 C N48 N49 N86 k a b (a==[116,97,103,58,121,97,109,108,46,111,114,103,44,50,48,48,50,58,105,110,116]) K else p1_50 C N48 N49 N86 k a b (a==[116,97,103,58,121,97,109,108,46,111,114,103,44,50,48,48,50,58,102,108,111,97,116]) K:=by kernel_rfl
theorem p1_50_eq (hC:Cv C) (k a b d K):p1_50 C N48 N49 N86 k a b d K =
 bif d then K b else N49 a fun r3=>N48 b fun r4=>bif r3==[] then p2_50 C N48 N49 N86 k r3 r4 true K else p2_50 C N48 N49 N86 k r3 r4 (r4==[]) K:=hC.t (by kernel_rfl)
variable {N48 N49 N86}
theorem as50 (S:SP G ng) (h48:FnP G ng 48 (yq14 N48)) (h49:FnP G ng 49 (yq14 N49)) (h86:FnP G ng 86 (yq25 N86)) {A:Yq80} (hA:Lq80 A (run50 cut0 N48 N49 N86 big)):FnP G ng 50 (yq80 A):=xq80 S (l:=gam50 N48 N49 N86) (mc h48 (mc h49 (mc h86 mn))) func50 (by kernel_rfl) hA
end
section
variable (C:Cu) (N61:Yq20)
def gam59:List (Nat × Fn1):=[(61,yq20 N61)]
noncomputable def run59 (k:Nat) (a:Int) (K:Zq5):Oo:=runK prog (lookG (gam59 N61)) 3 lv0 C k f59 none [.s (.int .u8 a)] (zq5 K)
theorem run59_eq (k:Nat) (a:Int) (K:Zq5):run59 C N61 k a K =
 N61 a fun r1=>bif r1 then K true else bif a==33 then K true else bif a==44 then K true else bif a==91 then K true else K (a==93):=by kernel_rfl
variable {N61}
theorem as59 (S:SP G ng) (h61:FnP G ng 61 (yq20 N61)) {A:Yq20} (hA:Lq20 A (run59 cut0 N61 big)):FnP G ng 59 (yq20 A):=xq20 S (l:=gam59 N61) (mc h61 mn) func59 (by kernel_rfl) hA
end
def lvs61:Lv
 | 194=>kk [0,9]
 | 1000323=>kk [0,3]
 | _=>none
section
variable (C:Cu) (N91:Yq20) (N92:Yq20)
def gam61:List (Nat × Fn1):=[(91,yq20 N91),(92,yq20 N92)]
def run61 (k:Nat) (a:Int) (K:Zq5):Oo:=runK prog (lookG (gam61 N91 N92)) 4 lvs61 C k f61 none [.s (.int .u8 a)] (zq5 K)
def p1_61 (k:Nat) (a:Int) (b:Bool) (K:Zq5):Oo:=C 194 ([.c (.s (.int .u8 a))]++us 8++[bv b]++us 8) (aK (gam61 N91 N92) 4 lvs61 C k f61 none (zq5 K) [1,0,1])
def l2_61 (k j0:Nat) (a b:Int) (K:Zq5):Oo:=C 1000323 ([.c (.s (.int .u8 a)),.u,.u,iv b]++us 14) (hK (gam61 N91 N92) 4 lvs61 C k f61 none (zq5 K) j0 [1,1,0,1,0])
theorem run61_eq (k:Nat) (a:Int) (K:Zq5):run61 C N91 N92 k a K =
 N91 a fun r1=>bif r1 then p1_61 C N91 N92 k a true K else N92 a fun r2=>p1_61 C N91 N92 k a r2 K:=by kernel_rfl
theorem p1_61_eq (hC:Cv C) (k a b K):p1_61 C N91 N92 k a b K =
 bif b then K true else l2_61 C N91 N92 k k a 0 K:=hC.t (by kernel_rfl)
theorem l2_61_eq (hC:Cv C) (k j0 a b K):l2_61 C N91 N92 k (j0+1) a b K =
 bif decide (b<19) then (at? ([45,95,46,126,42,39,40,41,59,47,63,58,64,38,61,43,36,35,37]:BY) b).bind fun b3=>bif (b3.toNat:Int)==a then K true else l2_61 C N91 N92 k j0 a (i64.wrap (b+1)) K else K false:=hC.t (by kernel_rfl)
variable {N91 N92}
theorem as61 (S:SP G ng) (h91:FnP G ng 91 (yq20 N91)) (h92:FnP G ng 92 (yq20 N92)) {A:Yq20} (hA:Lq20 A (run61 cut0 N91 N92 big)):FnP G ng 61 (yq20 A):=xq20 S (l:=gam61 N91 N92) (mc h91 (mc h92 mn)) func61 (by kernel_rfl) hA
end
def lvs83:Lv
 | 706 | 769=>kk [1]
 | 898=>kk [3,4,36]
 | 5000257=>kk [1,11]
 | _=>none
section
variable (C:Cu) (N43:Yq14) (N81:Yq14) (N82:Yq14) (N142:Yq25)
def gam83:List (Nat × Fn1):=[(43,yq14 N43),(81,yq14 N81),(82,yq14 N82),(142,yq25 N142)]
def run83 (k:Nat) (a b:BY) (K:Zq1):Oo:=runK prog (lookG (gam83 N43 N81 N82 N142)) 5 lvs83 C k f83 none [.agg (.ss [.str a,.str b])] (zq1 K)
def p1_83 (k:Nat) (a b:BY) (K:Zq1):Oo:=C 706 ([.u,.box 27 (.ss [.str a,.str b])]++us 39) (aK (gam83 N43 N81 N82 N142) 5 lvs83 C k f83 none (zq1 K) [1,0,1,0,1])
def p2_83 (k:Nat) (a b:BY) (d:Bool) (K:Zq1):Oo:=C 5000257 ([.u,.box 27 (.ss [.str a,.str b])]++us 9++[bv d]++us 29) (aK (gam83 N43 N81 N82 N142) 5 lvs83 C k f83 none (zq1 K) [1,0,1,0,0,0,0,0,0,0,0,1,1,1])
def p3_83 (k:Nat) (a b:BY) (K:Zq1):Oo:=C 769 ([.u,.box 27 (.ss [.str a,.str b])]++us 39) (aK (gam83 N43 N81 N82 N142) 5 lvs83 C k f83 none (zq1 K) [1,1])
theorem run83_eq (k:Nat) (a b:BY) (K:Zq1):run83 C N43 N81 N82 N142 k a b K =
 bif a==[116,97,103,58,121,97,109,108,46,111,114,103,44,50,48,48,50,58,110,117,108,108] then K [110,117,108,108] else bif a==[116,97,103,58,121,97,109,108,46,111,114,103,44,50,48,48,50,58,115,116,114] then N142 b fun r1=>bif !r1 then N81 b fun r2=>K r2 else p1_83 C N43 N81 N82 N142 k a b K else bif a==[116,97,103,58,121,97,109,108,46,111,114,103,44,50,48,48,50,58,98,111,111,108] then p2_83 C N43 N81 N82 N142 k a b (a==[116,97,103,58,121,97,109,108,46,111,114,103,44,50,48,48,50,58,98,111,111,108]) K else bif a==[116,97,103,58,121,97,109,108,46,111,114,103,44,50,48,48,50,58,105,110,116] then p2_83 C N43 N81 N82 N142 k a b (a==[116,97,103,58,121,97,109,108,46,111,114,103,44,50,48,48,50,58,105,110,116]) K else p2_83 C N43 N81 N82 N142 k a b (a==[116,97,103,58,121,97,109,108,46,111,114,103,44,50,48,48,50,58,102,108,111,97,116]) K:=by kernel_rfl
theorem p1_83_eq (hC:Cv C) (k a b K):p1_83 C N43 N81 N82 N142 k a b K =
 N43 b fun r3=>K r3:=hC.t (by kernel_rfl)
theorem p2_83_eq (hC:Cv C) (k a b d K):p2_83 C N43 N81 N82 N142 k a b d K =
 bif d then p1_83 C N43 N81 N82 N142 k a b K else p3_83 C N43 N81 N82 N142 k a b K:=hC.t (by kernel_rfl)
variable {N43 N81 N82 N142}
theorem as83 (S:SP G ng) (h43:FnP G ng 43 (yq14 N43)) (h81:FnP G ng 81 (yq14 N81)) (h82:FnP G ng 82 (yq14 N82)) (h142:FnP G ng 142 (yq25 N142)) {A:Yq80} (hA:Lq80 A (run83 cut0 N43 N81 N82 N142 big)):FnP G ng 83 (yq80 A):=xq80 S (l:=gam83 N43 N81 N82 N142) (mc h43 (mc h81 (mc h82 (mc h142 mn)))) func83 (by kernel_rfl) hA
end
section
variable (C:Cu)
def gam91:List (Nat × Fn1):=[]
noncomputable def run91 (k:Nat) (a:Int) (K:Zq5):Oo:=runK prog (lookG (gam91)) 3 lv0 C k f91 none [.s (.int .u8 a)] (zq5 K)
theorem run91_eq (k:Nat) (a:Int) (K:Zq5):run91 C k a K =
 bif decide (a ≥ 97) then bif decide (a≤122) then K true else bif decide (a ≥ 65) then K (decide (a≤90)) else K false else bif decide (a ≥ 65) then K (decide (a≤90)) else K false:=by kernel_rfl
theorem as91 (S:SP G ng) {A:Yq20} (hA:Lq20 A (run91 cut0 big)):FnP G ng 91 (yq20 A):=xq20 S (l:=gam91) mn func91 (by kernel_rfl) hA
end
end
end Go.Proofs.YtffmgholjdfcnaaGreatDoor
