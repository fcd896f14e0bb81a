import Derived.Test.YtffmgholjdfcnaaGreatDoorKSW
import Derived.Test.YtffmgholjdfcnaaGreatDoorProg
set_option maxRecDepth 100000
set_option linter.unusedVariables false
namespace Go.Proofs.YtffmgholjdfcnaaGreatDoor
open Go Go.Proofs AM
open Go.IntKind (i64 u8)
open Go.Proofs.Tryz
noncomputable section
variable {G:World→Prop} {ng:Nat}
def lvs110:Lv
 | 770 | 1474 | 1922 | 3000000 | 3000001=>kk [2,5,6,8]
 | _=>none
section
variable (C:Cu) (N151:Yq1) (N164:Yq2) (N165:Yq3) (N166:Yq3) (N167:Yq4) (N168:Yq5) (N169:Yq6)
def gam110:List (Nat × Fn1):=[(151,yq1 N151),(164,yq2 N164),(165,yq3 N165),(166,yq3 N166),(167,yq4 N167),(168,yq5 N168),(169,yq6 N169)]
def run110 (k:Nat) (a:BY) (K:Zq6):Oo:=runK prog (lookG (gam110 N151 N164 N165 N166 N167 N168 N169)) 5 lvs110 C k f110 none [.s (.str a)] (zq6 K)
def p1_110 (k j0:Nat) (a b d f g i:Int) (l:BY) (m o p q t u v:Int) (w:BY) (y:Int) (z:Bool) (r:BY) (s:Bool) (K:Zq6):Oo:=C 770 ([.u,.u,.box 123 (.ss [si a,si b,si d,si f,si g,si i,.str l,si m]),.u,.u,.box 123 (.ss [si o,si p,si q,si t,si u,si v,.str w,si y]),bv z,.u,.box 164 (.ss [.str r,.bool s])]++us 107) (aK (gam110 N151 N164 N165 N166 N167 N168 N169) 5 lvs110 C k f110 none (zq6 K) [1,j0,1,1,1,1,1,1,1,1,1,1])
def g2_110 (k j0:Nat) (a b d f g i:Int) (l:BY) (m o p q t u v:Int) (w:BY) (y:Int) (z:Bool) (r:BY) (s:Bool) (K:Zq6):Oo:=C 3000000 ([.u,.u,.box 123 (.ss [si a,si b,si d,si f,si g,si i,.str l,si m]),.u,.u,.box 123 (.ss [si o,si p,si q,si t,si u,si v,.str w,si y]),bv z,.u,.box 164 (.ss [.str r,.bool s])]++us 107) (uK (gam110 N151 N164 N165 N166 N167 N168 N169) 5 lvs110 C k f110 none (zq6 K) j0 0 [1])
def g3_110 (k j0:Nat) (a b d f g i:Int) (l:BY) (m o p q t u v:Int) (w:BY) (y:Int) (z:Bool) (r:BY) (s:Bool) (K:Zq6):Oo:=C 3000001 ([.u,.u,.box 123 (.ss [si a,si b,si d,si f,si g,si i,.str l,si m]),.u,.u,.box 123 (.ss [si o,si p,si q,si t,si u,si v,.str w,si y]),bv z,.u,.box 164 (.ss [.str r,.bool s])]++us 107) (uK (gam110 N151 N164 N165 N166 N167 N168 N169) 5 lvs110 C k f110 none (zq6 K) j0 1 [1])
def p4_110 (k j0:Nat) (a b d f g i:Int) (l:BY) (m o p q t u v:Int) (w:BY) (y:Int) (z:Bool) (r:BY) (s:Bool) (K:Zq6):Oo:=C 1474 ([.u,.u,.box 123 (.ss [si a,si b,si d,si f,si g,si i,.str l,si m]),.u,.u,.box 123 (.ss [si o,si p,si q,si t,si u,si v,.str w,si y]),bv z,.u,.box 164 (.ss [.str r,.bool s])]++us 107) (aK (gam110 N151 N164 N165 N166 N167 N168 N169) 5 lvs110 C k f110 none (zq6 K) [1,j0,1,1,1,1,1,1,1,1,1,1,1,1,1,1,1,1,1,1,1,1])
def p5_110 (k j0:Nat) (a b d f g i:Int) (l:BY) (m o p q t u v:Int) (w:BY) (y:Int) (z:Bool) (r:BY) (s:Bool) (K:Zq6):Oo:=C 1922 ([.u,.u,.box 123 (.ss [si a,si b,si d,si f,si g,si i,.str l,si m]),.u,.u,.box 123 (.ss [si o,si p,si q,si t,si u,si v,.str w,si y]),bv z,.u,.box 164 (.ss [.str r,.bool s])]++us 107) (aK (gam110 N151 N164 N165 N166 N167 N168 N169) 5 lvs110 C k f110 none (zq6 K) [1,j0,1,1,1,1,1,1,1,1,1,1,1,1,1,1,1,1,1,1,1,1,1,1,1,1,1,1])
theorem run110_eq (k:Nat) (a:BY) (K:Zq6):run110 C N151 N164 N165 N166 N167 N168 N169 k a K =
 N164 a false 4 4 fun r1 r2 r3=>N165 r2 r3 [45] fun r4 r5 r6=>N164 r5 r6 1 2 fun r7 r8 r9=>N165 r8 r9 [45] fun r10 r11 r12=>N164 r11 r12 1 2 fun r13 r14 r15=>bif r14==[] then p1_110 C N151 N164 N165 N166 N167 N168 N169 k k 0 0 0 0 0 0 [] 0 r1 r7 r13 0 0 0 [] 0 ((r5.length:Int)==5) r14 r15 K else p1_110 C N151 N164 N165 N166 N167 N168 N169 k k 0 0 0 0 0 0 [] 0 r1 r7 r13 0 0 0 [] 0 false r14 r15 K:=by kernel_rfl
theorem p1_110_eq (hC:Cv C) (k j0 a b d f g i l m o p q t u v w y z r s K):p1_110 C N151 N164 N165 N166 N167 N168 N169 k j0 a b d f g i l m o p q t u v w y z r s K =
 bif s then g2_110 C N151 N164 N165 N166 N167 N168 N169 k j0 a b d f g i l m o p q t u v w y z r s K else bif z then g2_110 C N151 N164 N165 N166 N167 N168 N169 k j0 a b d f g i l m o p q t u v w y z r s K else N166 r s [84,116] fun r16 r17 r18=>bif r16 != 0 then g3_110 C N151 N164 N165 N166 N167 N168 N169 k j0 a b d f g i l m o p q t u v w y z r17 r18 K else N167 r17 r18 [32,9] fun r19 r20 r21=>bif r19==[] then g2_110 C N151 N164 N165 N166 N167 N168 N169 k j0 a b d f g i l m o p q t u v w y z r20 true K else N164 r20 r21 1 2 fun r22 r23 r24=>N165 r23 r24 [58] fun r25 r26 r27=>N164 r26 r27 2 2 fun r28 r29 r30=>N165 r29 r30 [58] fun r31 r32 r33=>N164 r32 r33 2 2 fun r34 r35 r36=>N166 r35 r36 [46] fun r37 r38 r39=>bif r37 != 0 then N167 r38 r39 [48,49,50,51,52,53,54,55,56,57] fun r40 r41 r42=>N151 r40 [48] fun r43=>p4_110 C N151 N164 N165 N166 N167 N168 N169 k j0 a b d f g i l m o p q r22 r28 r34 r43 y z r41 r42 K else p4_110 C N151 N164 N165 N166 N167 N168 N169 k j0 a b d f g i l m o p q r22 r28 r34 w y z r38 r39 K:=hC.t (by kernel_rfl)
theorem g2_110_eq (hC:Cv C) (k j0 a b d f g i l m o p q t u v w y z r s K):g2_110 C N151 N164 N165 N166 N167 N168 N169 k (j0+1) a b d f g i l m o p q t u v w y z r s K =
 bif !s then bif r==[] then N169 o p q t u v w y fun r44=>K o p q t u v w y z r44 else K o p q t u v w y z false else K o p q t u v w y z false:=hC.t (by kernel_rfl)
theorem g3_110_eq (hC:Cv C) (k j0 a b d f g i l m o p q t u v w y z r s K):g3_110 C N151 N164 N165 N166 N167 N168 N169 k (j0+1) a b d f g i l m o p q t u v w y z r s K =
 N164 r s 1 2 fun r45 r46 r47=>N165 r46 r47 [58] fun r48 r49 r50=>N164 r49 r50 2 2 fun r51 r52 r53=>N165 r52 r53 [58] fun r54 r55 r56=>N164 r55 r56 2 2 fun r57 r58 r59=>N166 r58 r59 [46] fun r60 r61 r62=>bif r60 != 0 then N167 r61 r62 [48,49,50,51,52,53,54,55,56,57] fun r63 r64 r65=>N151 r63 [48] fun r66=>p4_110 C N151 N164 N165 N166 N167 N168 N169 k j0 a b d f g i l m o p q r45 r51 r57 r66 y z r64 r65 K else p4_110 C N151 N164 N165 N166 N167 N168 N169 k j0 a b d f g i l m o p q r45 r51 r57 w y z r61 r62 K:=hC.t (by kernel_rfl)
theorem p4_110_eq (hC:Cv C) (k j0 a b d f g i l m o p q t u v w y z r s K):p4_110 C N151 N164 N165 N166 N167 N168 N169 k j0 a b d f g i l m o p q t u v w y z r s K =
 bif r==[] then g2_110 C N151 N164 N165 N166 N167 N168 N169 k j0 a b d f g i l m o p q t u v w y z r s K else N167 r s [32,9] fun r67 r68 r69=>N166 r68 r69 [90] fun r70 r71 r72=>bif r70 != 0 then g2_110 C N151 N164 N165 N166 N167 N168 N169 k j0 a b d f g i l m o p q t u v w y z r71 r72 K else N165 r71 r72 [43,45] fun r73 r74 r75=>N168 r74 r75 fun r76 r77 r78=>bif r73==45 then p5_110 C N151 N164 N165 N166 N167 N168 N169 k j0 a b d f g i l m o p q t u v w (i64.wrap (0 - r76)) z r77 r78 K else p5_110 C N151 N164 N165 N166 N167 N168 N169 k j0 a b d f g i l m o p q t u v w r76 z r77 r78 K:=hC.t (by kernel_rfl)
theorem p5_110_eq (hC:Cv C) (k j0 a b d f g i l m o p q t u v w y z r s K):p5_110 C N151 N164 N165 N166 N167 N168 N169 k j0 a b d f g i l m o p q t u v w y z r s K =
 bif !s then bif r==[] then N169 o p q t u v w y fun r79=>K o p q t u v w y z r79 else K o p q t u v w y z false else K o p q t u v w y z false:=hC.t (by kernel_rfl)
variable {N151 N164 N165 N166 N167 N168 N169}
theorem as110 (S:SP G ng) (h151:FnP G ng 151 (yq1 N151)) (h164:FnP G ng 164 (yq2 N164)) (h165:FnP G ng 165 (yq3 N165)) (h166:FnP G ng 166 (yq3 N166)) (h167:FnP G ng 167 (yq4 N167)) (h168:FnP G ng 168 (yq5 N168)) (h169:FnP G ng 169 (yq6 N169)) {A:Yq7} (hA:Lq7 A (run110 cut0 N151 N164 N165 N166 N167 N168 N169 big)):FnP G ng 110 (yq7 A):=xq7 S (l:=gam110 N151 N164 N165 N166 N167 N168 N169) (mc h151 (mc h164 (mc h165 (mc h166 (mc h167 (mc h168 (mc h169 mn))))))) func110 (by kernel_rfl) hA
end
def lvs111:Lv
 | 577=>kk [1,2,4]
 | 834 | 1026 | 1344 | 1409=>kk [1,2]
 | _=>none
section
variable (C:Cu) (N170:Yq8)
def gam111:List (Nat × Fn1):=[(170,yq8 N170)]
def run111 (k:Nat) (a b d f g i:Int) (l:BY) (m:Int) (K:Zq8):Oo:=runK prog (lookG (gam111 N170)) 4 lvs111 C k f111 none [.agg (.ss [.int .i64 a,.int .i64 b,.int .i64 d,.int .i64 f,.int .i64 g,.int .i64 i,.str l,.int .i64 m])] (zq8 K)
def p1_111 (k:Nat) (a b d f g i:Int) (l:BY) (m o p q t u v:Int) (w:BY) (y z:Int) (K:Zq8):Oo:=C 577 ([.u,.box 123 (.ss [si a,si b,si d,si f,si g,si i,.str l,si m]),.box 123 (.ss [si o,si p,si q,si t,si u,si v,.str w,si y]),.u,iv z]++us 84) (aK (gam111 N170) 4 lvs111 C k f111 none (zq8 K) [1,1,1])
def p2_111 (k:Nat) (a b d f g i:Int) (l:BY) (m o p q t u v:Int) (w:BY) (y:Int) (K:Zq8):Oo:=C 834 ([.u,.box 123 (.ss [si a,si b,si d,si f,si g,si i,.str l,si m]),.box 123 (.ss [si o,si p,si q,si t,si u,si v,.str w,si y])]++us 86) (aK (gam111 N170) 4 lvs111 C k f111 none (zq8 K) [1,1,1,1,1])
def p3_111 (k:Nat) (a b d f g i:Int) (l:BY) (m o p q t u v:Int) (w:BY) (y:Int) (K:Zq8):Oo:=C 1026 ([.u,.box 123 (.ss [si a,si b,si d,si f,si g,si i,.str l,si m]),.box 123 (.ss [si o,si p,si q,si t,si u,si v,.str w,si y])]++us 86) (aK (gam111 N170) 4 lvs111 C k f111 none (zq8 K) [1,1,1,1,1,1])
def p4_111 (k:Nat) (a b d f g i:Int) (l:BY) (m o p q t u v:Int) (w:BY) (y:Int) (K:Zq8):Oo:=C 1344 ([.u,.box 123 (.ss [si a,si b,si d,si f,si g,si i,.str l,si m]),.box 123 (.ss [si o,si p,si q,si t,si u,si v,.str w,si y])]++us 86) (aK (gam111 N170) 4 lvs111 C k f111 none (zq8 K) [1,1,1,1,1,1,0,1,0,1,1])
def p5_111 (k:Nat) (a b d f g i:Int) (l:BY) (m o p q t u v:Int) (w:BY) (y:Int) (K:Zq8):Oo:=C 1409 ([.u,.box 123 (.ss [si a,si b,si d,si f,si g,si i,.str l,si m]),.box 123 (.ss [si o,si p,si q,si t,si u,si v,.str w,si y])]++us 86) (aK (gam111 N170) 4 lvs111 C k f111 none (zq8 K) [1,1,1,1,1,1,1])
theorem run111_eq (k:Nat) (a b d f g i:Int) (l:BY) (m:Int) (K:Zq8):run111 C N170 k a b d f g i l m K =
 bif decide ((i64.wrap ((i64.wrap ((i64.wrap ((60:Int) * f))+g)) - m))<0) then p1_111 C N170 k a b (i64.wrap (d - 1)) f g i l m 0 0 0 0 0 0 [] 0 (i64.wrap ((i64.wrap ((i64.wrap ((i64.wrap ((60:Int) * f))+g)) - m))+1440)) K else bif decide ((i64.wrap ((i64.wrap ((i64.wrap ((60:Int) * f))+g)) - m)) ≥ 1440) then p1_111 C N170 k a b (i64.wrap (d+1)) f g i l m 0 0 0 0 0 0 [] 0 (i64.wrap ((i64.wrap ((i64.wrap ((i64.wrap ((60:Int) * f))+g)) - m)) - 1440)) K else p1_111 C N170 k a b d f g i l m 0 0 0 0 0 0 [] 0 (i64.wrap ((i64.wrap ((i64.wrap ((60:Int) * f))+g)) - m)) K:=by kernel_rfl
theorem p1_111_eq (hC:Cv C) (k a b d f g i l m o p q t u v w y z K):p1_111 C N170 k a b d f g i l m o p q t u v w y z K =
 N170 a b fun r1=>bif decide (d > r1) then p2_111 C N170 k a (i64.wrap (b+1)) 1 (i64.wrap (z.tdiv 60)) (z.tmod 60) i l m o p q t u v w y K else p2_111 C N170 k a b d (i64.wrap (z.tdiv 60)) (z.tmod 60) i l m o p q t u v w y K:=hC.t (by kernel_rfl)
theorem p2_111_eq (hC:Cv C) (k a b d f g i l m o p q t u v w y K):p2_111 C N170 k a b d f g i l m o p q t u v w y K =
 bif decide (b > 12) then p3_111 C N170 k (i64.wrap (a+1)) 1 d f g i l m o p q t u v w y K else p3_111 C N170 k a b d f g i l m o p q t u v w y K:=hC.t (by kernel_rfl)
theorem p3_111_eq (hC:Cv C) (k a b d f g i l m o p q t u v w y K):p3_111 C N170 k a b d f g i l m o p q t u v w y K =
 bif decide (d<1) then bif decide ((i64.wrap (b - 1))<1) then p4_111 C N170 k (i64.wrap (a - 1)) 12 d f g i l m o p q t u v w y K else p4_111 C N170 k a (i64.wrap (b - 1)) d f g i l m o p q t u v w y K else p5_111 C N170 k a b d f g i l m o p q t u v w y K:=hC.t (by kernel_rfl)
theorem p4_111_eq (hC:Cv C) (k a b d f g i l m o p q t u v w y K):p4_111 C N170 k a b d f g i l m o p q t u v w y K =
 N170 a b fun r2=>p5_111 C N170 k a b r2 f g i l m o p q t u v w y K:=hC.t (by kernel_rfl)
theorem p5_111_eq (hC:Cv C) (k a b d f g i l m o p q t u v w y K):p5_111 C N170 k a b d f g i l m o p q t u v w y K =
 bif decide (a ≥ 0) then K a b d f g i l m (decide (a≤9999)) else K a b d f g i l m false:=hC.t (by kernel_rfl)
variable {N170}
theorem as111 (S:SP G ng) (h170:FnP G ng 170 (yq8 N170)) {A:Yq9} (hA:Lq9 A (run111 cut0 N170 big)):FnP G ng 111 (yq9 A):=xq9 S (l:=gam111 N170) (mc h170 mn) func111 (by kernel_rfl) hA
end
section
variable (C:Cu) (N171:Yq10) (N172:Yq11)
def gam112:List (Nat × Fn1):=[(171,yq10 N171),(172,yq11 N172)]
noncomputable def run112 (k:Nat) (a b:Int) (K:Zq1):Oo:=runK prog (lookG (gam112 N171 N172)) 6 lv0 C k f112 none [.s (.int .i64 a),.s (.int .i64 b)] (zq1 K)
theorem run112_eq (k:Nat) (a b:Int) (K:Zq1):run112 C N171 N172 k a b K =
 N171 a fun r1=>N172 [48] (i64.wrap (b - (r1.length:Int))) fun r2=>(cat r2 r1).bind fun s3=>K s3:=by kernel_rfl
variable {N171 N172}
theorem as112 (S:SP G ng) (h171:FnP G ng 171 (yq10 N171)) (h172:FnP G ng 172 (yq11 N172)) {A:Yq12} (hA:Lq12 A (run112 cut0 N171 N172 big)):FnP G ng 112 (yq12 A):=xq12 S (l:=gam112 N171 N172) (mc h171 (mc h172 mn)) func112 (by kernel_rfl) hA
end
def lvs164:Lv
 | 513=>kk [0,1,7,8]
 | 577=>kk [0,7]
 | 1000195=>kk [0,1,2,7,8]
 | _=>none
section
variable (C:Cu) (N166:Yq3)
def gam164:List (Nat × Fn1):=[(166,yq3 N166)]
def run164 (k:Nat) (a:BY) (b:Bool) (d f:Int) (K:Zq2):Oo:=runK prog (lookG (gam164 N166)) 10 lvs164 C k f164 (some (164,(.ss [.str a,.bool b]))) [.s (.int .i64 d),.s (.int .i64 f)] (zq2 K)
def l1_164 (k j0:Nat) (a:BY) (b:Bool) (d f g i:Int) (K:Zq2):Oo:=C 1000195 ([.box 164 (.ss [.str a,.bool b]),iv d,iv f,.u,.u,.u,.u,iv g,iv i]++us 29) (hK (gam164 N166) 10 lvs164 C k f164 (some 164) (zq2 K) j0 [1,1,0,0])
def p2_164 (k:Nat) (a:BY) (b:Bool) (d f g:Int) (K:Zq2):Oo:=C 513 ([.box 164 (.ss [.str a,.bool b]),iv d,.u,.u,.u,.u,.u,iv f,iv g]++us 29) (aK (gam164 N166) 10 lvs164 C k f164 (some 164) (zq2 K) [1,1,1])
def p3_164 (k:Nat) (a:BY) (b:Bool) (d:Int) (K:Zq2):Oo:=C 577 ([.box 164 (.ss [.str a,.bool b])]++us 6++[iv d]++us 30) (aK (gam164 N166) 10 lvs164 C k f164 (some 164) (zq2 K) [1,1,1,1])
theorem run164_eq (k:Nat) (a:BY) (b:Bool) (d f:Int) (K:Zq2):run164 C N166 k a b d f K =
 l1_164 C N166 k k a b d f 0 0 K:=by kernel_rfl
theorem l1_164_eq (hC:Cv C) (k j0 a b d f g i K):l1_164 C N166 k (j0+1) a b d f g i K =
 bif decide (i<f) then N166 a b [48,49,50,51,52,53,54,55,56,57] fun r1 r2 r3=>bif r1==0 then p2_164 C N166 k r2 r3 d g i K else l1_164 C N166 k j0 r2 r3 d f (i64.wrap ((i64.wrap ((10:Int) * g))+(i64.wrap (u8.wrap (r1 - 48))))) (i64.wrap (i+1)) K else p2_164 C N166 k a b d g i K:=hC.t (by kernel_rfl)
theorem p2_164_eq (hC:Cv C) (k a b d f g K):p2_164 C N166 k a b d f g K =
 bif b then p3_164 C N166 k a true f K else p3_164 C N166 k a (decide (g<d)) f K:=hC.t (by kernel_rfl)
theorem p3_164_eq (hC:Cv C) (k a b d K):p3_164 C N166 k a b d K =
 K d a b:=hC.t (by kernel_rfl)
variable {N166}
theorem as164 (S:SP G ng) (h166:FnP G ng 166 (yq3 N166)) {A:Yq2} (hA:Lq2 A (run164 cut0 N166 big)):FnP G ng 164 (yq2 A):=xq2 S (l:=gam164 N166) (mc h166 mn) func164 (by kernel_rfl) hA
end
def lvs165:Lv
 | 257=>kk [0,5]
 | _=>none
section
variable (C:Cu) (N166:Yq3)
def gam165:List (Nat × Fn1):=[(166,yq3 N166)]
def run165 (k:Nat) (a:BY) (b:Bool) (d:BY) (K:Zq3):Oo:=runK prog (lookG (gam165 N166)) 6 lvs165 C k f165 (some (164,(.ss [.str a,.bool b]))) [.s (.str d)] (zq3 K)
def p1_165 (k:Nat) (a:BY) (b:Bool) (d:Int) (K:Zq3):Oo:=C 257 ([.box 164 (.ss [.str a,.bool b]),.u,.u,.u,.u,.c (.s (.int .u8 d))]++us 15) (aK (gam165 N166) 6 lvs165 C k f165 (some 164) (zq3 K) [1,1,1])
theorem run165_eq (k:Nat) (a:BY) (b:Bool) (d:BY) (K:Zq3):run165 C N166 k a b d K =
 N166 a b d fun r1 r2 r3=>bif r3 then p1_165 C N166 k r2 true r1 K else p1_165 C N166 k r2 (r1==0) r1 K:=by kernel_rfl
theorem p1_165_eq (hC:Cv C) (k a b d K):p1_165 C N166 k a b d K =
 K d a b:=hC.t (by kernel_rfl)
variable {N166}
theorem as165 (S:SP G ng) (h166:FnP G ng 166 (yq3 N166)) {A:Yq3} (hA:Lq3 A (run165 cut0 N166 big)):FnP G ng 165 (yq3 A):=xq3 S (l:=gam165 N166) (mc h166 mn) func165 (by kernel_rfl) hA
end
def lvs166:Lv
 | 194=>kk [0,20]
 | _=>none
section
variable (C:Cu) (N155:Yq13)
def gam166:List (Nat × Fn1):=[(155,yq13 N155)]
def run166 (k:Nat) (a:BY) (b:Bool) (d:BY) (K:Zq3):Oo:=runK prog (lookG (gam166 N155)) 6 lvs166 C k f166 (some (164,(.ss [.str a,.bool b]))) [.s (.str d)] (zq3 K)
def p1_166 (k:Nat) (a:BY) (b d:Bool) (K:Zq3):Oo:=C 194 ([.box 164 (.ss [.str a,.bool b])]++us 19++[bv d]++us 14) (aK (gam166 N155) 6 lvs166 C k f166 (some 164) (zq3 K) [1,0,1])
theorem run166_eq (k:Nat) (a:BY) (b:Bool) (d:BY) (K:Zq3):run166 C N155 k a b d K =
 bif a==[] then p1_166 C N155 k a b true K else (at? a 0).bind fun b1=>N155 d (b1.toNat:Int) fun r2=>p1_166 C N155 k a b (decide (r2<0)) K:=by kernel_rfl
theorem p1_166_eq (hC:Cv C) (k a b d K):p1_166 C N155 k a b d K =
 bif d then K 0 a b else (at? a 0).bind fun b3=>(cut a (some (1:Int)) none).bind fun s4=>K (b3.toNat:Int) s4 b:=hC.t (by kernel_rfl)
variable {N155}
theorem as166 (S:SP G ng) (h155:FnP G ng 155 (yq13 N155)) {A:Yq3} (hA:Lq3 A (run166 cut0 N155 big)):FnP G ng 166 (yq3 A):=xq3 S (l:=gam166 N155) (mc h155 mn) func166 (by kernel_rfl) hA
end
section
variable (C:Cu) (N213:Yq1)
def gam167:List (Nat × Fn1):=[(213,yq1 N213)]
noncomputable def run167 (k:Nat) (a:BY) (b:Bool) (d:BY) (K:Zq4):Oo:=runK prog (lookG (gam167 N213)) 6 lv0 C k f167 (some (164,(.ss [.str a,.bool b]))) [.s (.str d)] (zq4 K)
theorem run167_eq (k:Nat) (a:BY) (b:Bool) (d:BY) (K:Zq4):run167 C N213 k a b d K =
 N213 a d fun r1=>(cut a none (some (i64.wrap ((a.length:Int) - (r1.length:Int))))).bind fun s2=>K s2 r1 b:=by kernel_rfl
variable {N213}
theorem as167 (S:SP G ng) (h213:FnP G ng 213 (yq1 N213)) {A:Yq4} (hA:Lq4 A (run167 cut0 N213 big)):FnP G ng 167 (yq4 A):=xq4 S (l:=gam167 N213) (mc h213 mn) func167 (by kernel_rfl) hA
end
def lvs168:Lv
 | 321 | 385=>kk [0,3,4]
 | _=>none
section
variable (C:Cu) (N164:Yq2) (N166:Yq3)
def gam168:List (Nat × Fn1):=[(164,yq2 N164),(166,yq3 N166)]
def run168 (k:Nat) (a:BY) (b:Bool) (K:Zq2):Oo:=runK prog (lookG (gam168 N164 N166)) 5 lvs168 C k f168 (some (164,(.ss [.str a,.bool b]))) [] (zq2 K)
def p1_168 (k:Nat) (a:BY) (b:Bool) (d f:Int) (K:Zq2):Oo:=C 321 ([.box 164 (.ss [.str a,.bool b]),.u,.u,iv d,iv f]++us 26) (aK (gam168 N164 N166) 5 lvs168 C k f168 (some 164) (zq2 K) [1,1,1])
def p2_168 (k:Nat) (a:BY) (b:Bool) (d f:Int) (K:Zq2):Oo:=C 385 ([.box 164 (.ss [.str a,.bool b]),.u,.u,iv d,iv f]++us 26) (aK (gam168 N164 N166) 5 lvs168 C k f168 (some 164) (zq2 K) [1,1,1,1])
theorem run168_eq (k:Nat) (a:BY) (b:Bool) (K:Zq2):run168 C N164 N166 k a b K =
 N164 a b 1 2 fun r1 r2 r3=>N166 r2 r3 [58] fun r4 r5 r6=>bif r4 != 0 then N164 r5 r6 2 2 fun r7 r8 r9=>p1_168 C N164 N166 k r8 r9 r1 r7 K else p1_168 C N164 N166 k r5 r6 r1 0 K:=by kernel_rfl
theorem p1_168_eq (hC:Cv C) (k a b d f K):p1_168 C N164 N166 k a b d f K =
 bif b then p2_168 C N164 N166 k a true d f K else bif decide (d > 23) then p2_168 C N164 N166 k a true d f K else p2_168 C N164 N166 k a (decide (f > 59)) d f K:=hC.t (by kernel_rfl)
theorem p2_168_eq (hC:Cv C) (k a b d f K):p2_168 C N164 N166 k a b d f K =
 K (i64.wrap ((i64.wrap ((60:Int) * d))+f)) a b:=hC.t (by kernel_rfl)
variable {N164 N166}
theorem as168 (S:SP G ng) (h164:FnP G ng 164 (yq2 N164)) (h166:FnP G ng 166 (yq3 N166)) {A:Yq5} (hA:Lq5 A (run168 cut0 N164 N166 big)):FnP G ng 168 (yq5 A):=xq5 S (l:=gam168 N164 N166) (mc h164 (mc h166 mn)) func168 (by kernel_rfl) hA
end
section
variable (C:Cu) (N170:Yq8)
def gam169:List (Nat × Fn1):=[(170,yq8 N170)]
noncomputable def run169 (k:Nat) (a b d f g i:Int) (l:BY) (m:Int) (K:Zq5):Oo:=runK prog (lookG (gam169 N170)) 3 lv0 C k f169 none [.agg (.ss [.int .i64 a,.int .i64 b,.int .i64 d,.int .i64 f,.int .i64 g,.int .i64 i,.str l,.int .i64 m])] (zq5 K)
theorem run169_eq (k:Nat) (a b d f g i:Int) (l:BY) (m:Int) (K:Zq5):run169 C N170 k a b d f g i l m K =
 bif decide (d ≥ 1) then N170 a b fun r1=>bif decide (d≤r1) then bif decide (f<24) then bif decide (g<60) then K (decide (i<60)) else K false else K false else K false else K false:=by kernel_rfl
variable {N170}
theorem as169 (S:SP G ng) (h170:FnP G ng 170 (yq8 N170)) {A:Yq6} (hA:Lq6 A (run169 cut0 N170 big)):FnP G ng 169 (yq6 A):=xq6 S (l:=gam169 N170) (mc h170 mn) func169 (by kernel_rfl) hA
end
def lvs170:Lv
 | 194=>kk [0,1,5]
 | 322=>kk [1,16]
 | 578=>kk [37]
 | _=>none
section
variable (C:Cu)
def gam170:List (Nat × Fn1):=[]
def run170 (k:Nat) (a b:Int) (K:Zq7):Oo:=runK prog (lookG (gam170)) 5 lvs170 C k f170 none [.s (.int .i64 a),.s (.int .i64 b)] (zq7 K)
def p1_170 (k:Nat) (a b:Int) (d:Bool) (K:Zq7):Oo:=C 194 ([iv a,iv b,.u,.u,.u,bv d]++us 46) (aK gam170 5 lvs170 C k f170 none (zq7 K) [1,0,0,1])
def p2_170 (k:Nat) (a:Int) (b:Bool) (K:Zq7):Oo:=C 322 ([.u,iv a]++us 14++[bv b]++us 35) (aK gam170 5 lvs170 C k f170 none (zq7 K) [1,0,0,1,1,1])
def p3_170 (k:Nat) (a:Bool) (K:Zq7):Oo:=C 578 (us 37++[bv a]++us 14) (aK gam170 5 lvs170 C k f170 none (zq7 K) [1,0,0,1,1,1,1,1,1,1])
theorem run170_eq (k:Nat) (a b:Int) (K:Zq7):run170 C k a b K =
 bif decide (a<0) then p1_170 C k a b true K else bif decide (b<1) then p1_170 C k a b true K else p1_170 C k a b (decide (b > 12)) K:=by kernel_rfl
theorem p1_170_eq (hC:Cv C) (k a b d K):p1_170 C k a b d K =
 bif d then K 0 else bif b==2 then bif (a.tmod 4)==0 then bif (a.tmod 100) != 0 then p2_170 C k b true K else p2_170 C k b ((a.tmod 400)==0) K else p2_170 C k b false K else p2_170 C k b false K:=hC.t (by kernel_rfl)
theorem p2_170_eq (hC:Cv C) (k a b K):p2_170 C k a b K =
 bif b then K 29 else bif a==2 then K 28 else bif a==4 then p3_170 C k true K else bif a==6 then p3_170 C k true K else bif a==9 then p3_170 C k true K else p3_170 C k (a==11) K:=hC.t (by kernel_rfl)
theorem p3_170_eq (hC:Cv C) (k a K):p3_170 C k a K =
 bif a then K 30 else K 31:=hC.t (by kernel_rfl)
theorem as170 (S:SP G ng) {A:Yq8} (hA:Lq8 A (run170 cut0 big)):FnP G ng 170 (yq8 A):=xq8 S (l:=gam170) mn func170 (by kernel_rfl) hA
end
def lvs213:Lv
 | 1000194=>kk [0,1,11]
 | 1000450=>kk [0,1,5,6,7,11,17]
 | _=>none
section
variable (C:Cu)
def gam213:List (Nat × Fn1):=[]
def run213 (k:Nat) (a b:BY) (K:Zq1):Oo:=runK prog (lookG (gam213)) 10 lvs213 C k f213 none [.s (.str a),.s (.str b)] (zq1 K)
def l1_213 (k j0:Nat) (a b d:BY) (f:Nat) (K:Zq1):Oo:=C 1000194 ([sv a,sv b]++us 9++[.iter d f]++us 20) (hK gam213 10 lvs213 C k f213 none (zq1 K) j0 [1,0,1,0])
def l2_213 (k j0 j1:Nat) (a b:BY) (d f:Int) (g:Bool) (i:BY) (l:Nat) (m:BY) (o:Nat) (K:Zq1):Oo:=C 1000450 ([sv a,sv b,.u,.u,.u,iv d,.c (.s (.int .i32 f)),bv g,.u,.u,.u,.iter i l,.u,.u,.u,.u,.u,.iter m o]++us 14) (hK gam213 10 lvs213 C k f213 none (zq1 K) j1 [1,0,1,0,j0,1,1,0,1,1,0,1,0])
theorem run213_eq (k:Nat) (a b:BY) (K:Zq1):run213 C k a b K =
 l1_213 C k k a b a 0 K:=by kernel_rfl
theorem l1_213_eq (hC:Cv C) (k j0 a b d f K):l1_213 C k (j0+1) a b d f K =
 bif decide (f<d.length) then l2_213 C k j0 k a b (f:Int) ((Utf8.decode ⟨⟨d⟩⟩ f).1:Int) false d (f+(Utf8.decode ⟨⟨d⟩⟩ f).2) b 0 K else K []:=hC.t (by kernel_rfl)
theorem l2_213_eq (hC:Cv C) (k j0 j1 a b d f g i l m o K):l2_213 C k j0 (j1+1) a b d f g i l m o K =
 bif decide (o<m.length) then bif g then l2_213 C k j0 j1 a b d f true i l m (o+(Utf8.decode ⟨⟨m⟩⟩ o).2) K else l2_213 C k j0 j1 a b d f (f==((Utf8.decode ⟨⟨m⟩⟩ o).1:Int)) i l m (o+(Utf8.decode ⟨⟨m⟩⟩ o).2) K else bif !g then (cut a (some d) none).bind fun s1=>K s1 else l1_213 C k j0 a b i l K:=hC.t (by kernel_rfl)
theorem as213 (S:SP G ng) {A:Yq1} (hA:Lq1 A (run213 cut0 big)):FnP G ng 213 (yq1 A):=xq1 S (l:=gam213) mn func213 (by kernel_rfl) hA
end
def lvs67:Lv
 | 897=>kk [7]
 | _=>none
section
variable (C:Cu) (N43:Yq14) (N110:Yq7) (N111:Yq9) (N112:Yq12)
def gam67:List (Nat × Fn1):=[(43,yq14 N43),(110,yq7 N110),(111,yq9 N111),(112,yq12 N112)]
def run67 (k:Nat) (a:BY) (K:Zq9):Oo:=runK prog (lookG (gam67 N43 N110 N111 N112)) 4 lvs67 C k f67 none [.s (.str a)] (zq9 K)
def p1_67 (k:Nat) (a:BY) (K:Zq9):Oo:=C 897 (us 7++[sv a]++us 57) (aK (gam67 N43 N110 N111 N112) 4 lvs67 C k f67 none (zq9 K) [1,1,1,1,1,1,1,1,1])
theorem run67_eq (k:Nat) (a:BY) (K:Zq9):run67 C N43 N110 N111 N112 k a K =
 N110 a fun r1 r2 r3 r4 r5 r6 r7 r8 r9 r10=>bif !r10 then K [] false else bif r9 then N43 a fun r11=>K r11 true else N111 r1 r2 r3 r4 r5 r6 r7 r8 fun r12 r13 r14 r15 r16 r17 r18 r19 r20=>bif !r20 then K [] false else N112 r12 4 fun r21=>(cat r21 [45]).bind fun s22=>N112 r13 2 fun r23=>(cat s22 r23).bind fun s24=>(cat s24 [45]).bind fun s25=>N112 r14 2 fun r26=>(cat s25 r26).bind fun s27=>N112 r15 2 fun r28=>(cat [84] r28).bind fun s29=>(cat s29 [58]).bind fun s30=>N112 r16 2 fun r31=>(cat s30 r31).bind fun s32=>(cat s32 [58]).bind fun s33=>N112 r17 2 fun r34=>(cat s33 r34).bind fun s35=>(cat s27 s35).bind fun s36=>bif !(r18==[]) then (cat [46] r18).bind fun s37=>(cat s36 s37).bind fun s38=>p1_67 C N43 N110 N111 N112 k s38 K else p1_67 C N43 N110 N111 N112 k s36 K:=by kernel_rfl
theorem p1_67_eq (hC:Cv C) (k a K):p1_67 C N43 N110 N111 N112 k a K =
 (cat a [90]).bind fun s39=>K s39 true:=hC.t (by kernel_rfl)
variable {N43 N110 N111 N112}
theorem as67 (S:SP G ng) (h43:FnP G ng 43 (yq14 N43)) (h110:FnP G ng 110 (yq7 N110)) (h111:FnP G ng 111 (yq9 N111)) (h112:FnP G ng 112 (yq12 N112)) {A:Yq15} (hA:Lq15 A (run67 cut0 N43 N110 N111 N112 big)):FnP G ng 67 (yq15 A):=xq15 S (l:=gam67 N43 N110 N111 N112) (mc h43 (mc h110 (mc h111 (mc h112 mn)))) func67 (by kernel_rfl) hA
end
section
variable (C:Cu) (N68:Yq14)
def gam43:List (Nat × Fn1):=[(68,yq14 N68)]
noncomputable def run43 (k:Nat) (a:BY) (K:Zq1):Oo:=runK prog (lookG (gam43 N68)) 3 lv0 C k f43 none [.s (.str a)] (zq1 K)
theorem run43_eq (k:Nat) (a:BY) (K:Zq1):run43 C N68 k a K =
 N68 a fun r1=>K r1:=by kernel_rfl
variable {N68}
theorem as43 (S:SP G ng) (h68:FnP G ng 68 (yq14 N68)) {A:Yq14} (hA:Lq14 A (run43 cut0 N68 big)):FnP G ng 43 (yq14 A):=xq14 S (l:=gam43 N68) (mc h68 mn) func43 (by kernel_rfl) hA
end
variable {G:World→Prop} {ng:Nat}
def lvs76:Lv
 | 642=>kk [0,4,6,8,9,44]
 | 1001027=>kk [0,4,6,8,9,10]
 | _=>none
section
variable (C:Cu) (N123:Yq16) (N124:Yq17) (N125:Yq8) (N126:Yq18) (N127:Yq19)
def gam76:List (Nat × Fn1):=[(123,yq16 N123),(124,yq17 N124),(125,yq8 N125),(126,yq18 N126),(127,yq19 N127)]
def run76 (k:Nat) (a:BY) (K:Zq9):Oo:=runK prog (lookG (gam76 N123 N124 N125 N126 N127)) 4 lvs76 C k f76 none [.s (.str a)] (zq9 K)
def p1_76 (k:Nat) (a:BY) (b d f g:Int) (i:Bool) (K:Zq9):Oo:=C 642 ([sv a,.u,.u,.u,iv b,.u,iv d,.u,iv f,iv g]++us 34++[bv i]++us 59) (aK (gam76 N123 N124 N125 N126 N127) 4 lvs76 C k f76 none (zq9 K) [1,1,1,1,1,1,0,1])
def l2_76 (k j0:Nat) (a:BY) (b d f g i:Int) (K:Zq9):Oo:=C 1001027 ([sv a,.u,.u,.u,iv b,.u,iv d,.u,iv f,iv g,iv i]++us 93) (hK (gam76 N123 N124 N125 N126 N127) 4 lvs76 C k f76 none (zq9 K) j0 [1,1,1,1,1,1,1,1,1,0,0])
theorem run76_eq (k:Nat) (a:BY) (K:Zq9):run76 C N123 N124 N125 N126 N127 k a K =
 N123 a 0 4 4 fun r1 r2=>bif decide (r2<0) then K [] false else N124 a r2 [45] 1 2 fun r3 r4=>bif decide (r4<0) then K [] false else N124 a r4 [45] 1 2 fun r5 r6=>bif decide (r6<0) then p1_76 C N123 N124 N125 N126 N127 k a r1 r3 r5 r6 true K else bif decide (r5<1) then p1_76 C N123 N124 N125 N126 N127 k a r1 r3 r5 r6 true K else N125 r1 r3 fun r7=>p1_76 C N123 N124 N125 N126 N127 k a r1 r3 r5 r6 (decide (r5 > r7)) K:=by kernel_rfl
theorem p1_76_eq (hC:Cv C) (k a b d f g i K):p1_76 C N123 N124 N125 N126 N127 k a b d f g i K =
 bif i then K [] false else bif g==(a.length:Int) then bif g != 10 then K [] false else K a true else N126 a g [84,116] fun r8=>l2_76 C N123 N124 N125 N126 N127 k k a b d f g r8 K:=hC.t (by kernel_rfl)
theorem l2_76_eq (hC:Cv C) (k j0 a b d f g i K):l2_76 C N123 N124 N125 N126 N127 k (j0+1) a b d f g i K =
 bif decide (i<0) then bif decide (g<(a.length:Int)) then (at? a g).bind fun b9=>bif (b9.toNat:Int)==32 then bif (i64.wrap (g+1))==(a.length:Int) then l2_76 C N123 N124 N125 N126 N127 k j0 a b d f (i64.wrap (g+1)) (i64.wrap (g+1)) K else (at? a (i64.wrap (g+1))).bind fun b10=>bif (b10.toNat:Int) != 32 then (at? a (i64.wrap (g+1))).bind fun b11=>bif (b11.toNat:Int) != 9 then l2_76 C N123 N124 N125 N126 N127 k j0 a b d f (i64.wrap (g+1)) (i64.wrap (g+1)) K else l2_76 C N123 N124 N125 N126 N127 k j0 a b d f (i64.wrap (g+1)) i K else l2_76 C N123 N124 N125 N126 N127 k j0 a b d f (i64.wrap (g+1)) i K else (at? a g).bind fun b12=>bif (b12.toNat:Int)==9 then bif (i64.wrap (g+1))==(a.length:Int) then l2_76 C N123 N124 N125 N126 N127 k j0 a b d f (i64.wrap (g+1)) (i64.wrap (g+1)) K else (at? a (i64.wrap (g+1))).bind fun b13=>bif (b13.toNat:Int) != 32 then (at? a (i64.wrap (g+1))).bind fun b14=>bif (b14.toNat:Int) != 9 then l2_76 C N123 N124 N125 N126 N127 k j0 a b d f (i64.wrap (g+1)) (i64.wrap (g+1)) K else l2_76 C N123 N124 N125 N126 N127 k j0 a b d f (i64.wrap (g+1)) i K else l2_76 C N123 N124 N125 N126 N127 k j0 a b d f (i64.wrap (g+1)) i K else bif decide (i<0) then K [] false else N127 a i b d f fun r15 r16=>K r15 r16 else bif decide (i<0) then K [] false else N127 a i b d f fun r17 r18=>K r17 r18 else bif decide (i<0) then K [] false else N127 a i b d f fun r19 r20=>K r19 r20:=hC.t (by kernel_rfl)
variable {N123 N124 N125 N126 N127}
theorem as76 (S:SP G ng) (h123:FnP G ng 123 (yq16 N123)) (h124:FnP G ng 124 (yq17 N124)) (h125:FnP G ng 125 (yq8 N125)) (h126:FnP G ng 126 (yq18 N126)) (h127:FnP G ng 127 (yq19 N127)) {A:Yq15} (hA:Lq15 A (run76 cut0 N123 N124 N125 N126 N127 big)):FnP G ng 76 (yq15 A):=xq15 S (l:=gam76 N123 N124 N125 N126 N127) (mc h123 (mc h124 (mc h125 (mc h126 (mc h127 mn))))) func76 (by kernel_rfl) hA
end
def lvs123:Lv
 | 1000195=>kk [0,1,2,3,10,11]
 | _=>none
section
variable (C:Cu) (N92:Yq20)
def gam123:List (Nat × Fn1):=[(92,yq20 N92)]
def run123 (k:Nat) (a:BY) (b d f:Int) (K:Zq10):Oo:=runK prog (lookG (gam123 N92)) 12 lvs123 C k f123 none [.s (.str a),.s (.int .i64 b),.s (.int .i64 d),.s (.int .i64 f)] (zq10 K)
def l1_123 (k j0:Nat) (a:BY) (b d f g i:Int) (K:Zq10):Oo:=C 1000195 ([sv a,iv b,iv d,iv f]++us 6++[iv g,iv i]++us 35) (hK (gam123 N92) 12 lvs123 C k f123 none (zq10 K) j0 [1,1,0,0])
theorem run123_eq (k:Nat) (a:BY) (b d f:Int) (K:Zq10):run123 C N92 k a b d f K =
 l1_123 C N92 k k a b d f 0 b K:=by kernel_rfl
theorem l1_123_eq (hC:Cv C) (k j0 a b d f g i K):l1_123 C N92 k (j0+1) a b d f g i K =
 bif decide (i<(a.length:Int)) then bif decide ((i64.wrap (i - b))<f) then (at? a i).bind fun b1=>N92 (b1.toNat:Int) fun r2=>bif r2 then (at? a i).bind fun b3=>l1_123 C N92 k j0 a b d f (i64.wrap ((i64.wrap ((10:Int) * g))+(i64.wrap (u8.wrap ((b3.toNat:Int) - 48))))) (i64.wrap (i+1)) K else bif decide ((i64.wrap (i - b))<d) then K 0 (-1) else K g i else bif decide ((i64.wrap (i - b))<d) then K 0 (-1) else K g i else bif decide ((i64.wrap (i - b))<d) then K 0 (-1) else K g i:=hC.t (by kernel_rfl)
variable {N92}
theorem as123 (S:SP G ng) (h92:FnP G ng 92 (yq20 N92)) {A:Yq16} (hA:Lq16 A (run123 cut0 N92 big)):FnP G ng 123 (yq16 A):=xq16 S (l:=gam123 N92) (mc h92 mn) func123 (by kernel_rfl) hA
end
section
variable (C:Cu) (N123:Yq16) (N126:Yq18)
def gam124:List (Nat × Fn1):=[(123,yq16 N123),(126,yq18 N126)]
noncomputable def run124 (k:Nat) (a:BY) (b:Int) (d:BY) (f g:Int) (K:Zq10):Oo:=runK prog (lookG (gam124 N123 N126)) 13 lv0 C k f124 none [.s (.str a),.s (.int .i64 b),.s (.str d),.s (.int .i64 f),.s (.int .i64 g)] (zq10 K)
theorem run124_eq (k:Nat) (a:BY) (b:Int) (d:BY) (f g:Int) (K:Zq10):run124 C N123 N126 k a b d f g K =
 N126 a b d fun r1=>bif decide (r1<0) then K 0 (-1) else N123 a r1 f g fun r2 r3=>K r2 r3:=by kernel_rfl
variable {N123 N126}
theorem as124 (S:SP G ng) (h123:FnP G ng 123 (yq16 N123)) (h126:FnP G ng 126 (yq18 N126)) {A:Yq17} (hA:Lq17 A (run124 cut0 N123 N126 big)):FnP G ng 124 (yq17 A):=xq17 S (l:=gam124 N123 N126) (mc h123 (mc h126 mn)) func124 (by kernel_rfl) hA
end
def lvs125:Lv
 | 194=>kk [0,1,14]
 | 386=>kk [29]
 | 578=>kk [43]
 | _=>none
section
variable (C:Cu)
def gam125:List (Nat × Fn1):=[]
def run125 (k:Nat) (a b:Int) (K:Zq7):Oo:=runK prog (lookG (gam125)) 5 lvs125 C k f125 none [.s (.int .i64 a),.s (.int .i64 b)] (zq7 K)
def p1_125 (k:Nat) (a b:Int) (d:Bool) (K:Zq7):Oo:=C 194 ([iv a,iv b]++us 12++[bv d]++us 29) (aK gam125 5 lvs125 C k f125 none (zq7 K) [1,0,1])
def p2_125 (k:Nat) (a:Bool) (K:Zq7):Oo:=C 386 (us 29++[bv a]++us 14) (aK gam125 5 lvs125 C k f125 none (zq7 K) [1,1,0,1,0,0,1])
def p3_125 (k:Nat) (a:Bool) (K:Zq7):Oo:=C 578 (us 43++[bv a]) (aK gam125 5 lvs125 C k f125 none (zq7 K) [1,1,1,0,1])
theorem run125_eq (k:Nat) (a b:Int) (K:Zq7):run125 C k a b K =
 bif decide (a<0) then p1_125 C k a b true K else bif decide (b<1) then p1_125 C k a b true K else p1_125 C k a b (decide (b > 12)) K:=by kernel_rfl
theorem p1_125_eq (hC:Cv C) (k a b d K):p1_125 C k a b d K =
 bif d then K 0 else bif b==2 then bif (a.tmod 4)==0 then bif (a.tmod 100) != 0 then p2_125 C k true K else p2_125 C k ((a.tmod 400)==0) K else p2_125 C k false K else bif b==4 then p3_125 C k true K else bif b==6 then p3_125 C k true K else bif b==9 then p3_125 C k true K else p3_125 C k (b==11) K:=hC.t (by kernel_rfl)
theorem p2_125_eq (hC:Cv C) (k a K):p2_125 C k a K =
 bif a then K 29 else K 28:=hC.t (by kernel_rfl)
theorem p3_125_eq (hC:Cv C) (k a K):p3_125 C k a K =
 bif a then K 30 else K 31:=hC.t (by kernel_rfl)
theorem as125 (S:SP G ng) {A:Yq8} (hA:Lq8 A (run125 cut0 big)):FnP G ng 125 (yq8 A):=xq8 S (l:=gam125) mn func125 (by kernel_rfl) hA
end
def lvs126:Lv
 | 194=>kk [0,1,2,15]
 | 1000323=>kk [0,1,2,7]
 | _=>none
section
variable (C:Cu)
def gam126:List (Nat × Fn1):=[]
def run126 (k:Nat) (a:BY) (b:Int) (d:BY) (K:Zq7):Oo:=runK prog (lookG (gam126)) 8 lvs126 C k f126 none [.s (.str a),.s (.int .i64 b),.s (.str d)] (zq7 K)
def p1_126 (k:Nat) (a:BY) (b:Int) (d:BY) (f:Bool) (K:Zq7):Oo:=C 194 ([sv a,iv b,sv d]++us 12++[bv f]++us 15) (aK gam126 8 lvs126 C k f126 none (zq7 K) [1,0,1])
def l2_126 (k j0:Nat) (a:BY) (b:Int) (d:BY) (f:Int) (K:Zq7):Oo:=C 1000323 ([sv a,iv b,sv d,.u,.u,.u,.u,iv f]++us 23) (hK gam126 8 lvs126 C k f126 none (zq7 K) j0 [1,1,0,1,0])
theorem run126_eq (k:Nat) (a:BY) (b:Int) (d:BY) (K:Zq7):run126 C k a b d K =
 bif decide (b<0) then p1_126 C k a b d true K else p1_126 C k a b d (decide (b ≥ (a.length:Int))) K:=by kernel_rfl
theorem p1_126_eq (hC:Cv C) (k a b d f K):p1_126 C k a b d f K =
 bif f then K (-1) else l2_126 C k k a b d 0 K:=hC.t (by kernel_rfl)
theorem l2_126_eq (hC:Cv C) (k j0 a b d f K):l2_126 C k (j0+1) a b d f K =
 bif decide (f<(d.length:Int)) then (at? a b).bind fun b1=>(at? d f).bind fun b2=>bif (b1.toNat:Int)==(b2.toNat:Int) then K (i64.wrap (b+1)) else l2_126 C k j0 a b d (i64.wrap (f+1)) K else K (-1):=hC.t (by kernel_rfl)
theorem as126 (S:SP G ng) {A:Yq18} (hA:Lq18 A (run126 cut0 big)):FnP G ng 126 (yq18 A):=xq18 S (l:=gam126) mn func126 (by kernel_rfl) hA
end
def lvs127:Lv
 | 642=>kk [0,2,3,4,12,14,16,17,60]
 | 1157 | 1001155=>kk [0,2,3,4,12,14,16,17,18]
 | 1857=>kk [23]
 | 1000963=>kk [0,2,3,4,12,14,16,19,20]
 | _=>none
section
variable (C:Cu) (N92:Yq20) (N123:Yq16) (N124:Yq17) (N126:Yq18) (N178:Yq21) (N179:Yq22) (N180:Yq10)
def gam127:List (Nat × Fn1):=[(92,yq20 N92),(123,yq16 N123),(124,yq17 N124),(126,yq18 N126),(178,yq21 N178),(179,yq22 N179),(180,yq10 N180)]
def run127 (k:Nat) (a:BY) (b d f g:Int) (K:Zq9):Oo:=runK prog (lookG (gam127 N92 N123 N124 N126 N178 N179 N180)) 12 lvs127 C k f127 none [.s (.str a),.s (.int .i64 b),.s (.int .i64 d),.s (.int .i64 f),.s (.int .i64 g)] (zq9 K)
def p1_127 (k:Nat) (a:BY) (b d f g i l m:Int) (o:Bool) (K:Zq9):Oo:=C 642 ([sv a,.u,iv b,iv d,iv f]++us 7++[iv g,.u,iv i,.u,iv l,iv m]++us 42++[bv o]++us 75) (aK (gam127 N92 N123 N124 N126 N178 N179 N180) 12 lvs127 C k f127 none (zq9 K) [1,1,1,1,1,1,0,1])
def l2_127 (k j0:Nat) (a:BY) (b d f g i l m o:Int) (K:Zq9):Oo:=C 1000963 ([sv a,.u,iv b,iv d,iv f]++us 7++[iv g,.u,iv i,.u,iv l,.u,.u,iv m,iv o]++us 115) (hK (gam127 N92 N123 N124 N126 N178 N179 N180) 12 lvs127 C k f127 none (zq9 K) j0 [1,1,1,1,1,1,1,1,0,1,1,0,1,0,0])
def p3_127 (k:Nat) (a:BY) (b d f g i l m:Int) (o:BY) (K:Zq9):Oo:=C 1157 ([sv a,.u,iv b,iv d,iv f]++us 7++[iv g,.u,iv i,.u,iv l,iv m,sv o]++us 117) (aK (gam127 N92 N123 N124 N126 N178 N179 N180) 12 lvs127 C k f127 none (zq9 K) [1,1,1,1,1,1,1,1,1])
def l4_127 (k j0:Nat) (a:BY) (b d f g i l m:Int) (o:BY) (K:Zq9):Oo:=C 1001155 ([sv a,.u,iv b,iv d,iv f]++us 7++[iv g,.u,iv i,.u,iv l,iv m,sv o]++us 117) (hK (gam127 N92 N123 N124 N126 N178 N179 N180) 12 lvs127 C k f127 none (zq9 K) j0 [1,1,1,1,1,1,1,1,1,0,0])
def p5_127 (k:Nat) (a:BY) (K:Zq9):Oo:=C 1857 (us 23++[sv a]++us 112) (aK (gam127 N92 N123 N124 N126 N178 N179 N180) 12 lvs127 C k f127 none (zq9 K) [1,1,1,1,1,1,1,1,1,1,1,1,1,1,1,1])
theorem run127_eq (k:Nat) (a:BY) (b d f g:Int) (K:Zq9):run127 C N92 N123 N124 N126 N178 N179 N180 k a b d f g K =
 N123 a b 1 2 fun r1 r2=>bif decide (r2<0) then K [] false else N124 a r2 [58] 2 2 fun r3 r4=>bif decide (r4<0) then K [] false else N124 a r4 [58] 2 2 fun r5 r6=>bif decide (r6<0) then p1_127 C N92 N123 N124 N126 N178 N179 N180 k a d f g r1 r3 r5 r6 true K else bif decide (r1 > 23) then p1_127 C N92 N123 N124 N126 N178 N179 N180 k a d f g r1 r3 r5 r6 true K else bif decide (r3 > 59) then p1_127 C N92 N123 N124 N126 N178 N179 N180 k a d f g r1 r3 r5 r6 true K else p1_127 C N92 N123 N124 N126 N178 N179 N180 k a d f g r1 r3 r5 r6 (decide (r5 > 59)) K:=by kernel_rfl
theorem p1_127_eq (hC:Cv C) (k a b d f g i l m o K):p1_127 C N92 N123 N124 N126 N178 N179 N180 k a b d f g i l m o K =
 bif o then K [] false else N126 a m [46] fun r7=>bif decide (r7 > 0) then l2_127 C N92 N123 N124 N126 N178 N179 N180 k k a b d f g i l r7 r7 K else p3_127 C N92 N123 N124 N126 N178 N179 N180 k a b d f g i l m [] K:=hC.t (by kernel_rfl)
theorem l2_127_eq (hC:Cv C) (k j0 a b d f g i l m o K):l2_127 C N92 N123 N124 N126 N178 N179 N180 k (j0+1) a b d f g i l m o K =
 bif decide (o<(a.length:Int)) then (at? a o).bind fun b8=>N92 (b8.toNat:Int) fun r9=>bif r9 then l2_127 C N92 N123 N124 N126 N178 N179 N180 k j0 a b d f g i l m (i64.wrap (o+1)) K else (cut a (some m) (some o)).bind fun s10=>p3_127 C N92 N123 N124 N126 N178 N179 N180 k a b d f g i l o s10 K else (cut a (some m) (some o)).bind fun s11=>p3_127 C N92 N123 N124 N126 N178 N179 N180 k a b d f g i l o s11 K:=hC.t (by kernel_rfl)
theorem p3_127_eq (hC:Cv C) (k a b d f g i l m o K):p3_127 C N92 N123 N124 N126 N178 N179 N180 k a b d f g i l m o K =
 l4_127 C N92 N123 N124 N126 N178 N179 N180 k k a b d f g i l m o K:=hC.t (by kernel_rfl)
theorem l4_127_eq (hC:Cv C) (k j0 a b d f g i l m o K):l4_127 C N92 N123 N124 N126 N178 N179 N180 k (j0+1) a b d f g i l m o K =
 bif decide ((o.length:Int) > 0) then (at? o (i64.wrap ((o.length:Int) - 1))).bind fun b12=>bif (b12.toNat:Int)==48 then (cut o none (some (i64.wrap ((o.length:Int) - 1)))).bind fun s13=>l4_127 C N92 N123 N124 N126 N178 N179 N180 k j0 a b d f g i l m s13 K else N178 a m fun r14 r15=>bif !r15 then K [] false else N179 b d f (i64.wrap ((i64.wrap ((i64.wrap ((60:Int) * g))+i)) - r14)) fun r16 r17=>bif !r17 then K [] false else (cat r16 [58]).bind fun s18=>N180 l fun r19=>(cat s18 r19).bind fun s20=>bif !(o==[]) then (cat s20 [46]).bind fun s21=>(cat s21 o).bind fun s22=>p5_127 C N92 N123 N124 N126 N178 N179 N180 k s22 K else p5_127 C N92 N123 N124 N126 N178 N179 N180 k s20 K else N178 a m fun r23 r24=>bif !r24 then K [] false else N179 b d f (i64.wrap ((i64.wrap ((i64.wrap ((60:Int) * g))+i)) - r23)) fun r25 r26=>bif !r26 then K [] false else (cat r25 [58]).bind fun s27=>N180 l fun r28=>(cat s27 r28).bind fun s29=>bif !(o==[]) then (cat s29 [46]).bind fun s30=>(cat s30 o).bind fun s31=>p5_127 C N92 N123 N124 N126 N178 N179 N180 k s31 K else p5_127 C N92 N123 N124 N126 N178 N179 N180 k s29 K:=hC.t (by kernel_rfl)
theorem p5_127_eq (hC:Cv C) (k a K):p5_127 C N92 N123 N124 N126 N178 N179 N180 k a K =
 (cat a [90]).bind fun s32=>K s32 true:=hC.t (by kernel_rfl)
variable {N92 N123 N124 N126 N178 N179 N180}
theorem as127 (S:SP G ng) (h92:FnP G ng 92 (yq20 N92)) (h123:FnP G ng 123 (yq16 N123)) (h124:FnP G ng 124 (yq17 N124)) (h126:FnP G ng 126 (yq18 N126)) (h178:FnP G ng 178 (yq21 N178)) (h179:FnP G ng 179 (yq22 N179)) (h180:FnP G ng 180 (yq10 N180)) {A:Yq19} (hA:Lq19 A (run127 cut0 N92 N123 N124 N126 N178 N179 N180 big)):FnP G ng 127 (yq19 A):=xq19 S (l:=gam127 N92 N123 N124 N126 N178 N179 N180) (mc h92 (mc h123 (mc h124 (mc h126 (mc h178 (mc h179 (mc h180 mn))))))) func127 (by kernel_rfl) hA
end
def lvs178:Lv
 | 450=>kk [0,1,43]
 | 642=>kk [0,1,6,7,55]
 | 962=>kk [0,1,6,9,73]
 | 1090=>kk [0,1,6,8]
 | 1000259=>kk [0,1]
 | _=>none
section
variable (C:Cu) (N124:Yq17)
def gam178:List (Nat × Fn1):=[(124,yq17 N124)]
def run178 (k:Nat) (a:BY) (b:Int) (K:Zq11):Oo:=runK prog (lookG (gam178 N124)) 6 lvs178 C k f178 none [.s (.str a),.s (.int .i64 b)] (zq11 K)
def l1_178 (k j0:Nat) (a:BY) (b:Int) (K:Zq11):Oo:=C 1000259 ([sv a,iv b]++us 85) (hK (gam178 N124) 6 lvs178 C k f178 none (zq11 K) j0 [1,1,0,0])
def p2_178 (k:Nat) (a:BY) (b:Int) (d:Bool) (K:Zq11):Oo:=C 450 ([sv a,iv b]++us 41++[bv d]++us 43) (aK (gam178 N124) 6 lvs178 C k f178 none (zq11 K) [1,1,1,0,1])
def p3_178 (k:Nat) (a:BY) (b d f:Int) (g:Bool) (K:Zq11):Oo:=C 642 ([sv a,iv b,.u,.u,.u,.u,iv d,iv f]++us 47++[bv g]++us 31) (aK (gam178 N124) 6 lvs178 C k f178 none (zq11 K) [1,1,1,1,1,0,1])
def p4_178 (k:Nat) (a:BY) (b d f:Int) (g:Bool) (K:Zq11):Oo:=C 962 ([sv a,iv b,.u,.u,.u,.u,iv d,.u,.u,iv f]++us 63++[bv g]++us 13) (aK (gam178 N124) 6 lvs178 C k f178 none (zq11 K) [1,1,1,1,1,1,1,0,1,0,1,0,1])
def p5_178 (k:Nat) (a:BY) (b d f:Int) (K:Zq11):Oo:=C 1090 ([sv a,iv b,.u,.u,.u,.u,iv d,.u,iv f]++us 78) (aK (gam178 N124) 6 lvs178 C k f178 none (zq11 K) [1,1,1,1,1,1,1,1])
theorem run178_eq (k:Nat) (a:BY) (b:Int) (K:Zq11):run178 C N124 k a b K =
 bif b==(a.length:Int) then K 0 true else l1_178 C N124 k k a b K:=by kernel_rfl
theorem l1_178_eq (hC:Cv C) (k j0 a b K):l1_178 C N124 k (j0+1) a b K =
 bif decide (b<(a.length:Int)) then (at? a b).bind fun b1=>bif (b1.toNat:Int)==32 then l1_178 C N124 k j0 a (i64.wrap (b+1)) K else (at? a b).bind fun b2=>bif (b2.toNat:Int)==9 then l1_178 C N124 k j0 a (i64.wrap (b+1)) K else bif (i64.wrap (b+1))==(a.length:Int) then (at? a b).bind fun b3=>p2_178 C N124 k a b ((b3.toNat:Int)==90) K else p2_178 C N124 k a b false K else bif (i64.wrap (b+1))==(a.length:Int) then (at? a b).bind fun b4=>p2_178 C N124 k a b ((b4.toNat:Int)==90) K else p2_178 C N124 k a b false K:=hC.t (by kernel_rfl)
theorem p2_178_eq (hC:Cv C) (k a b d K):p2_178 C N124 k a b d K =
 bif d then K 0 true else N124 a b [43,45] 1 2 fun r5 r6=>bif decide (r6<0) then p3_178 C N124 k a b r5 r6 true K else p3_178 C N124 k a b r5 r6 (decide (r5 > 23)) K:=hC.t (by kernel_rfl)
theorem p3_178_eq (hC:Cv C) (k a b d f g K):p3_178 C N124 k a b d f g K =
 bif g then K 0 false else bif decide (f<(a.length:Int)) then N124 a f [58] 2 2 fun r7 r8=>bif r8 != (a.length:Int) then p4_178 C N124 k a b d r7 true K else p4_178 C N124 k a b d r7 (decide (r7 > 59)) K else p5_178 C N124 k a b d 0 K:=hC.t (by kernel_rfl)
theorem p4_178_eq (hC:Cv C) (k a b d f g K):p4_178 C N124 k a b d f g K =
 bif g then K 0 false else p5_178 C N124 k a b d f K:=hC.t (by kernel_rfl)
theorem p5_178_eq (hC:Cv C) (k a b d f K):p5_178 C N124 k a b d f K =
 (at? a b).bind fun b9=>bif (b9.toNat:Int)==45 then K (i64.wrap ((i64.wrap (((-60):Int) * d)) - f)) true else K (i64.wrap ((i64.wrap ((60:Int) * d))+f)) true:=hC.t (by kernel_rfl)
variable {N124}
theorem as178 (S:SP G ng) (h124:FnP G ng 124 (yq17 N124)) {A:Yq21} (hA:Lq21 A (run178 cut0 N124 big)):FnP G ng 178 (yq21 A):=xq21 S (l:=gam178 N124) (mc h124 mn) func178 (by kernel_rfl) hA
end
def lvs179:Lv
 | 258 | 386 | 1026=>kk [0,1,2,3]
 | 640=>kk [0,1,3]
 | 1090=>kk [0,1,2,3,49]
 | _=>none
section
variable (C:Cu) (N125:Yq8) (N180:Yq10) (N219:Yq23)
def gam179:List (Nat × Fn1):=[(125,yq8 N125),(180,yq10 N180),(219,yq23 N219)]
def run179 (k:Nat) (a b d f:Int) (K:Zq9):Oo:=runK prog (lookG (gam179 N125 N180 N219)) 10 lvs179 C k f179 none [.s (.int .i64 a),.s (.int .i64 b),.s (.int .i64 d),.s (.int .i64 f)] (zq9 K)
def p1_179 (k:Nat) (a b d f:Int) (K:Zq9):Oo:=C 258 ([iv a,iv b,iv d,iv f]++us 60) (aK (gam179 N125 N180 N219) 10 lvs179 C k f179 none (zq9 K) [1,1])
def p2_179 (k:Nat) (a b d f:Int) (K:Zq9):Oo:=C 386 ([iv a,iv b,iv d,iv f]++us 60) (aK (gam179 N125 N180 N219) 10 lvs179 C k f179 none (zq9 K) [1,1,1])
def p3_179 (k:Nat) (a b d:Int) (K:Zq9):Oo:=C 640 ([iv a,iv b,.u,iv d]++us 60) (aK (gam179 N125 N180 N219) 10 lvs179 C k f179 none (zq9 K) [1,1,1,0,1,0,1,1])
def p4_179 (k:Nat) (a b d f:Int) (K:Zq9):Oo:=C 1026 ([iv a,iv b,iv d,iv f]++us 60) (aK (gam179 N125 N180 N219) 10 lvs179 C k f179 none (zq9 K) [1,1,1,1])
def p5_179 (k:Nat) (a b d f:Int) (g:Bool) (K:Zq9):Oo:=C 1090 ([iv a,iv b,iv d,iv f]++us 45++[bv g]++us 14) (aK (gam179 N125 N180 N219) 10 lvs179 C k f179 none (zq9 K) [1,1,1,1,0,1])
theorem run179_eq (k:Nat) (a b d f:Int) (K:Zq9):run179 C N125 N180 N219 k a b d f K =
 bif decide (f<0) then p1_179 C N125 N180 N219 k a b (i64.wrap (d - 1)) (i64.wrap (f+1440)) K else p1_179 C N125 N180 N219 k a b d f K:=by kernel_rfl
theorem p1_179_eq (hC:Cv C) (k a b d f K):p1_179 C N125 N180 N219 k a b d f K =
 bif decide (f ≥ 1440) then p2_179 C N125 N180 N219 k a b (i64.wrap (d+1)) (i64.wrap (f - 1440)) K else p2_179 C N125 N180 N219 k a b d f K:=hC.t (by kernel_rfl)
theorem p2_179_eq (hC:Cv C) (k a b d f K):p2_179 C N125 N180 N219 k a b d f K =
 bif decide (d<1) then bif decide ((i64.wrap (b - 1))<1) then p3_179 C N125 N180 N219 k (i64.wrap (a - 1)) 12 f K else p3_179 C N125 N180 N219 k a (i64.wrap (b - 1)) f K else N125 a b fun r1=>bif decide (d > r1) then bif decide ((i64.wrap (b+1)) > 12) then p4_179 C N125 N180 N219 k (i64.wrap (a+1)) 1 1 f K else p4_179 C N125 N180 N219 k a (i64.wrap (b+1)) 1 f K else p4_179 C N125 N180 N219 k a b d f K:=hC.t (by kernel_rfl)
theorem p3_179_eq (hC:Cv C) (k a b d K):p3_179 C N125 N180 N219 k a b d K =
 N125 a b fun r2=>p4_179 C N125 N180 N219 k a b r2 d K:=hC.t (by kernel_rfl)
theorem p4_179_eq (hC:Cv C) (k a b d f K):p4_179 C N125 N180 N219 k a b d f K =
 bif decide (a<0) then p5_179 C N125 N180 N219 k a b d f true K else p5_179 C N125 N180 N219 k a b d f (decide (a > 9999)) K:=hC.t (by kernel_rfl)
theorem p5_179_eq (hC:Cv C) (k a b d f g K):p5_179 C N125 N180 N219 k a b d f g K =
 bif g then K [] false else N219 a b d fun r3=>(cat r3 [84]).bind fun s4=>N180 (i64.wrap (f.tdiv 60)) fun r5=>(cat s4 r5).bind fun s6=>(cat s6 [58]).bind fun s7=>N180 (f.tmod 60) fun r8=>(cat s7 r8).bind fun s9=>K s9 true:=hC.t (by kernel_rfl)
variable {N125 N180 N219}
theorem as179 (S:SP G ng) (h125:FnP G ng 125 (yq8 N125)) (h180:FnP G ng 180 (yq10 N180)) (h219:FnP G ng 219 (yq23 N219)) {A:Yq22} (hA:Lq22 A (run179 cut0 N125 N180 N219 big)):FnP G ng 179 (yq22 A):=xq22 S (l:=gam179 N125 N180 N219) (mc h125 (mc h180 (mc h219 mn))) func179 (by kernel_rfl) hA
end
section
variable (C:Cu) (N20:Yq10)
def gam180:List (Nat × Fn1):=[(20,yq10 N20)]
noncomputable def run180 (k:Nat) (a:Int) (K:Zq1):Oo:=runK prog (lookG (gam180 N20)) 3 lv0 C k f180 none [.s (.int .i64 a)] (zq1 K)
theorem run180_eq (k:Nat) (a:Int) (K:Zq1):run180 C N20 k a K =
 N20 (i64.wrap (a.tdiv 10)) fun r1=>N20 (a.tmod 10) fun r2=>(cat r1 r2).bind fun s3=>K s3:=by kernel_rfl
variable {N20}
theorem as180 (S:SP G ng) (h20:FnP G ng 20 (yq10 N20)) {A:Yq10} (hA:Lq10 A (run180 cut0 N20 big)):FnP G ng 180 (yq10 A):=xq10 S (l:=gam180 N20) (mc h20 mn) func180 (by kernel_rfl) hA
end
section
variable (C:Cu) (N180:Yq10)
def gam219:List (Nat × Fn1):=[(180,yq10 N180)]
noncomputable def run219 (k:Nat) (a b d:Int) (K:Zq1):Oo:=runK prog (lookG (gam219 N180)) 7 lv0 C k f219 none [.s (.int .i64 a),.s (.int .i64 b),.s (.int .i64 d)] (zq1 K)
theorem run219_eq (k:Nat) (a b d:Int) (K:Zq1):run219 C N180 k a b d K =
 N180 (i64.wrap (a.tdiv 100)) fun r1=>N180 (a.tmod 100) fun r2=>(cat r1 r2).bind fun s3=>(cat s3 [45]).bind fun s4=>N180 b fun r5=>(cat s4 r5).bind fun s6=>(cat s6 [45]).bind fun s7=>N180 d fun r8=>(cat s7 r8).bind fun s9=>K s9:=by kernel_rfl
variable {N180}
theorem as219 (S:SP G ng) (h180:FnP G ng 180 (yq10 N180)) {A:Yq23} (hA:Lq23 A (run219 cut0 N180 big)):FnP G ng 219 (yq23 A):=xq23 S (l:=gam219 N180) (mc h180 mn) func219 (by kernel_rfl) hA
end
section
variable (C:Cu)
def gam92:List (Nat × Fn1):=[]
noncomputable def run92 (k:Nat) (a:Int) (K:Zq5):Oo:=runK prog (lookG (gam92)) 3 lv0 C k f92 none [.s (.int .u8 a)] (zq5 K)
theorem run92_eq (k:Nat) (a:Int) (K:Zq5):run92 C k a K =
 bif decide (a ≥ 48) then K (decide (a≤57)) else K false:=by kernel_rfl
theorem as92 (S:SP G ng) {A:Yq20} (hA:Lq20 A (run92 cut0 big)):FnP G ng 92 (yq20 A):=xq20 S (l:=gam92) mn func92 (by kernel_rfl) hA
end
def lvs20:Lv
 | 1000195=>kk [0,3]
 | _=>none
section
variable (C:Cu)
def gam20:List (Nat × Fn1):=[]
def run20 (k:Nat) (a:Int) (K:Zq1):Oo:=runK prog (lookG (gam20)) 4 lvs20 C k f20 none [.s (.int .i64 a)] (zq1 K)
def l1_20 (k j0:Nat) (a:Int) (b:BY) (K:Zq1):Oo:=C 1000195 ([iv a,.u,.u,sv b]++us 13) (hK gam20 4 lvs20 C k f20 none (zq1 K) j0 [1,1,0])
theorem run20_eq (k:Nat) (a:Int) (K:Zq1):run20 C k a K =
 l1_20 C k k a [] K:=by kernel_rfl
theorem l1_20_eq (hC:Cv C) (k j0 a b K):l1_20 C k (j0+1) a b K =
 (cat (([(u8.wrap (i64.wrap ((48:Int)+(a.tmod 10))))]:List Int).map fun n=>UInt8.ofNat n.toNat) b).bind fun s1=>bif (i64.wrap (a.tdiv 10))==0 then K s1 else l1_20 C k j0 (i64.wrap (a.tdiv 10)) s1 K:=hC.t (by kernel_rfl)
theorem as20 (S:SP G ng) {A:Yq10} (hA:Lq10 A (run20 cut0 big)):FnP G ng 20 (yq10 A):=xq10 S (l:=gam20) mn func20 (by kernel_rfl) hA
end
variable {G:World→Prop} {ng:Nat}
def lvs40:Lv
 | 1730=>kk [0,6]
 | 1858=>kk [6]
 | 1921=>kk []
 | 5000129=>kk [0,6,7,8]
 | 5000193=>kk [0,6,7,17]
 | 5000257=>kk [6,7,26]
 | 5000321=>kk [6,30]
 | _=>none
section
variable (C:Cu)
def gam40:List (Nat × Fn1):=[]
def run40 (k:Nat) (a:Int) (b:BY) (K:Zq12):Oo:=runK prog (lookG (gam40)) 7 lvs40 C k f40 none [.s (.int .i64 a),.s (.str b)] (zq12 K)
def p1_40 (k:Nat) (a:Int) (b:Bool) (d:BY) (f:Bool) (K:Zq12):Oo:=C 5000129 ([iv a,.u,.u,.u,.u,.u,bv b,sv d,bv f]++us 33) (aK gam40 7 lvs40 C k f40 none (zq12 K) [1,1,0,1,0,0,0,0,0,0,0,0,0,0,0,1])
def p2_40 (k:Nat) (a:Int) (b:Bool) (K:Zq12):Oo:=C 1730 ([iv a,.u,.u,.u,.u,.u,bv b]++us 35) (aK gam40 7 lvs40 C k f40 none (zq12 K) [1,1,0,1,0,0,0,0,0,1])
def p3_40 (k:Nat) (a:Int) (b:Bool) (d:BY) (f:Bool) (K:Zq12):Oo:=C 5000193 ([iv a,.u,.u,.u,.u,.u,bv b,sv d]++us 9++[bv f]++us 24) (aK gam40 7 lvs40 C k f40 none (zq12 K) [1,1,0,1,0,0,0,0,0,0,0,0,0,0,1,0,1])
def p4_40 (k:Nat) (a:Bool) (b:BY) (d:Bool) (K:Zq12):Oo:=C 5000257 (us 6++[bv a,sv b]++us 18++[bv d]++us 15) (aK gam40 7 lvs40 C k f40 none (zq12 K) [1,1,0,1,0,0,0,0,0,0,0,0,0,0,1,1,0,1])
def p5_40 (k:Nat) (a:Bool) (K:Zq12):Oo:=C 1858 (us 6++[bv a]++us 35) (aK gam40 7 lvs40 C k f40 none (zq12 K) [1,1,0,1,0,1])
def p6_40 (k:Nat) (a b:Bool) (K:Zq12):Oo:=C 5000321 (us 6++[bv a]++us 23++[bv b]++us 11) (aK gam40 7 lvs40 C k f40 none (zq12 K) [1,1,0,1,0,0,0,0,0,0,0,0,0,0,1,1,1,1])
def p7_40 (k:Nat) (K:Zq12):Oo:=C 1921 (us 42) (aK gam40 7 lvs40 C k f40 none (zq12 K) [1,1,1])
theorem run40_eq (k:Nat) (a:Int) (b:BY) (K:Zq12):run40 C k a b K =
 bif b==[121] then p1_40 C k a false b (b==[121]) K else bif b==[89] then p1_40 C k a false b (b==[89]) K else bif b==[121,101,115] then p1_40 C k a false b (b==[121,101,115]) K else bif b==[89,101,115] then p1_40 C k a false b (b==[89,101,115]) K else bif b==[89,69,83] then p1_40 C k a false b (b==[89,69,83]) K else bif b==[111,110] then p1_40 C k a false b (b==[111,110]) K else bif b==[79,110] then p1_40 C k a false b (b==[79,110]) K else p1_40 C k a false b (b==[79,78]) K:=by kernel_rfl
theorem p1_40_eq (hC:Cv C) (k a b d f K):p1_40 C k a b d f K =
 bif f then p2_40 C k a true K else bif d==[110] then p3_40 C k a b d (d==[110]) K else bif d==[78] then p3_40 C k a b d (d==[78]) K else bif d==[110,111] then p3_40 C k a b d (d==[110,111]) K else bif d==[78,111] then p3_40 C k a b d (d==[78,111]) K else bif d==[78,79] then p3_40 C k a b d (d==[78,79]) K else bif d==[111,102,102] then p3_40 C k a b d (d==[111,102,102]) K else bif d==[79,102,102] then p3_40 C k a b d (d==[79,102,102]) K else p3_40 C k a b d (d==[79,70,70]) K:=hC.t (by kernel_rfl)
theorem p2_40_eq (hC:Cv C) (k a b K):p2_40 C k a b K =
 bif b then K (a==11) (a==11) else K false (a==11):=hC.t (by kernel_rfl)
theorem p3_40_eq (hC:Cv C) (k a b d f K):p3_40 C k a b d f K =
 bif f then p2_40 C k a b K else bif d==[116,114,117,101] then p4_40 C k b d (d==[116,114,117,101]) K else bif d==[84,114,117,101] then p4_40 C k b d (d==[84,114,117,101]) K else p4_40 C k b d (d==[84,82,85,69]) K:=hC.t (by kernel_rfl)
theorem p4_40_eq (hC:Cv C) (k a b d K):p4_40 C k a b d K =
 bif d then p5_40 C k true K else bif b==[102,97,108,115,101] then p6_40 C k a (b==[102,97,108,115,101]) K else bif b==[70,97,108,115,101] then p6_40 C k a (b==[70,97,108,115,101]) K else p6_40 C k a (b==[70,65,76,83,69]) K:=hC.t (by kernel_rfl)
theorem p5_40_eq (hC:Cv C) (k a K):p5_40 C k a K =
 K a true:=hC.t (by kernel_rfl)
theorem p6_40_eq (hC:Cv C) (k a b K):p6_40 C k a b K =
 bif b then p5_40 C k a K else p7_40 C k K:=hC.t (by kernel_rfl)
theorem p7_40_eq (hC:Cv C) (k K):p7_40 C k K =
 K false false:=hC.t (by kernel_rfl)
theorem as40 (S:SP G ng) {A:Yq24} (hA:Lq24 A (run40 cut0 big)):FnP G ng 40 (yq24 A):=xq24 S (l:=gam40) mn func40 (by kernel_rfl) hA
end
def lvs42:Lv
 | 514=>kk [4]
 | _=>none
section
variable (C:Cu)
def gam42:List (Nat × Fn1):=[]
def run42 (k:Nat) (a:BY) (K:Zq5):Oo:=runK prog (lookG (gam42)) 3 lvs42 C k f42 none [.s (.str a)] (zq5 K)
def p1_42 (k:Nat) (a:Bool) (K:Zq5):Oo:=C 514 [.u,.u,.u,.u,bv a,.u,.u,.u,.u,.u] (aK gam42 3 lvs42 C k f42 none (zq5 K) [1,0,1,0,1])
theorem run42_eq (k:Nat) (a:BY) (K:Zq5):run42 C k a K =
 bif a==[] then p1_42 C k (a==[]) K else bif a==[126] then p1_42 C k (a==[126]) K else bif a==[110,117,108,108] then p1_42 C k (a==[110,117,108,108]) K else bif a==[78,117,108,108] then p1_42 C k (a==[78,117,108,108]) K else p1_42 C k (a==[78,85,76,76]) K:=by kernel_rfl
theorem p1_42_eq (hC:Cv C) (k a K):p1_42 C k a K =
 bif a then K true else K false:=hC.t (by kernel_rfl)
theorem as42 (S:SP G ng) {A:Yq25} (hA:Lq25 A (run42 cut0 big)):FnP G ng 42 (yq25 A):=xq25 S (l:=gam42) mn func42 (by kernel_rfl) hA
end
def lvs16:Lv
 | 450=>kk [1,4,6,7,8,25]
 | _=>none
section
variable (C:Cu) (N40:Yq24) (N41:Yq26) (N42:Yq25) (N43:Yq14)
def gam16:List (Nat × Fn1):=[(40,yq24 N40),(41,yq26 N41),(42,yq25 N42),(43,yq14 N43)]
def run16 (k:Nat) (a:Int) (b:BY) (K:Zq14):Oo:=runK prog (lookG (gam16 N40 N41 N42 N43)) 9 lvs16 C k f16 none [.s (.int .i64 a),.s (.str b)] (zq14 K)
def p1_16 (k:Nat) (a b d:BY) (f:Bool) (g i:BY) (l m:Bool) (K:Zq14):Oo:=C 450 ([.u,sv a,.u,.u,.box 27 (.ss [.str b,.str d]),.u,bv f,.box 27 (.ss [.str g,.str i]),bv l]++us 16++[bv m]++us 14) (aK (gam16 N40 N41 N42 N43) 9 lvs16 C k f16 none (zq14 K) [1,1,1,0,0,1,1,1])
theorem run16_eq (k:Nat) (a:Int) (b:BY) (K:Zq14):run16 C N40 N41 N42 N43 k a b K =
 N40 a b fun r1 r2=>N41 a b fun r3 r4 r5=>N42 b fun r6=>bif r6 then K [116,97,103,58,121,97,109,108,46,111,114,103,44,50,48,48,50,58,110,117,108,108] [] else bif r2 then p1_16 C N40 N41 N42 N43 k b [] [] r2 r3 r4 r5 r1 K else p1_16 C N40 N41 N42 N43 k b [] [] r2 r3 r4 r5 false K:=by kernel_rfl
theorem p1_16_eq (hC:Cv C) (k a b d f g i l m K):p1_16 C N40 N41 N42 N43 k a b d f g i l m K =
 bif m then K [116,97,103,58,121,97,109,108,46,111,114,103,44,50,48,48,50,58,98,111,111,108] [116,114,117,101] else bif f then K [116,97,103,58,121,97,109,108,46,111,114,103,44,50,48,48,50,58,98,111,111,108] [102,97,108,115,101] else bif l then K g i else N43 a fun r7=>K [116,97,103,58,121,97,109,108,46,111,114,103,44,50,48,48,50,58,115,116,114] r7:=hC.t (by kernel_rfl)
variable {N40 N41 N42 N43}
theorem as16 (S:SP G ng) (h40:FnP G ng 40 (yq24 N40)) (h41:FnP G ng 41 (yq26 N41)) (h42:FnP G ng 42 (yq25 N42)) (h43:FnP G ng 43 (yq14 N43)) {A:Yq27} (hA:Lq27 A (run16 cut0 N40 N41 N42 N43 big)):FnP G ng 16 (yq27 A):=xq27 S (l:=gam16 N40 N41 N42 N43) (mc h40 (mc h41 (mc h42 (mc h43 mn)))) func16 (by kernel_rfl) hA
end
def lvs41:Lv
 | 834=>kk [4,12,44]
 | _=>none
section
variable (C:Cu) (N62:Yq15) (N63:Yq28) (N64:Yq15) (N65:Yq28) (N66:Yq29) (N67:Yq15)
def gam41:List (Nat × Fn1):=[(62,yq15 N62),(63,yq28 N63),(64,yq15 N64),(65,yq28 N65),(66,yq29 N66),(67,yq15 N67)]
def run41 (k:Nat) (a:Int) (b:BY) (K:Zq13):Oo:=runK prog (lookG (gam41 N62 N63 N64 N65 N66 N67)) 14 lvs41 C k f41 none [.s (.int .i64 a),.s (.str b)] (zq13 K)
def p1_41 (k:Nat) (a b d:BY) (f:Bool) (K:Zq13):Oo:=C 834 ([.u,.u,.u,.u,.box 27 (.ss [.str a,.str b])]++us 7++[sv d]++us 31++[bv f,.u,.u,.u]) (aK (gam41 N62 N63 N64 N65 N66 N67) 14 lvs41 C k f41 none (zq13 K) [1,1,1,1,1,0,1,1])
theorem run41_eq (k:Nat) (a:Int) (b:BY) (K:Zq13):run41 C N62 N63 N64 N65 N66 N67 k a b K =
 bif a==11 then N64 b fun r1 r2=>bif r2 then K [116,97,103,58,121,97,109,108,46,111,114,103,44,50,48,48,50,58,105,110,116] r1 true else N65 b fun r3 r4 r5 r6 r7=>bif r7 then N66 r3 r4 r5 r6 fun r8=>K [116,97,103,58,121,97,109,108,46,111,114,103,44,50,48,48,50,58,102,108,111,97,116] r8 true else N67 b fun r9 r10=>bif a==11 then p1_41 C N62 N63 N64 N65 N66 N67 k [] [] r9 r10 K else p1_41 C N62 N63 N64 N65 N66 N67 k [] [] r9 false K else N62 b fun r11 r12=>bif r12 then K [116,97,103,58,121,97,109,108,46,111,114,103,44,50,48,48,50,58,105,110,116] r11 true else N63 b fun r13 r14 r15 r16 r17=>bif r17 then N66 r13 r14 r15 r16 fun r18=>K [116,97,103,58,121,97,109,108,46,111,114,103,44,50,48,48,50,58,102,108,111,97,116] r18 true else N67 b fun r19 r20=>bif a==11 then p1_41 C N62 N63 N64 N65 N66 N67 k [] [] r19 r20 K else p1_41 C N62 N63 N64 N65 N66 N67 k [] [] r19 false K:=by kernel_rfl
theorem p1_41_eq (hC:Cv C) (k a b d f K):p1_41 C N62 N63 N64 N65 N66 N67 k a b d f K =
 bif f then K [116,97,103,58,121,97,109,108,46,111,114,103,44,50,48,48,50,58,116,105,109,101,115,116,97,109,112] d true else K [] [] false:=hC.t (by kernel_rfl)
variable {N62 N63 N64 N65 N66 N67}
theorem as41 (S:SP G ng) (h62:FnP G ng 62 (yq15 N62)) (h63:FnP G ng 63 (yq28 N63)) (h64:FnP G ng 64 (yq15 N64)) (h65:FnP G ng 65 (yq28 N65)) (h66:FnP G ng 66 (yq29 N66)) (h67:FnP G ng 67 (yq15 N67)) {A:Yq26} (hA:Lq26 A (run41 cut0 N62 N63 N64 N65 N66 N67 big)):FnP G ng 41 (yq26 A):=xq26 S (l:=gam41 N62 N63 N64 N65 N66 N67) (mc h62 (mc h63 (mc h64 (mc h65 (mc h66 (mc h67 mn)))))) func41 (by kernel_rfl) hA
end
def lvs62:Lv
 | 577=>kk [4]
 | _=>none
section
variable (C:Cu) (N93:Yq30) (N94:Yq31) (N95:Yq11) (N96:Yq32)
def gam62:List (Nat × Fn1):=[(93,yq30 N93),(94,yq31 N94),(95,yq11 N95),(96,yq32 N96)]
def run62 (k:Nat) (a:BY) (K:Zq9):Oo:=runK prog (lookG (gam62 N93 N94 N95 N96)) 7 lvs62 C k f62 none [.s (.str a)] (zq9 K)
def p1_62 (k:Nat) (a:BY) (K:Zq9):Oo:=C 577 ([.u,.u,.u,.u,sv a]++us 26) (aK (gam62 N93 N94 N95 N96) 7 lvs62 C k f62 none (zq9 K) [1,1,1,1])
theorem run62_eq (k:Nat) (a:BY) (K:Zq9):run62 C N93 N94 N95 N96 k a K =
 N93 a fun r1 r2=>N94 a [48,111] fun r3=>bif r3 then (cut a (some (2:Int)) none).bind fun s4=>N95 s4 8 fun r5=>p1_62 C N93 N94 N95 N96 k r5 K else N94 a [48,120] fun r6=>bif r6 then (cut a (some (2:Int)) none).bind fun s7=>N95 s7 16 fun r8=>p1_62 C N93 N94 N95 N96 k r8 K else N96 (r1==[45]) r2 fun r9=>p1_62 C N93 N94 N95 N96 k r9 K:=by kernel_rfl
theorem p1_62_eq (hC:Cv C) (k a K):p1_62 C N93 N94 N95 N96 k a K =
 K a (!(a==[])):=hC.t (by kernel_rfl)
variable {N93 N94 N95 N96}
theorem as62 (S:SP G ng) (h93:FnP G ng 93 (yq30 N93)) (h94:FnP G ng 94 (yq31 N94)) (h95:FnP G ng 95 (yq11 N95)) (h96:FnP G ng 96 (yq32 N96)) {A:Yq15} (hA:Lq15 A (run62 cut0 N93 N94 N95 N96 big)):FnP G ng 62 (yq15 A):=xq15 S (l:=gam62 N93 N94 N95 N96) (mc h93 (mc h94 (mc h95 (mc h96 mn)))) func62 (by kernel_rfl) hA
end
def lvs63:Lv
 | 3000000=>kk [2]
 | 3000001=>kk [2,4,5,6,7,8]
 | 3000002=>kk [2,4,6,7,8]
 | _=>none
section
variable (C:Cu) (N62:Yq15) (N93:Yq30) (N94:Yq31) (N96:Yq32) (N97:Yq33) (N98:Yq30) (N99:Yq34)
def gam63:List (Nat × Fn1):=[(62,yq15 N62),(93,yq30 N93),(94,yq31 N94),(96,yq32 N96),(97,yq33 N97),(98,yq30 N98),(99,yq34 N99)]
def run63 (k:Nat) (a:BY) (K:Zq15):Oo:=runK prog (lookG (gam63 N62 N93 N94 N96 N97 N98 N99)) 4 lvs63 C k f63 none [.s (.str a)] (zq15 K)
def g1_63 (k j0:Nat) (a:Int) (b:Bool) (d f:BY) (K:Zq15):Oo:=C 3000000 ([.u,.u,.box 91 (.ss [si a,.bool b,.str d,.str f])]++us 79) (uK (gam63 N62 N93 N94 N96 N97 N98 N99) 4 lvs63 C k f63 none (zq15 K) j0 0 [1])
def g2_63 (k j0:Nat) (a:Int) (b:Bool) (d f g i l m o:BY) (K:Zq15):Oo:=C 3000001 ([.u,.u,.box 91 (.ss [si a,.bool b,.str d,.str f]),.u,sv g,sv i,sv l,sv m,sv o]++us 73) (uK (gam63 N62 N93 N94 N96 N97 N98 N99) 4 lvs63 C k f63 none (zq15 K) j0 1 [1])
def g3_63 (k j0:Nat) (a:Int) (b:Bool) (d f g i l m:BY) (K:Zq15):Oo:=C 3000002 ([.u,.u,.box 91 (.ss [si a,.bool b,.str d,.str f]),.u,sv g,.u,sv i,sv l,sv m]++us 73) (uK (gam63 N62 N93 N94 N96 N97 N98 N99) 4 lvs63 C k f63 none (zq15 K) j0 2 [1])
theorem run63_eq (k:Nat) (a:BY) (K:Zq15):run63 C N62 N93 N94 N96 N97 N98 N99 k a K =
 N93 a fun r1 r2=>N97 r1 r2 fun r3 r4 r5 r6 r7=>bif r7 then K r3 r4 r5 r6 true else N62 a fun r8 r9=>bif r9 then g1_63 C N62 N93 N94 N96 N97 N98 N99 k k 0 false [] [] K else N98 r2 fun r10 r11=>N94 r11 [46] fun r12=>bif !r12 then g2_63 C N62 N93 N94 N96 N97 N98 N99 k k 0 false [] [] r1 r11 r10 [] [48] K else (cut r11 (some (1:Int)) none).bind fun s13=>N98 s13 fun r14 r15=>(cat r10 r14).bind fun s16=>bif s16==[] then g1_63 C N62 N93 N94 N96 N97 N98 N99 k k 0 false [] [] K else bif r15==[] then g3_63 C N62 N93 N94 N96 N97 N98 N99 k k 0 false [] [] r1 r10 r14 [48] K else (at? r15 0).bind fun b17=>bif (b17.toNat:Int) != 101 then (at? r15 0).bind fun b18=>bif (b18.toNat:Int) != 69 then g1_63 C N62 N93 N94 N96 N97 N98 N99 k k 0 false [] [] K else (cut r15 (some (1:Int)) none).bind fun s19=>N93 s19 fun r20 r21=>N96 (r20==[45]) r21 fun r22=>bif r22==[] then g1_63 C N62 N93 N94 N96 N97 N98 N99 k k 0 false [] [] K else N99 (r1==[45]) r10 r14 r22 fun r23 r24 r25 r26 r27=>K r23 r24 r25 r26 r27 else (cut r15 (some (1:Int)) none).bind fun s28=>N93 s28 fun r29 r30=>N96 (r29==[45]) r30 fun r31=>bif r31==[] then g1_63 C N62 N93 N94 N96 N97 N98 N99 k k 0 false [] [] K else N99 (r1==[45]) r10 r14 r31 fun r32 r33 r34 r35 r36=>K r32 r33 r34 r35 r36:=by kernel_rfl
theorem g1_63_eq (hC:Cv C) (k j0 a b d f K):g1_63 C N62 N93 N94 N96 N97 N98 N99 k (j0+1) a b d f K =
 K 0 false [] [] false:=hC.t (by kernel_rfl)
theorem g2_63_eq (hC:Cv C) (k j0 a b d f g i l m o K):g2_63 C N62 N93 N94 N96 N97 N98 N99 k (j0+1) a b d f g i l m o K =
 (cat l m).bind fun s37=>bif s37==[] then g1_63 C N62 N93 N94 N96 N97 N98 N99 k j0 a b d f K else bif i==[] then g3_63 C N62 N93 N94 N96 N97 N98 N99 k j0 a b d f g l m o K else (at? i 0).bind fun b38=>bif (b38.toNat:Int) != 101 then (at? i 0).bind fun b39=>bif (b39.toNat:Int) != 69 then g1_63 C N62 N93 N94 N96 N97 N98 N99 k j0 a b d f K else (cut i (some (1:Int)) none).bind fun s40=>N93 s40 fun r41 r42=>N96 (r41==[45]) r42 fun r43=>bif r43==[] then g1_63 C N62 N93 N94 N96 N97 N98 N99 k j0 a b d f K else N99 (g==[45]) l m r43 fun r44 r45 r46 r47 r48=>K r44 r45 r46 r47 r48 else (cut i (some (1:Int)) none).bind fun s49=>N93 s49 fun r50 r51=>N96 (r50==[45]) r51 fun r52=>bif r52==[] then g1_63 C N62 N93 N94 N96 N97 N98 N99 k j0 a b d f K else N99 (g==[45]) l m r52 fun r53 r54 r55 r56 r57=>K r53 r54 r55 r56 r57:=hC.t (by kernel_rfl)
theorem g3_63_eq (hC:Cv C) (k j0 a b d f g i l m K):g3_63 C N62 N93 N94 N96 N97 N98 N99 k (j0+1) a b d f g i l m K =
 N99 (g==[45]) i l m fun r58 r59 r60 r61 r62=>K r58 r59 r60 r61 r62:=hC.t (by kernel_rfl)
variable {N62 N93 N94 N96 N97 N98 N99}
theorem as63 (S:SP G ng) (h62:FnP G ng 62 (yq15 N62)) (h93:FnP G ng 93 (yq30 N93)) (h94:FnP G ng 94 (yq31 N94)) (h96:FnP G ng 96 (yq32 N96)) (h97:FnP G ng 97 (yq33 N97)) (h98:FnP G ng 98 (yq30 N98)) (h99:FnP G ng 99 (yq34 N99)) {A:Yq28} (hA:Lq28 A (run63 cut0 N62 N93 N94 N96 N97 N98 N99 big)):FnP G ng 63 (yq28 A):=xq28 S (l:=gam63 N62 N93 N94 N96 N97 N98 N99) (mc h62 (mc h93 (mc h94 (mc h96 (mc h97 (mc h98 (mc h99 mn))))))) func63 (by kernel_rfl) hA
end
def lvs93:Lv
 | 194=>kk [0,15]
 | _=>none
section
variable (C:Cu)
def gam93:List (Nat × Fn1):=[]
def run93 (k:Nat) (a:BY) (K:Zq16):Oo:=runK prog (lookG (gam93)) 4 lvs93 C k f93 none [.s (.str a)] (zq16 K)
def p1_93 (k:Nat) (a:BY) (b:Bool) (K:Zq16):Oo:=C 194 ([sv a]++us 14++[bv b,.u,.u,.u,.u,.u]) (aK gam93 4 lvs93 C k f93 none (zq16 K) [1,0,1])
theorem run93_eq (k:Nat) (a:BY) (K:Zq16):run93 C k a K =
 bif !(a==[]) then (at? a 0).bind fun b1=>bif (b1.toNat:Int)==43 then p1_93 C k a true K else (at? a 0).bind fun b2=>p1_93 C k a ((b2.toNat:Int)==45) K else p1_93 C k a false K:=by kernel_rfl
theorem p1_93_eq (hC:Cv C) (k a b K):p1_93 C k a b K =
 bif b then (cut a none (some (1:Int))).bind fun s3=>(cut a (some (1:Int)) none).bind fun s4=>K s3 s4 else K [] a:=hC.t (by kernel_rfl)
theorem as93 (S:SP G ng) {A:Yq30} (hA:Lq30 A (run93 cut0 big)):FnP G ng 93 (yq30 A):=xq30 S (l:=gam93) mn func93 (by kernel_rfl) hA
end
def lvs97:Lv
 | 386=>kk [0,4,6,7]
 | 642=>kk [0,4,14]
 | _=>none
section
variable (C:Cu)
def gam97:List (Nat × Fn1):=[]
def run97 (k:Nat) (a b:BY) (K:Zq15):Oo:=runK prog (lookG (gam97)) 6 lvs97 C k f97 none [.s (.str a),.s (.str b)] (zq15 K)
def p1_97 (k:Nat) (a:BY) (b:Int) (d:Bool) (f g i:BY) (l:Bool) (K:Zq15):Oo:=C 386 ([sv a,.u,.u,.u,.box 91 (.ss [si b,.bool d,.str f,.str g]),.u,sv i,bv l]++us 14) (aK gam97 6 lvs97 C k f97 none (zq15 K) [1,0,1,0,1])
def p2_97 (k:Nat) (a:BY) (b:Int) (d:Bool) (f g:BY) (i:Bool) (K:Zq15):Oo:=C 642 ([sv a,.u,.u,.u,.box 91 (.ss [si b,.bool d,.str f,.str g])]++us 9++[bv i]++us 7) (aK gam97 6 lvs97 C k f97 none (zq15 K) [1,0,1,0,1,1,1])
theorem run97_eq (k:Nat) (a b:BY) (K:Zq15):run97 C k a b K =
 bif b==[46,105,110,102] then p1_97 C k a 0 false [] [] b (b==[46,105,110,102]) K else bif b==[46,73,110,102] then p1_97 C k a 0 false [] [] b (b==[46,73,110,102]) K else p1_97 C k a 0 false [] [] b (b==[46,73,78,70]) K:=by kernel_rfl
theorem p1_97_eq (hC:Cv C) (k a b d f g i l K):p1_97 C k a b d f g i l K =
 bif l then K 1 (a==[45]) [] [] true else bif i==[46,110,97,110] then p2_97 C k a b d f g (i==[46,110,97,110]) K else bif i==[46,78,97,78] then p2_97 C k a b d f g (i==[46,78,97,78]) K else p2_97 C k a b d f g (i==[46,78,65,78]) K:=hC.t (by kernel_rfl)
theorem p2_97_eq (hC:Cv C) (k a b d f g i K):p2_97 C k a b d f g i K =
 bif i then K 2 false [] [] (a==[]) else K 0 false [] [] false:=hC.t (by kernel_rfl)
theorem as97 (S:SP G ng) {A:Yq33} (hA:Lq33 A (run97 cut0 big)):FnP G ng 97 (yq33 A):=xq33 S (l:=gam97) mn func97 (by kernel_rfl) hA
end
section
variable (C:Cu) (N148:Yq1)
def gam98:List (Nat × Fn1):=[(148,yq1 N148)]
noncomputable def run98 (k:Nat) (a:BY) (K:Zq16):Oo:=runK prog (lookG (gam98 N148)) 5 lv0 C k f98 none [.s (.str a)] (zq16 K)
theorem run98_eq (k:Nat) (a:BY) (K:Zq16):run98 C N148 k a K =
 N148 a [48,49,50,51,52,53,54,55,56,57] fun r1=>(cut a none (some (i64.wrap ((a.length:Int) - (r1.length:Int))))).bind fun s2=>K s2 r1:=by kernel_rfl
variable {N148}
theorem as98 (S:SP G ng) (h148:FnP G ng 148 (yq1 N148)) {A:Yq30} (hA:Lq30 A (run98 cut0 N148 big)):FnP G ng 98 (yq30 A):=xq30 S (l:=gam98 N148) (mc h148 mn) func98 (by kernel_rfl) hA
end
variable {G:World→Prop} {ng:Nat}
def lvs95:Lv
 | 194=>kk [0,1,21]
 | 1000386=>kk [0,1,5,23,24]
 | _=>none
section
variable (C:Cu) (N145:Yq35) (N146:Yq36)
def gam95:List (Nat × Fn1):=[(145,yq35 N145),(146,yq36 N146)]
def run95 (k:Nat) (a:BY) (b:Int) (K:Zq1):Oo:=runK prog (lookG (gam95 N145 N146)) 8 lvs95 C k f95 none [.s (.str a),.s (.int .i64 b)] (zq1 K)
def p1_95 (k:Nat) (a:BY) (b:Int) (d:Bool) (K:Zq1):Oo:=C 194 ([sv a,iv b]++us 19++[bv d]++us 18) (aK (gam95 N145 N146) 8 lvs95 C k f95 none (zq1 K) [1,0,1])
def l2_95 (k j0:Nat) (a:BY) (b:Int) (d:BY) (f g:Int) (K:Zq1):Oo:=C 1000386 ([sv a,iv b,.u,.u,.u,sv d]++us 17++[iv f,iv g]++us 15) (hK (gam95 N145 N146) 8 lvs95 C k f95 none (zq1 K) j0 [1,1,1,0,1,0])
theorem run95_eq (k:Nat) (a:BY) (b:Int) (K:Zq1):run95 C N145 N146 k a b K =
 bif b != 2 then bif b != 8 then bif b != 16 then p1_95 C N145 N146 k a b true K else p1_95 C N145 N146 k a b (a==[]) K else p1_95 C N145 N146 k a b (a==[]) K else p1_95 C N145 N146 k a b (a==[]) K:=by kernel_rfl
theorem p1_95_eq (hC:Cv C) (k a b d K):p1_95 C N145 N146 k a b d K =
 bif d then K [] else l2_95 C N145 N146 k k a b [48] (a.length:Int) 0 K:=hC.t (by kernel_rfl)
theorem l2_95_eq (hC:Cv C) (k j0 a b d f g K):l2_95 C N145 N146 k (j0+1) a b d f g K =
 bif decide (g<f) then (at? a g).bind fun b1=>N145 (b1.toNat:Int) fun r2=>bif decide (r2 ≥ b) then K [] else N146 d b r2 fun r3=>l2_95 C N145 N146 k j0 a b r3 f (i64.wrap (g+1)) K else K d:=hC.t (by kernel_rfl)
variable {N145 N146}
theorem as95 (S:SP G ng) (h145:FnP G ng 145 (yq35 N145)) (h146:FnP G ng 146 (yq36 N146)) {A:Yq11} (hA:Lq11 A (run95 cut0 N145 N146 big)):FnP G ng 95 (yq11 A):=xq11 S (l:=gam95 N145 N146) (mc h145 (mc h146 mn)) func95 (by kernel_rfl) hA
end
section
variable (C:Cu) (N43:Yq14) (N147:Yq25) (N148:Yq1)
def gam96:List (Nat × Fn1):=[(43,yq14 N43),(147,yq25 N147),(148,yq1 N148)]
noncomputable def run96 (k:Nat) (a:Bool) (b:BY) (K:Zq1):Oo:=runK prog (lookG (gam96 N43 N147 N148)) 5 lv0 C k f96 none [.s (.bool a),.s (.str b)] (zq1 K)
theorem run96_eq (k:Nat) (a:Bool) (b:BY) (K:Zq1):run96 C N43 N147 N148 k a b K =
 N147 b fun r1=>bif !r1 then K [] else N148 b [48] fun r2=>bif r2==[] then K [48] else bif a then (cat [45] r2).bind fun s3=>K s3 else N43 r2 fun r4=>K r4:=by kernel_rfl
variable {N43 N147 N148}
theorem as96 (S:SP G ng) (h43:FnP G ng 43 (yq14 N43)) (h147:FnP G ng 147 (yq25 N147)) (h148:FnP G ng 148 (yq1 N148)) {A:Yq32} (hA:Lq32 A (run96 cut0 N43 N147 N148 big)):FnP G ng 96 (yq32 A):=xq32 S (l:=gam96 N43 N147 N148) (mc h43 (mc h147 (mc h148 mn))) func96 (by kernel_rfl) hA
end
def lvs104:Lv
 | 194=>kk [0,1,2,24]
 | _=>none
section
variable (C:Cu) (N146:Yq36) (N150:Yq25) (N158:Yq37)
def gam104:List (Nat × Fn1):=[(146,yq36 N146),(150,yq25 N150),(158,yq37 N158)]
def run104 (k:Nat) (a:BY) (b d:Int) (K:Zq1):Oo:=runK prog (lookG (gam104 N146 N150 N158)) 7 lvs104 C k f104 none [.s (.str a),.s (.int .i64 b),.s (.int .i64 d)] (zq1 K)
def p1_104 (k:Nat) (a:BY) (b d:Int) (f:Bool) (K:Zq1):Oo:=C 194 ([sv a,iv b,iv d]++us 21++[bv f,.u,.u,.u,.u]) (aK (gam104 N146 N150 N158) 7 lvs104 C k f104 none (zq1 K) [1,0,1])
theorem run104_eq (k:Nat) (a:BY) (b d:Int) (K:Zq1):run104 C N146 N150 N158 k a b d K =
 N150 a fun r1=>bif !r1 then p1_104 C N146 N150 N158 k a b d true K else (at? a 0).bind fun b2=>bif (b2.toNat:Int)==45 then p1_104 C N146 N150 N158 k a b d true K else N158 b fun r3=>bif !r3 then p1_104 C N146 N150 N158 k a b d true K else N158 d fun r4=>p1_104 C N146 N150 N158 k a b d (!r4) K:=by kernel_rfl
theorem p1_104_eq (hC:Cv C) (k a b d f K):p1_104 C N146 N150 N158 k a b d f K =
 bif f then K [] else N146 a b d fun r5=>K r5:=hC.t (by kernel_rfl)
variable {N146 N150 N158}
theorem as104 (S:SP G ng) (h146:FnP G ng 146 (yq36 N146)) (h150:FnP G ng 150 (yq25 N150)) (h158:FnP G ng 158 (yq37 N158)) {A:Yq36} (hA:Lq36 A (run104 cut0 N146 N150 N158 big)):FnP G ng 104 (yq36 A):=xq36 S (l:=gam104 N146 N150 N158) (mc h146 (mc h150 (mc h158 mn))) func104 (by kernel_rfl) hA
end
def lvs145:Lv
 | 194=>kk [0,3]
 | 322=>kk [0,13]
 | 450=>kk [0,24]
 | _=>none
section
variable (C:Cu)
def gam145:List (Nat × Fn1):=[]
def run145 (k:Nat) (a:Int) (K:Zq7):Oo:=runK prog (lookG (gam145)) 3 lvs145 C k f145 none [.s (.int .u8 a)] (zq7 K)
def p1_145 (k:Nat) (a:Int) (b:Bool) (K:Zq7):Oo:=C 194 ([.c (.s (.int .u8 a)),.u,.u,bv b]++us 31) (aK gam145 3 lvs145 C k f145 none (zq7 K) [1,0,0,1])
def p2_145 (k:Nat) (a:Int) (b:Bool) (K:Zq7):Oo:=C 322 ([.c (.s (.int .u8 a))]++us 12++[bv b]++us 21) (aK gam145 3 lvs145 C k f145 none (zq7 K) [1,0,0,1,1,1])
def p3_145 (k:Nat) (a:Int) (b:Bool) (K:Zq7):Oo:=C 450 ([.c (.s (.int .u8 a))]++us 23++[bv b]++us 10) (aK gam145 3 lvs145 C k f145 none (zq7 K) [1,0,0,1,1,1,1,1])
theorem run145_eq (k:Nat) (a:Int) (K:Zq7):run145 C k a K =
 bif decide (a ≥ 48) then p1_145 C k a (decide (a≤57)) K else p1_145 C k a false K:=by kernel_rfl
theorem p1_145_eq (hC:Cv C) (k a b K):p1_145 C k a b K =
 bif b then K (i64.wrap (u8.wrap (a - 48))) else bif decide (a ≥ 97) then p2_145 C k a (decide (a≤102)) K else p2_145 C k a false K:=hC.t (by kernel_rfl)
theorem p2_145_eq (hC:Cv C) (k a b K):p2_145 C k a b K =
 bif b then K (i64.wrap ((i64.wrap (u8.wrap (a - 97)))+10)) else bif decide (a ≥ 65) then p3_145 C k a (decide (a≤70)) K else p3_145 C k a false K:=hC.t (by kernel_rfl)
theorem p3_145_eq (hC:Cv C) (k a b K):p3_145 C k a b K =
 bif b then K (i64.wrap ((i64.wrap (u8.wrap (a - 65)))+10)) else K 16:=hC.t (by kernel_rfl)
theorem as145 (S:SP G ng) {A:Yq35} (hA:Lq35 A (run145 cut0 big)):FnP G ng 145 (yq35 A):=xq35 S (l:=gam145) mn func145 (by kernel_rfl) hA
end
def lvs147:Lv
 | 1000194=>kk [0,5,6]
 | _=>none
section
variable (C:Cu)
def gam147:List (Nat × Fn1):=[]
def run147 (k:Nat) (a:BY) (K:Zq5):Oo:=runK prog (lookG (gam147)) 4 lvs147 C k f147 none [.s (.str a)] (zq5 K)
def l1_147 (k j0:Nat) (a:BY) (b d:Int) (K:Zq5):Oo:=C 1000194 ([sv a,.u,.u,.u,.u,iv b,iv d]++us 15) (hK gam147 4 lvs147 C k f147 none (zq5 K) j0 [1,0,1,0])
theorem run147_eq (k:Nat) (a:BY) (K:Zq5):run147 C k a K =
 l1_147 C k k a (a.length:Int) 0 K:=by kernel_rfl
theorem l1_147_eq (hC:Cv C) (k j0 a b d K):l1_147 C k (j0+1) a b d K =
 bif decide (d<b) then (at? a d).bind fun b1=>bif decide ((b1.toNat:Int)<48) then K false else (at? a d).bind fun b2=>bif decide ((b2.toNat:Int) > 57) then K false else l1_147 C k j0 a b (i64.wrap (d+1)) K else K (!(a==[])):=hC.t (by kernel_rfl)
theorem as147 (S:SP G ng) {A:Yq25} (hA:Lq25 A (run147 cut0 big)):FnP G ng 147 (yq25 A):=xq25 S (l:=gam147) mn func147 (by kernel_rfl) hA
end
section
variable (C:Cu) (N147:Yq25) (N202:Yq38)
def gam150:List (Nat × Fn1):=[(147,yq25 N147),(202,yq38 N202)]
noncomputable def run150 (k:Nat) (a:BY) (K:Zq5):Oo:=runK prog (lookG (gam150 N147 N202)) 5 lv0 C k f150 none [.s (.str a)] (zq5 K)
theorem run150_eq (k:Nat) (a:BY) (K:Zq5):run150 C N147 N202 k a K =
 N202 a fun r1 r2=>N147 r2 fun r3=>bif r3 then (at? r2 0).bind fun b4=>bif (b4.toNat:Int) != 48 then K true else bif r2==[48] then K (!r1) else K false else K false:=by kernel_rfl
variable {N147 N202}
theorem as150 (S:SP G ng) (h147:FnP G ng 147 (yq25 N147)) (h202:FnP G ng 202 (yq38 N202)) {A:Yq25} (hA:Lq25 A (run150 cut0 N147 N202 big)):FnP G ng 150 (yq25 A):=xq25 S (l:=gam150 N147 N202) (mc h147 (mc h202 mn)) func150 (by kernel_rfl) hA
end
def lvs152:Lv
 | 194=>kk [0,1,18]
 | 450=>kk [1,5,6]
 | _=>none
section
variable (C:Cu) (N96:Yq32) (N146:Yq36) (N150:Yq25) (N171:Yq10) (N202:Yq38) (N206:Yq39) (N207:Yq1)
def gam152:List (Nat × Fn1):=[(96,yq32 N96),(146,yq36 N146),(150,yq25 N150),(171,yq10 N171),(202,yq38 N202),(206,yq39 N206),(207,yq1 N207)]
def run152 (k:Nat) (a:BY) (b:Int) (K:Zq1):Oo:=runK prog (lookG (gam152 N96 N146 N150 N171 N202 N206 N207)) 8 lvs152 C k f152 none [.s (.str a),.s (.int .i64 b)] (zq1 K)
def p1_152 (k:Nat) (a:BY) (b:Int) (d:Bool) (K:Zq1):Oo:=C 194 ([sv a,iv b]++us 16++[bv d]++us 33) (aK (gam152 N96 N146 N150 N171 N202 N206 N207) 8 lvs152 C k f152 none (zq1 K) [1,0,1])
def p2_152 (k:Nat) (a:Int) (b:Bool) (d:BY) (K:Zq1):Oo:=C 450 ([.u,iv a,.u,.u,.u,bv b,sv d]++us 45) (aK (gam152 N96 N146 N150 N171 N202 N206 N207) 8 lvs152 C k f152 none (zq1 K) [1,1,1,1])
theorem run152_eq (k:Nat) (a:BY) (b:Int) (K:Zq1):run152 C N96 N146 N150 N171 N202 N206 N207 k a b K =
 N150 a fun r1=>bif !r1 then p1_152 C N96 N146 N150 N171 N202 N206 N207 k a b true K else bif decide (b > 1099511627776) then p1_152 C N96 N146 N150 N171 N202 N206 N207 k a b true K else p1_152 C N96 N146 N150 N171 N202 N206 N207 k a b (decide (b<(-1099511627776))) K:=by kernel_rfl
theorem p1_152_eq (hC:Cv C) (k a b d K):p1_152 C N96 N146 N150 N171 N202 N206 N207 k a b d K =
 bif d then K [] else N202 a fun r2 r3=>bif r2 then p2_152 C N96 N146 N150 N171 N202 N206 N207 k (i64.wrap (0 - b)) r2 r3 K else p2_152 C N96 N146 N150 N171 N202 N206 N207 k b r2 r3 K:=hC.t (by kernel_rfl)
theorem p2_152_eq (hC:Cv C) (k a b d K):p2_152 C N96 N146 N150 N171 N202 N206 N207 k a b d K =
 bif decide (a ≥ 0) then N146 d 1 a fun r4=>N96 b r4 fun r5=>K r5 else N171 (i64.wrap (0 - a)) fun r6=>N206 d r6 fun r7=>bif decide (r7<0) then N207 r6 d fun r8=>N96 (!b) r8 fun r9=>K r9 else N207 d r6 fun r10=>N96 b r10 fun r11=>K r11:=hC.t (by kernel_rfl)
variable {N96 N146 N150 N171 N202 N206 N207}
theorem as152 (S:SP G ng) (h96:FnP G ng 96 (yq32 N96)) (h146:FnP G ng 146 (yq36 N146)) (h150:FnP G ng 150 (yq25 N150)) (h171:FnP G ng 171 (yq10 N171)) (h202:FnP G ng 202 (yq38 N202)) (h206:FnP G ng 206 (yq39 N206)) (h207:FnP G ng 207 (yq1 N207)) {A:Yq11} (hA:Lq11 A (run152 cut0 N96 N146 N150 N171 N202 N206 N207 big)):FnP G ng 152 (yq11 A):=xq11 S (l:=gam152 N96 N146 N150 N171 N202 N206 N207) (mc h96 (mc h146 (mc h150 (mc h171 (mc h202 (mc h206 (mc h207 mn))))))) func152 (by kernel_rfl) hA
end
section
variable (C:Cu)
def gam158:List (Nat × Fn1):=[]
noncomputable def run158 (k:Nat) (a:Int) (K:Zq5):Oo:=runK prog (lookG (gam158)) 3 lv0 C k f158 none [.s (.int .i64 a)] (zq5 K)
theorem run158_eq (k:Nat) (a:Int) (K:Zq5):run158 C k a K =
 bif decide (a ≥ 0) then K (decide (a≤1099511627776)) else K false:=by kernel_rfl
theorem as158 (S:SP G ng) {A:Yq37} (hA:Lq37 A (run158 cut0 big)):FnP G ng 158 (yq37 A):=xq37 S (l:=gam158) mn func158 (by kernel_rfl) hA
end
section
variable (C:Cu) (N230:Yq40)
def gam202:List (Nat × Fn1):=[(230,yq40 N230)]
noncomputable def run202 (k:Nat) (a:BY) (K:Zq17):Oo:=runK prog (lookG (gam202 N230)) 6 lv0 C k f202 none [.s (.str a)] (zq17 K)
theorem run202_eq (k:Nat) (a:BY) (K:Zq17):run202 C N230 k a K =
 N230 a [45] fun r1 r2=>K r2 r1:=by kernel_rfl
variable {N230}
theorem as202 (S:SP G ng) (h230:FnP G ng 230 (yq40 N230)) {A:Yq38} (hA:Lq38 A (run202 cut0 N230 big)):FnP G ng 202 (yq38 A):=xq38 S (l:=gam202 N230) (mc h230 mn) func202 (by kernel_rfl) hA
end
section
variable (C:Cu) (N232:Yq39)
def gam206:List (Nat × Fn1):=[(232,yq39 N232)]
noncomputable def run206 (k:Nat) (a b:BY) (K:Zq7):Oo:=runK prog (lookG (gam206 N232)) 5 lv0 C k f206 none [.s (.str a),.s (.str b)] (zq7 K)
theorem run206_eq (k:Nat) (a b:BY) (K:Zq7):run206 C N232 k a b K =
 bif (a.length:Int) != (b.length:Int) then bif decide ((a.length:Int)<(b.length:Int)) then K (-1) else K 1 else N232 a b fun r1=>K r1:=by kernel_rfl
variable {N232}
theorem as206 (S:SP G ng) (h232:FnP G ng 232 (yq39 N232)) {A:Yq39} (hA:Lq39 A (run206 cut0 N232 big)):FnP G ng 206 (yq39 A):=xq39 S (l:=gam206 N232) (mc h232 mn) func206 (by kernel_rfl) hA
end
def lvs207:Lv
 | 448 | 705 | 1000387=>kk [0,1,5,6,7]
 | _=>none
section
variable (C:Cu)
def gam207:List (Nat × Fn1):=[]
def run207 (k:Nat) (a b:BY) (K:Zq1):Oo:=runK prog (lookG (gam207)) 5 lvs207 C k f207 none [.s (.str a),.s (.str b)] (zq1 K)
def l1_207 (k j0:Nat) (a b:BY) (d:List Int) (f g:Int) (K:Zq1):Oo:=C 1000387 ([sv a,sv b,.u,.u,.u,.c (.own (.ints .u8 d)),.c (.s (.int .u8 f)),iv g]++us 58) (hK gam207 5 lvs207 C k f207 none (zq1 K) j0 [1,1,1,1,0,1,0])
def p2_207 (k j0:Nat) (a b:BY) (d:List Int) (f g:Int) (K:Zq1):Oo:=C 705 ([sv a,sv b,.u,.u,.u,.c (.own (.ints .u8 d)),.c (.s (.int .u8 f)),iv g]++us 58) (aK gam207 5 lvs207 C k f207 none (zq1 K) [1,1,1,1,0,1,0,j0,1,0,0,1,1])
def p3_207 (k j0:Nat) (a b:BY) (d:List Int) (f g:Int) (K:Zq1):Oo:=C 448 ([sv a,sv b,.u,.u,.u,.c (.own (.ints .u8 d)),.c (.s (.int .u8 f)),iv g]++us 58) (aK gam207 5 lvs207 C k f207 none (zq1 K) [1,1,1,1,0,1,0,j0,1,1])
theorem run207_eq (k:Nat) (a b:BY) (K:Zq1):run207 C k a b K =
 bif decide (0≤(a.length:Int))&&decide ((a.length:Int)≤(a.length:Int))&&decide ((a.length:Int)≤1099511627776) then l1_207 C k k a b ((List.replicate (a.length:Int).toNat (0:Int)).take 0++(a.map fun c=>(c.toNat:Int)).take (min (a.map fun c=>(c.toNat:Int)).length (List.replicate (a.length:Int).toNat (0:Int)).length)++(List.replicate (a.length:Int).toNat (0:Int)).drop (0+(min (a.map fun c=>(c.toNat:Int)).length (List.replicate (a.length:Int).toNat (0:Int)).length))) 0 (i64.wrap ((a.length:Int) - 1)) K else none:=by kernel_rfl
theorem l1_207_eq (hC:Cv C) (k j0 a b d f g K):l1_207 C k (j0+1) a b d f g K =
 bif decide (g ≥ 0) then bif decide ((i64.wrap (g - (i64.wrap ((a.length:Int) - (b.length:Int))))) ≥ 0) then (at? b (i64.wrap (g - (i64.wrap ((a.length:Int) - (b.length:Int)))))).bind fun b1=>p2_207 C k j0 a b d (u8.wrap (f+(u8.wrap ((b1.toNat:Int) - 48)))) g K else p2_207 C k j0 a b d f g K else K (d.map fun n=>UInt8.ofNat n.toNat):=hC.t (by kernel_rfl)
theorem p2_207_eq (hC:Cv C) (k j0 a b d f g K):p2_207 C k j0 a b d f g K =
 bif decide (0≤g)&&decide (g<(d.length:Int)) then (d[g.toNat]?).bind fun x2=>bif decide (x2<(u8.wrap ((48:Int)+f))) then bif decide (0≤g)&&decide (g<(d.length:Int)) then (d[g.toNat]?).bind fun x3=>bif decide (0≤g)&&decide (g<(d.length:Int)) then bif decide (g.toNat<d.length) then bif decide (0≤g)&&decide (g<((d.set g.toNat (u8.wrap (x3+10))).length:Int)) then ((d.set g.toNat (u8.wrap (x3+10)))[g.toNat]?).bind fun x4=>bif decide (0≤g)&&decide (g<((d.set g.toNat (u8.wrap (x3+10))).length:Int)) then bif decide (g.toNat<(d.set g.toNat (u8.wrap (x3+10))).length) then p3_207 C k j0 a b ((d.set g.toNat (u8.wrap (x3+10))).set g.toNat (u8.wrap (x4 - f))) 1 g K else none else none else none else none else none else none else bif decide (0≤g)&&decide (g<(d.length:Int)) then (d[g.toNat]?).bind fun x5=>bif decide (0≤g)&&decide (g<(d.length:Int)) then bif decide (g.toNat<d.length) then p3_207 C k j0 a b (d.set g.toNat (u8.wrap (x5 - f))) 0 g K else none else none else none else none:=hC.t (by kernel_rfl)
theorem p3_207_eq (hC:Cv C) (k j0 a b d f g K):p3_207 C k j0 a b d f g K =
 l1_207 C k j0 a b d f (i64.wrap (g - 1)) K:=hC.t (by kernel_rfl)
theorem as207 (S:SP G ng) {A:Yq1} (hA:Lq1 A (run207 cut0 big)):FnP G ng 207 (yq1 A):=xq1 S (l:=gam207) mn func207 (by kernel_rfl) hA
end
def lvs146:Lv
 | 1000387=>kk [0,1,2,7,8,9,10]
 | _=>none
section
variable (C:Cu) (N96:Yq32) (O197:TyO197)
def gam146:List (Nat × Fn1):=[(96,yq32 N96)]
def gamo146:List (Nat × Fn1):=[(197,adO197 O197)]
def run146 (k:Nat) (a:BY) (b d:Int) (K:Zq1):Oo:=runK prog (lookO (gamo146 O197) (gam146 N96)) 12 lvs146 C k f146 none [.s (.str a),.s (.int .i64 b),.s (.int .i64 d)] (zq1 K)
def l1_146 (k j0:Nat) (a:BY) (b d:Int) (f g:List Int) (i l:Int) (K:Zq1):Oo:=C 1000387 ([sv a,iv b,iv d,.u,.u,.u,.u,.box 185 (.ints .u8 f),.c (.own (.ints .u8 g)),iv i,iv l]++us 53) (hKO (lookO (gamo146 O197) (gam146 N96)) 12 lvs146 C k f146 none (zq1 K) j0 [1,1,1,1,0,1,0])
theorem run146_eq (k:Nat) (a:BY) (b d:Int) (K:Zq1):run146 C N96 O197 k a b d K =
 bif decide (0≤(i64.wrap ((a.length:Int)+16)))&&decide ((i64.wrap ((a.length:Int)+16))≤(i64.wrap ((a.length:Int)+16)))&&decide ((i64.wrap ((a.length:Int)+16))≤1099511627776) then l1_146 C N96 O197 k k a b d (List.replicate 16 (0:Int)) (List.replicate (i64.wrap ((a.length:Int)+16)).toNat (0:Int)) ((List.replicate (i64.wrap ((a.length:Int)+16)).toNat (0:Int)).length:Int) (i64.wrap ((a.length:Int) - 1)) K else none:=by kernel_rfl
theorem l1_146_eq (hC:Cv C) (k j0 a b d f g i l K):l1_146 C N96 O197 k (j0+1) a b d f g i l K =
 bif decide (l ≥ 0) then (at? a l).bind fun b1=>bif decide (0≤(i64.wrap (i - 1)))&&decide ((i64.wrap (i - 1))<(g.length:Int)) then bif decide ((i64.wrap (i - 1)).toNat<g.length) then l1_146 C N96 O197 k j0 a b (i64.wrap ((i64.wrap (d+(i64.wrap ((i64.wrap (u8.wrap ((b1.toNat:Int) - 48))) * b)))).tdiv 10)) f (g.set (i64.wrap (i - 1)).toNat (u8.wrap (i64.wrap ((48:Int)+((i64.wrap (d+(i64.wrap ((i64.wrap (u8.wrap ((b1.toNat:Int) - 48))) * b)))).tmod 10))))) (i64.wrap (i - 1)) (i64.wrap (l - 1)) K else none else none else bif decide (16≤f.length) then O197 ((f.drop 0).take 0) d 10 fun r2=>(cutN g.length (some (i64.wrap (i - (r2.length:Int)))) (some i)).bind fun p3=>(cutN (g.take p3.1++r2.take (min r2.length p3.2)++g.drop (p3.1+(min r2.length p3.2))).length (some (i64.wrap (i - (((min r2.length p3.2):Nat):Int)))) none).bind fun p4=>N96 false ((((g.take p3.1++r2.take (min r2.length p3.2)++g.drop (p3.1+(min r2.length p3.2))).drop p4.1).take p4.2).map fun n=>UInt8.ofNat n.toNat) fun r5=>K r5 else none:=hC.t (by kernel_rfl)
end
theorem as146 {G:World→Prop} {ng:Nat} (S:Stays Tryz.prog G ng) {N96:Ty96} {O197:TyO197} (h96:FnIs Tryz.prog G ng 96 (yq32 N96)) (ho197:OwnIs Tryz.prog G ng 197 (adO197 O197)) {A:Ty146} (hA:∀ (a0:BY) (a1:Int) (a2:Int) (Kt:Tk146) (r:Out),A a0 a1 a2 Kt=some r→run146 cut0 N96 O197 big a0 a1 a2 Kt=some r):FnIs Tryz.prog G ng 146 (adp146 A):=by
  refine spec_runO cut0_eq S (lo:=gamo146 O197) (by intro p hp;simp only [gamo146,List.mem_cons,List.not_mem_nil,or_false] at hp;rcases hp with rfl<;>assumption) (l:=gam146 N96) (by intro p hp;simp only [gam146,List.mem_cons,List.not_mem_nil,or_false] at hp;rcases hp with rfl<;>assumption) Tryz.func146 (by kernel_rfl) (nn:=12) (Lv:=lvs146) (k:=big) fun rc cs K r h=>?_
  unfold adp146 yq36 at h
  split at h
  · exact ⟨_,hA _ _ _ _ _ h,fun p hp=>by unfold zq1 at hp;split at hp;exact hp;cases hp⟩
  · cases h
section
variable (C:Cu) (N241:Yq10) (N242:Yq41) (N244:Yq42) (O243:TyO243)
def gamO245:List (Nat × Fn1):=[(241,yq10 N241),(242,yq41 N242),(244,yq42 N244)]
def gamoO245:List (Nat × Fn1):=[(243,adO243 O243)]
noncomputable def runO245 (k:Nat) (a:List Int) (b d:Int) (K:TkO245):Oo:=runK prog (lookO (gamoO245 O243) (gamO245 N241 N242 N244)) 9 lv0 C k f245 none [.own (.ints .u8 a),.s (.int .u64 b),.s (.int .i64 d)] (tokO245 K)
theorem runO245_eq (k:Nat) (a:List Int) (b d:Int) (K:TkO245):runO245 C N241 N242 N244 O243 k a b d K =
 bif d==10 then bif decide (b<100) then N241 (i64.wrap b) fun r1=>bif decide ((a++(r1.map fun c=>(c.toNat:Int))).length≤1099511627776) then K (a++(r1.map fun c=>(c.toNat:Int))) else none else N242 b fun r2=>bif decide (24≤(List.replicate 24 (0:Int)).length) then (cutN 24 none (some r2)).bind fun p3=>O243 (((List.replicate 24 (0:Int)).drop 0).take p3.2) b fun r4=>bif decide (24≤((List.replicate 24 (0:Int)).take 0++r4.take p3.2++(List.replicate 24 (0:Int)).drop (0+p3.2)).length) then (cutN 24 none (some r2)).bind fun p5=>bif decide ((a++((((List.replicate 24 (0:Int)).take 0++r4.take p3.2++(List.replicate 24 (0:Int)).drop (0+p3.2)).drop 0).take p5.2)).length≤1099511627776) then K (a++((((List.replicate 24 (0:Int)).take 0++r4.take p3.2++(List.replicate 24 (0:Int)).drop (0+p3.2)).drop 0).take p5.2)) else none else none else none else N244 a b d false true fun r6 r7=>K r6:=by kernel_rfl
end
theorem asO245 {G:World→Prop} {ng:Nat} (S:Stays Tryz.prog G ng) {N241:Ty241} {N242:Ty242} {N244:Ty244} {O243:TyO243} (h241:FnIs Tryz.prog G ng 241 (yq10 N241)) (h242:FnIs Tryz.prog G ng 242 (yq41 N242)) (h244:FnIs Tryz.prog G ng 244 (yq42 N244)) (ho243:OwnIs Tryz.prog G ng 243 (adO243 O243)) {A:TyO245} (hA:∀ (a0:List Int) (a1:Int) (a2:Int) (Kt:TkO245) (r:Out),A a0 a1 a2 Kt=some r→runO245 cut0 N241 N242 N244 O243 big a0 a1 a2 Kt=some r):OwnIs Tryz.prog G ng 245 (adO245 A):=by
  refine spec_own cut0_eq S (lo:=gamoO245 O243) (by intro p hp;simp only [gamoO245,List.mem_cons,List.not_mem_nil,or_false] at hp;rcases hp with rfl<;>assumption) (l:=gamO245 N241 N242 N244) (by intro p hp;simp only [gamO245,List.mem_cons,List.not_mem_nil,or_false] at hp;rcases hp with rfl | rfl | rfl<;>assumption) Tryz.func245 (by kernel_rfl) (nn:=9) (Lv:=lv0) (k:=big) fun rc cs K r hrc hcs h=>?_
  unfold adO245 at h
  split at h
  · exact ⟨_,hA _ _ _ _ _ h,fun p hp=>by unfold tokO245 at hp;split at hp;exact hp;cases hp⟩
  · cases h
variable {G:World→Prop} {ng:Nat}
def lvs66:Lv
 | 323=>kk [1,3]
 | 897=>kk [1,3,4]
 | _=>none
section
variable (C:Cu) (N109:Yq43)
def gam66:List (Nat × Fn1):=[(109,yq43 N109)]
def run66 (k:Nat) (a:Int) (b:Bool) (d f:BY) (K:Zq1):Oo:=runK prog (lookG (gam66 N109)) 5 lvs66 C k f66 none [.agg (.ss [.int .i64 a,.bool b,.str d,.str f])] (zq1 K)
def p1_66 (k:Nat) (a:Int) (b:Bool) (d f g:BY) (K:Zq1):Oo:=C 323 ([.u,.box 91 (.ss [si a,.bool b,.str d,.str f]),.u,sv g]++us 33) (aK (gam66 N109) 5 lvs66 C k f66 none (zq1 K) [1,1,1])
def p2_66 (k:Nat) (a:Int) (b:Bool) (d f g i:BY) (K:Zq1):Oo:=C 897 ([.u,.box 91 (.ss [si a,.bool b,.str d,.str f]),.u,sv g,sv i]++us 32) (aK (gam66 N109) 5 lvs66 C k f66 none (zq1 K) [1,1,1,1,1,1])
theorem run66_eq (k:Nat) (a:Int) (b:Bool) (d f:BY) (K:Zq1):run66 C N109 k a b d f K =
 bif b then p1_66 C N109 k a b d f [45] K else p1_66 C N109 k a b d f [] K:=by kernel_rfl
theorem p1_66_eq (hC:Cv C) (k a b d f g K):p1_66 C N109 k a b d f g K =
 N109 a b d f fun r1=>bif !r1 then K [] else bif (a==2)&&((b==false)&&((d==[])&&((f==[])&&true))) then K [46,110,97,110] else bif (a==1)&&((b==b)&&((d==[])&&((f==[])&&true))) then (cat g [46,105,110,102]).bind fun s2=>K s2 else (at? f 0).bind fun b3=>bif (b3.toNat:Int)==45 then p2_66 C N109 k a b d f g [] K else p2_66 C N109 k a b d f g [43] K:=hC.t (by kernel_rfl)
theorem p2_66_eq (hC:Cv C) (k a b d f g i K):p2_66 C N109 k a b d f g i K =
 (cat g d).bind fun s4=>(cat s4 [46,101]).bind fun s5=>(cat s5 i).bind fun s6=>(cat s6 f).bind fun s7=>K s7:=hC.t (by kernel_rfl)
variable {N109}
theorem as66 (S:SP G ng) (h109:FnP G ng 109 (yq43 N109)) {A:Yq29} (hA:Lq29 A (run66 cut0 N109 big)):FnP G ng 66 (yq29 A):=xq29 S (l:=gam66 N109) (mc h109 mn) func66 (by kernel_rfl) hA
end
def lvs99:Lv
 | 258=>kk [0,2,3,8,10,26]
 | _=>none
section
variable (C:Cu) (N148:Yq1) (N149:Yq25) (N150:Yq25) (N151:Yq1) (N152:Yq11) (N153:Yq44)
def gam99:List (Nat × Fn1):=[(148,yq1 N148),(149,yq25 N149),(150,yq25 N150),(151,yq1 N151),(152,yq11 N152),(153,yq44 N153)]
def run99 (k:Nat) (a:Bool) (b d f:BY) (K:Zq15):Oo:=runK prog (lookG (gam99 N148 N149 N150 N151 N152 N153)) 12 lvs99 C k f99 none [.s (.bool a),.s (.str b),.s (.str d),.s (.str f)] (zq15 K)
def p1_99 (k:Nat) (a:Bool) (b d:BY) (f:Int) (g:Bool) (i l m:BY) (o:Bool) (K:Zq15):Oo:=C 258 ([bv a,.u,sv b,sv d,.u,.u,.u,.u,.box 91 (.ss [si f,.bool g,.str i,.str l]),.u,sv m]++us 15++[bv o]++us 23) (aK (gam99 N148 N149 N150 N151 N152 N153) 12 lvs99 C k f99 none (zq15 K) [1,1,0,1])
theorem run99_eq (k:Nat) (a:Bool) (b d f:BY) (K:Zq15):run99 C N148 N149 N150 N151 N152 N153 k a b d f K =
 (cat b d).bind fun s1=>bif s1==[] then p1_99 C N148 N149 N150 N151 N152 N153 k a d f 0 false [] [] s1 true K else N149 s1 fun r2=>bif !r2 then p1_99 C N148 N149 N150 N151 N152 N153 k a d f 0 false [] [] s1 true K else N150 f fun r3=>p1_99 C N148 N149 N150 N151 N152 N153 k a d f 0 false [] [] s1 (!r3) K:=by kernel_rfl
theorem p1_99_eq (hC:Cv C) (k a b d f g i l m o K):p1_99 C N148 N149 N150 N151 N152 N153 k a b d f g i l m o K =
 bif o then K 0 false [] [] false else N151 m [48] fun r4=>N152 d (i64.wrap ((i64.wrap ((m.length:Int) - (r4.length:Int))) - (b.length:Int))) fun r5=>N148 r4 [48] fun r6=>bif r6==[] then N153 a fun r7 r8 r9 r10=>K r7 r8 r9 r10 true else K 0 a r6 r5 true:=hC.t (by kernel_rfl)
variable {N148 N149 N150 N151 N152 N153}
theorem as99 (S:SP G ng) (h148:FnP G ng 148 (yq1 N148)) (h149:FnP G ng 149 (yq25 N149)) (h150:FnP G ng 150 (yq25 N150)) (h151:FnP G ng 151 (yq1 N151)) (h152:FnP G ng 152 (yq11 N152)) (h153:FnP G ng 153 (yq44 N153)) {A:Yq34} (hA:Lq34 A (run99 cut0 N148 N149 N150 N151 N152 N153 big)):FnP G ng 99 (yq34 A):=xq34 S (l:=gam99 N148 N149 N150 N151 N152 N153) (mc h148 (mc h149 (mc h150 (mc h151 (mc h152 (mc h153 mn)))))) func99 (by kernel_rfl) hA
end
def lvs109:Lv
 | 386=>kk [1,5]
 | _=>none
section
variable (C:Cu) (N149:Yq25) (N150:Yq25) (N153:Yq44)
def gam109:List (Nat × Fn1):=[(149,yq25 N149),(150,yq25 N150),(153,yq44 N153)]
def run109 (k:Nat) (a:Int) (b:Bool) (d f:BY) (K:Zq5):Oo:=runK prog (lookG (gam109 N149 N150 N153)) 4 lvs109 C k f109 none [.agg (.ss [.int .i64 a,.bool b,.str d,.str f])] (zq5 K)
def p1_109 (k:Nat) (a:Int) (b:Bool) (d f:BY) (g:Bool) (K:Zq5):Oo:=C 386 ([.u,.box 91 (.ss [si a,.bool b,.str d,.str f]),.u,.u,.u,bv g]++us 44) (aK (gam109 N149 N150 N153) 4 lvs109 C k f109 none (zq5 K) [1,0,1,0,1])
theorem run109_eq (k:Nat) (a:Int) (b:Bool) (d f:BY) (K:Zq5):run109 C N149 N150 N153 k a b d f K =
 N153 b fun r1 r2 r3 r4=>bif (a==r1)&&((b==r2)&&((d==r3)&&((f==r4)&&true))) then p1_109 C N149 N150 N153 k a b d f ((a==r1)&&((b==r2)&&((d==r3)&&((f==r4)&&true)))) K else bif (a==1)&&((b==b)&&((d==[])&&((f==[])&&true))) then p1_109 C N149 N150 N153 k a b d f ((a==1)&&((b==b)&&((d==[])&&((f==[])&&true)))) K else p1_109 C N149 N150 N153 k a b d f ((a==2)&&((b==false)&&((d==[])&&((f==[])&&true)))) K:=by kernel_rfl
theorem p1_109_eq (hC:Cv C) (k a b d f g K):p1_109 C N149 N150 N153 k a b d f g K =
 bif g then K true else bif a==0 then bif decide ((d.length:Int) > 0) then N149 d fun r5=>bif r5 then (at? d 0).bind fun b6=>bif (b6.toNat:Int) != 48 then (at? d (i64.wrap ((d.length:Int) - 1))).bind fun b7=>bif (b7.toNat:Int) != 48 then N150 f fun r8=>K r8 else K false else K false else K false else K false else K false:=hC.t (by kernel_rfl)
variable {N149 N150 N153}
theorem as109 (S:SP G ng) (h149:FnP G ng 149 (yq25 N149)) (h150:FnP G ng 150 (yq25 N150)) (h153:FnP G ng 153 (yq44 N153)) {A:Yq43} (hA:Lq43 A (run109 cut0 N149 N150 N153 big)):FnP G ng 109 (yq43 A):=xq43 S (l:=gam109 N149 N150 N153) (mc h149 (mc h150 (mc h153 mn))) func109 (by kernel_rfl) hA
end
section
variable (C:Cu) (N163:Yq1)
def gam149:List (Nat × Fn1):=[(163,yq1 N163)]
noncomputable def run149 (k:Nat) (a:BY) (K:Zq5):Oo:=runK prog (lookG (gam149 N163)) 3 lv0 C k f149 none [.s (.str a)] (zq5 K)
theorem run149_eq (k:Nat) (a:BY) (K:Zq5):run149 C N163 k a K =
 N163 a [48,49,50,51,52,53,54,55,56,57] fun r1=>K (r1==[]):=by kernel_rfl
variable {N163}
theorem as149 (S:SP G ng) (h163:FnP G ng 163 (yq1 N163)) {A:Yq25} (hA:Lq25 A (run149 cut0 N163 big)):FnP G ng 149 (yq25 A):=xq25 S (l:=gam149 N163) (mc h163 mn) func149 (by kernel_rfl) hA
end
section
variable (C:Cu)
def gam153:List (Nat × Fn1):=[]
noncomputable def run153 (k:Nat) (a:Bool) (K:Zq19):Oo:=runK prog (lookG (gam153)) 3 lv0 C k f153 none [.s (.bool a)] (zq19 K)
theorem run153_eq (k:Nat) (a:Bool) (K:Zq19):run153 C k a K =
 K 0 a [48] [48]:=by kernel_rfl
theorem as153 (S:SP G ng) {A:Yq44} (hA:Lq44 A (run153 cut0 big)):FnP G ng 153 (yq44 A):=xq44 S (l:=gam153) mn func153 (by kernel_rfl) hA
end
def lvs64:Lv
 | 1537=>kk [5,7]
 | 1001282=>kk [5,7,8,48,49,50]
 | _=>none
section
variable (C:Cu) (N95:Yq11) (N96:Yq32) (N100:Yq45) (N101:Yq38) (N102:Yq46) (N103:Yq47) (N104:Yq36) (N105:Yq45)
def gam64:List (Nat × Fn1):=[(95,yq11 N95),(96,yq32 N96),(100,yq45 N100),(101,yq38 N101),(102,yq46 N102),(103,yq47 N103),(104,yq36 N104),(105,yq45 N105)]
def run64 (k:Nat) (a:BY) (K:Zq9):Oo:=runK prog (lookG (gam64 N95 N96 N100 N101 N102 N103 N104 N105)) 11 lvs64 C k f64 none [.s (.str a)] (zq9 K)
def p1_64 (k:Nat) (a:Bool) (b:BY) (K:Zq9):Oo:=C 1537 ([.u,.u,.u,.u,.u,bv a,.u,sv b]++us 54) (aK (gam64 N95 N96 N100 N101 N102 N103 N104 N105) 11 lvs64 C k f64 none (zq9 K) [1,1,1,1,1,1])
def l2_64 (k j0:Nat) (a:Bool) (b:BY) (d:List BY) (f g:Nat) (i l:Int) (K:Zq9):Oo:=C 1001282 ([.u,.u,.u,.u,.u,bv a,.u,sv b,.c (.own (.strs d))]++us 39++[.ali 8 f g,iv i,iv l]++us 11) (hK (gam64 N95 N96 N100 N101 N102 N103 N104 N105) 11 lvs64 C k f64 none (zq9 K) j0 [1,1,1,1,1,0,1,0,1,1,1,1,1,1,1,1,1,0,1,1,1,0])
theorem run64_eq (k:Nat) (a:BY) (K:Zq9):run64 C N95 N96 N100 N101 N102 N103 N104 N105 k a K =
 N100 a fun r1=>N101 a fun r2 r3=>N102 r3 [95] [] fun r4=>bif r1==0 then K [] false else bif r1==1 then (cut r4 (some (2:Int)) none).bind fun s5=>N95 s5 2 fun r6=>p1_64 C N95 N96 N100 N101 N102 N103 N104 N105 k r2 r6 K else bif r1==2 then (cut r4 (some (2:Int)) none).bind fun s7=>N95 s7 16 fun r8=>p1_64 C N95 N96 N100 N101 N102 N103 N104 N105 k r2 r8 K else bif r1==3 then (cut r4 (some (1:Int)) none).bind fun s9=>N95 s9 8 fun r10=>p1_64 C N95 N96 N100 N101 N102 N103 N104 N105 k r2 r10 K else bif r1==6 then N103 r4 [58] fun r11=>bif decide (0≤(0:Int))&&decide ((0:Int)<(r11.length:Int)) then (r11[0]?).bind fun x12=>N96 false x12 fun r13=>(cutN r11.length (some (1:Int)) none).bind fun p14=>l2_64 C N95 N96 N100 N101 N102 N103 N104 N105 k k r2 r13 r11 p14.1 p14.2 (p14.2:Int) 0 K else none else p1_64 C N95 N96 N100 N101 N102 N103 N104 N105 k r2 r4 K:=by kernel_rfl
theorem p1_64_eq (hC:Cv C) (k a b K):p1_64 C N95 N96 N100 N101 N102 N103 N104 N105 k a b K =
 N96 a b fun r15=>K r15 true:=hC.t (by kernel_rfl)
theorem l2_64_eq (hC:Cv C) (k j0 a b d f g i l K):l2_64 C N95 N96 N100 N101 N102 N103 N104 N105 k (j0+1) a b d f g i l K =
 bif decide (l<i) then bif decide (0≤l)&&decide (l<(g:Int)) then (d[(f+l.toNat)]?).bind fun x16=>N105 x16 fun r17=>N104 b 60 r17 fun r18=>l2_64 C N95 N96 N100 N101 N102 N103 N104 N105 k j0 a r18 d f g i (i64.wrap (l+1)) K else none else p1_64 C N95 N96 N100 N101 N102 N103 N104 N105 k a b K:=hC.t (by kernel_rfl)
variable {N95 N96 N100 N101 N102 N103 N104 N105}
theorem as64 (S:SP G ng) (h95:FnP G ng 95 (yq11 N95)) (h96:FnP G ng 96 (yq32 N96)) (h100:FnP G ng 100 (yq45 N100)) (h101:FnP G ng 101 (yq38 N101)) (h102:FnP G ng 102 (yq46 N102)) (h103:FnP G ng 103 (yq47 N103)) (h104:FnP G ng 104 (yq36 N104)) (h105:FnP G ng 105 (yq45 N105)) {A:Yq15} (hA:Lq15 A (run64 cut0 N95 N96 N100 N101 N102 N103 N104 N105 big)):FnP G ng 64 (yq15 A):=xq15 S (l:=gam64 N95 N96 N100 N101 N102 N103 N104 N105) (mc h95 (mc h96 (mc h100 (mc h101 (mc h102 (mc h103 (mc h104 (mc h105 mn)))))))) func64 (by kernel_rfl) hA
end
def lvs100:Lv
 | 1025 | 3000001=>kk [0,3,4,5,6]
 | 1154=>kk [0,3,5,52]
 | 3000000 | 3000002 | 3000003=>kk [0,3,5]
 | _=>none
section
variable (C:Cu) (N101:Yq38) (N154:Yq48) (N155:Yq13)
def gam100:List (Nat × Fn1):=[(101,yq38 N101),(154,yq48 N154),(155,yq13 N155)]
def run100 (k:Nat) (a:BY) (K:Zq7):Oo:=runK prog (lookG (gam100 N101 N154 N155)) 3 lvs100 C k f100 none [.s (.str a)] (zq7 K)
def g1_100 (k j0:Nat) (a:BY) (b d:Int) (K:Zq7):Oo:=C 3000000 ([sv a,.u,.u,iv b,.u,iv d]++us 133) (uK (gam100 N101 N154 N155) 3 lvs100 C k f100 none (zq7 K) j0 0 [1])
def p2_100 (k j0:Nat) (a:BY) (b:Int) (d:BY) (f:Int) (g:Bool) (K:Zq7):Oo:=C 1025 ([sv a,.u,.u,iv b,sv d,iv f,bv g]++us 132) (aK (gam100 N101 N154 N155) 3 lvs100 C k f100 none (zq7 K) [1,j0,1,1,1,1,1,1,1,1])
def p3_100 (k j0:Nat) (a:BY) (b d:Int) (f:Bool) (K:Zq7):Oo:=C 1154 ([sv a,.u,.u,iv b,.u,iv d]++us 46++[bv f]++us 86) (aK (gam100 N101 N154 N155) 3 lvs100 C k f100 none (zq7 K) [1,j0,1,1,1,1,1,1,1,1,1,1,1,0,1])
def g4_100 (k j0:Nat) (a:BY) (b:Int) (d:BY) (f:Int) (g:Bool) (K:Zq7):Oo:=C 3000001 ([sv a,.u,.u,iv b,sv d,iv f,bv g]++us 132) (uK (gam100 N101 N154 N155) 3 lvs100 C k f100 none (zq7 K) j0 1 [1])
def g5_100 (k j0:Nat) (a:BY) (b d:Int) (K:Zq7):Oo:=C 3000003 ([sv a,.u,.u,iv b,.u,iv d]++us 133) (uK (gam100 N101 N154 N155) 3 lvs100 C k f100 none (zq7 K) j0 3 [1])
def g6_100 (k j0:Nat) (a:BY) (b d:Int) (K:Zq7):Oo:=C 3000002 ([sv a,.u,.u,iv b,.u,iv d]++us 133) (uK (gam100 N101 N154 N155) 3 lvs100 C k f100 none (zq7 K) j0 2 [1])
theorem run100_eq (k:Nat) (a:BY) (K:Zq7):run100 C N101 N154 N155 k a K =
 N101 a fun r1 r2=>N154 r2 fun r3 r4 r5=>bif r3==4 then K r3 else bif r3==5 then g1_100 C N101 N154 N155 k k r2 r3 r5 K else bif r5==(r2.length:Int) then K 0 else (at? r2 r5).bind fun b6=>bif (b6.toNat:Int) != 95 then (at? r2 r5).bind fun b7=>N155 r4 (b7.toNat:Int) fun r8=>bif decide (r8<0) then K 0 else p2_100 C N101 N154 N155 k k r2 r3 r4 r5 true K else p2_100 C N101 N154 N155 k k r2 r3 r4 r5 false K:=by kernel_rfl
theorem g1_100_eq (hC:Cv C) (k j0 a b d K):g1_100 C N101 N154 N155 k (j0+1) a b d K =
 bif a==[] then p3_100 C N101 N154 N155 k j0 a b d true K else (at? a 0).bind fun b9=>bif decide ((b9.toNat:Int)<49) then p3_100 C N101 N154 N155 k j0 a b d true K else (at? a 0).bind fun b10=>p3_100 C N101 N154 N155 k j0 a b d (decide ((b10.toNat:Int) > 57)) K:=hC.t (by kernel_rfl)
theorem p2_100_eq (hC:Cv C) (k j0 a b d f g K):p2_100 C N101 N154 N155 k j0 a b d f g K =
 g4_100 C N101 N154 N155 k j0 a b d (i64.wrap (f+1)) g K:=hC.t (by kernel_rfl)
theorem p3_100_eq (hC:Cv C) (k j0 a b d f K):p3_100 C N101 N154 N155 k j0 a b d f K =
 bif f then K 0 else bif (i64.wrap (d+1))==(a.length:Int) then K b else (at? a (i64.wrap (d+1))).bind fun b11=>bif (b11.toNat:Int)==58 then g5_100 C N101 N154 N155 k j0 a 6 (i64.wrap (d+1)) K else (at? a (i64.wrap (d+1))).bind fun b12=>bif (b12.toNat:Int) != 95 then (at? a (i64.wrap (d+1))).bind fun b13=>N155 [48,49,50,51,52,53,54,55,56,57] (b13.toNat:Int) fun r14=>bif decide (r14<0) then K 0 else g6_100 C N101 N154 N155 k j0 a b (i64.wrap ((i64.wrap (d+1))+1)) K else g6_100 C N101 N154 N155 k j0 a b (i64.wrap ((i64.wrap (d+1))+1)) K:=hC.t (by kernel_rfl)
theorem g4_100_eq (hC:Cv C) (k j0 a b d f g K):g4_100 C N101 N154 N155 k (j0+1) a b d f g K =
 bif f==(a.length:Int) then bif g then K b else K 0 else (at? a f).bind fun b15=>bif (b15.toNat:Int) != 95 then (at? a f).bind fun b16=>N155 d (b16.toNat:Int) fun r17=>bif decide (r17<0) then K 0 else p2_100 C N101 N154 N155 k j0 a b d f true K else p2_100 C N101 N154 N155 k j0 a b d f g K:=hC.t (by kernel_rfl)
theorem g5_100_eq (hC:Cv C) (k j0 a b d K):g5_100 C N101 N154 N155 k (j0+1) a b d K =
 bif d==(a.length:Int) then K b else (at? a d).bind fun b18=>bif (b18.toNat:Int) != 58 then K 0 else bif decide ((i64.wrap ((i64.wrap (d+1))+1))<(a.length:Int)) then (at? a (i64.wrap (d+1))).bind fun b19=>bif decide ((b19.toNat:Int) ≥ 48) then (at? a (i64.wrap (d+1))).bind fun b20=>bif decide ((b20.toNat:Int)≤53) then (at? a (i64.wrap ((i64.wrap (d+1))+1))).bind fun b21=>bif decide ((b21.toNat:Int) ≥ 48) then (at? a (i64.wrap ((i64.wrap (d+1))+1))).bind fun b22=>bif decide ((b22.toNat:Int)≤57) then bif (i64.wrap ((i64.wrap (d+1))+1))==(a.length:Int) then K 0 else (at? a (i64.wrap ((i64.wrap (d+1))+1))).bind fun b23=>bif decide ((b23.toNat:Int)<48) then K 0 else (at? a (i64.wrap ((i64.wrap (d+1))+1))).bind fun b24=>bif decide ((b24.toNat:Int) > 57) then K 0 else g5_100 C N101 N154 N155 k j0 a b (i64.wrap ((i64.wrap ((i64.wrap (d+1))+1))+1)) K else bif (i64.wrap (d+1))==(a.length:Int) then K 0 else (at? a (i64.wrap (d+1))).bind fun b25=>bif decide ((b25.toNat:Int)<48) then K 0 else (at? a (i64.wrap (d+1))).bind fun b26=>bif decide ((b26.toNat:Int) > 57) then K 0 else g5_100 C N101 N154 N155 k j0 a b (i64.wrap ((i64.wrap (d+1))+1)) K else bif (i64.wrap (d+1))==(a.length:Int) then K 0 else (at? a (i64.wrap (d+1))).bind fun b27=>bif decide ((b27.toNat:Int)<48) then K 0 else (at? a (i64.wrap (d+1))).bind fun b28=>bif decide ((b28.toNat:Int) > 57) then K 0 else g5_100 C N101 N154 N155 k j0 a b (i64.wrap ((i64.wrap (d+1))+1)) K else bif (i64.wrap (d+1))==(a.length:Int) then K 0 else (at? a (i64.wrap (d+1))).bind fun b29=>bif decide ((b29.toNat:Int)<48) then K 0 else (at? a (i64.wrap (d+1))).bind fun b30=>bif decide ((b30.toNat:Int) > 57) then K 0 else g5_100 C N101 N154 N155 k j0 a b (i64.wrap ((i64.wrap (d+1))+1)) K else bif (i64.wrap (d+1))==(a.length:Int) then K 0 else (at? a (i64.wrap (d+1))).bind fun b31=>bif decide ((b31.toNat:Int)<48) then K 0 else (at? a (i64.wrap (d+1))).bind fun b32=>bif decide ((b32.toNat:Int) > 57) then K 0 else g5_100 C N101 N154 N155 k j0 a b (i64.wrap ((i64.wrap (d+1))+1)) K else bif (i64.wrap (d+1))==(a.length:Int) then K 0 else (at? a (i64.wrap (d+1))).bind fun b33=>bif decide ((b33.toNat:Int)<48) then K 0 else (at? a (i64.wrap (d+1))).bind fun b34=>bif decide ((b34.toNat:Int) > 57) then K 0 else g5_100 C N101 N154 N155 k j0 a b (i64.wrap ((i64.wrap (d+1))+1)) K:=hC.t (by kernel_rfl)
theorem g6_100_eq (hC:Cv C) (k j0 a b d K):g6_100 C N101 N154 N155 k (j0+1) a b d K =
 bif d==(a.length:Int) then K b else (at? a d).bind fun b35=>bif (b35.toNat:Int)==58 then g5_100 C N101 N154 N155 k j0 a 6 d K else (at? a d).bind fun b36=>bif (b36.toNat:Int) != 95 then (at? a d).bind fun b37=>N155 [48,49,50,51,52,53,54,55,56,57] (b37.toNat:Int) fun r38=>bif decide (r38<0) then K 0 else g6_100 C N101 N154 N155 k j0 a b (i64.wrap (d+1)) K else g6_100 C N101 N154 N155 k j0 a b (i64.wrap (d+1)) K:=hC.t (by kernel_rfl)
variable {N101 N154 N155}
theorem as100 (S:SP G ng) (h101:FnP G ng 101 (yq38 N101)) (h154:FnP G ng 154 (yq48 N154)) (h155:FnP G ng 155 (yq13 N155)) {A:Yq45} (hA:Lq45 A (run100 cut0 N101 N154 N155 big)):FnP G ng 100 (yq45 A):=xq45 S (l:=gam100 N101 N154 N155) (mc h101 (mc h154 (mc h155 mn))) func100 (by kernel_rfl) hA
end
def lvs101:Lv
 | 194=>kk [0,15]
 | _=>none
section
variable (C:Cu)
def gam101:List (Nat × Fn1):=[]
def run101 (k:Nat) (a:BY) (K:Zq17):Oo:=runK prog (lookG (gam101)) 4 lvs101 C k f101 none [.s (.str a)] (zq17 K)
def p1_101 (k:Nat) (a:BY) (b:Bool) (K:Zq17):Oo:=C 194 ([sv a]++us 14++[bv b]++us 6) (aK gam101 4 lvs101 C k f101 none (zq17 K) [1,0,1])
theorem run101_eq (k:Nat) (a:BY) (K:Zq17):run101 C k a K =
 bif !(a==[]) then (at? a 0).bind fun b1=>bif (b1.toNat:Int)==43 then p1_101 C k a true K else (at? a 0).bind fun b2=>p1_101 C k a ((b2.toNat:Int)==45) K else p1_101 C k a false K:=by kernel_rfl
theorem p1_101_eq (hC:Cv C) (k a b K):p1_101 C k a b K =
 bif b then (at? a 0).bind fun b3=>(cut a (some (1:Int)) none).bind fun s4=>K ((b3.toNat:Int)==45) s4 else K false a:=hC.t (by kernel_rfl)
theorem as101 (S:SP G ng) {A:Yq38} (hA:Lq38 A (run101 cut0 big)):FnP G ng 101 (yq38 A):=xq38 S (l:=gam101) mn func101 (by kernel_rfl) hA
end
def lvs105:Lv
 | 1000258=>kk [0,3,6,7]
 | _=>none
section
variable (C:Cu)
def gam105:List (Nat × Fn1):=[]
def run105 (k:Nat) (a:BY) (K:Zq7):Oo:=runK prog (lookG (gam105)) 5 lvs105 C k f105 none [.s (.str a)] (zq7 K)
def l1_105 (k j0:Nat) (a:BY) (b d f:Int) (K:Zq7):Oo:=C 1000258 ([sv a,.u,.u,iv b,.u,.u,iv d,iv f]++us 12) (hK gam105 5 lvs105 C k f105 none (zq7 K) j0 [1,1,0,1,0])
theorem run105_eq (k:Nat) (a:BY) (K:Zq7):run105 C k a K =
 l1_105 C k k a 0 (a.length:Int) 0 K:=by kernel_rfl
theorem l1_105_eq (hC:Cv C) (k j0 a b d f K):l1_105 C k (j0+1) a b d f K =
 bif decide (f<d) then (at? a f).bind fun b1=>l1_105 C k j0 a (i64.wrap ((i64.wrap ((10:Int) * b))+(i64.wrap (u8.wrap ((b1.toNat:Int) - 48))))) d (i64.wrap (f+1)) K else K b:=hC.t (by kernel_rfl)
theorem as105 (S:SP G ng) {A:Yq45} (hA:Lq45 A (run105 cut0 big)):FnP G ng 105 (yq45 A):=xq45 S (l:=gam105) mn func105 (by kernel_rfl) hA
end
section
variable (C:Cu) (N94:Yq31)
def gam154:List (Nat × Fn1):=[(94,yq31 N94)]
noncomputable def run154 (k:Nat) (a:BY) (K:Zq21):Oo:=runK prog (lookG (gam154 N94)) 5 lv0 C k f154 none [.s (.str a)] (zq21 K)
theorem run154_eq (k:Nat) (a:BY) (K:Zq21):run154 C N94 k a K =
 N94 a [48,98] fun r1=>bif r1 then K 1 [48,49] 2 else N94 a [48,120] fun r2=>bif r2 then K 2 [48,49,50,51,52,53,54,55,56,57,97,98,99,100,101,102,65,66,67,68,69,70] 2 else bif a==[48] then K 4 [] 1 else N94 a [48] fun r3=>bif r3 then (cut [48,49,50,51,52,53,54,55,56,57] none (some (8:Int))).bind fun s4=>K 3 s4 1 else K 5 [48,49,50,51,52,53,54,55,56,57] 0:=by kernel_rfl
variable {N94}
theorem as154 (S:SP G ng) (h94:FnP G ng 94 (yq31 N94)) {A:Yq48} (hA:Lq48 A (run154 cut0 N94 big)):FnP G ng 154 (yq48 A):=xq48 S (l:=gam154 N94) (mc h94 mn) func154 (by kernel_rfl) hA
end
variable {G:World→Prop} {ng:Nat}
section
variable (C:Cu) (N187:Yq81)
def gam133:List (Nat × Fn1):=[(187,yq81 N187)]
noncomputable def run133 (k:Nat) (a:BY) (K:Zq5):Oo:=runK prog (lookG (gam133 N187)) 3 lv0 C k f133 none [.s (.str a)] (zq5 K)
theorem run133_eq (k:Nat) (a:BY) (K:Zq5):run133 C N187 k a K =
 bif a==[] then K true else N187 1 a fun r1=>K (decide (r1 > 0)):=by kernel_rfl
variable {N187}
theorem as133 (S:SP G ng) (h187:FnP G ng 187 (yq81 N187)) {A:Yq25} (hA:Lq25 A (run133 cut0 N187 big)):FnP G ng 133 (yq25 A):=xq25 S (l:=gam133 N187) (mc h187 mn) func133 (by kernel_rfl) hA
end
def lvs135:Lv
 | 322=>kk [0,3,4]
 | _=>none
section
variable (C:Cu)
def gam135:List (Nat × Fn1):=[]
def run135 (k:Nat) (a:Int) (K:Zq29):Oo:=runK prog (lookG (gam135)) 3 lvs135 C k f135 none [.s (.int .i32 a)] (zq29 K)
def p1_135 (k:Nat) (a b:Int) (d:Bool) (K:Zq29):Oo:=C 322 ([.c (.s (.int .i32 a)),.u,.u,.c (.s (.int .i32 b)),bv d]++us 16) (aK gam135 3 lvs135 C k f135 none (zq29 K) [1,0,1,0,1])
theorem run135_eq (k:Nat) (a:Int) (K:Zq29):run135 C k a K =
 bif a==34 then p1_135 C k a a (a==34) K else p1_135 C k a a (a==92) K:=by kernel_rfl
theorem p1_135_eq (hC:Cv C) (k a b d K):p1_135 C k a b d K =
 bif d then K (u8.wrap a) else bif b==10 then K 110 else bif b==9 then K 116 else bif b==13 then K 114 else bif b==133 then K 78 else bif b==8232 then K 76 else bif b==8233 then K 80 else K 0:=hC.t (by kernel_rfl)
theorem as135 (S:SP G ng) {A:Yq82} (hA:Lq82 A (run135 cut0 big)):FnP G ng 135 (yq82 A):=xq82 S (l:=gam135) mn func135 (by kernel_rfl) hA
end
def lvs136:Lv
 | 194=>kk [0,1,14]
 | 386=>kk [6,32]
 | _=>none
section
variable (C:Cu) (N189:Yq83) (N190:Yq84)
def gam136:List (Nat × Fn1):=[(189,yq83 N189),(190,yq84 N190)]
def run136 (k:Nat) (a:BY) (b:Int) (K:Zq7):Oo:=runK prog (lookG (gam136 N189 N190)) 7 lvs136 C k f136 none [.s (.str a),.s (.int .i64 b)] (zq7 K)
def p1_136 (k:Nat) (a:BY) (b:Int) (d:Bool) (K:Zq7):Oo:=C 194 ([sv a,iv b]++us 12++[bv d]++us 19) (aK (gam136 N189 N190) 7 lvs136 C k f136 none (zq7 K) [1,0,1])
def p2_136 (k:Nat) (a:Int) (b:Bool) (K:Zq7):Oo:=C 386 (us 6++[iv a]++us 25++[bv b,.u]) (aK (gam136 N189 N190) 7 lvs136 C k f136 none (zq7 K) [1,1,1,0,1])
theorem run136_eq (k:Nat) (a:BY) (b:Int) (K:Zq7):run136 C N189 N190 k a b K =
 bif decide (b<0) then p1_136 C N189 N190 k a b true K else p1_136 C N189 N190 k a b (decide (b ≥ (a.length:Int))) K:=by kernel_rfl
theorem p1_136_eq (hC:Cv C) (k a b d K):p1_136 C N189 N190 k a b d K =
 bif d then K 0 else (cut a (some b) none).bind fun s1=>N189 s1 fun r2 r3=>bif r2==65533 then bif decide (r3≤1) then p2_136 C N189 N190 k r3 true K else N190 r2 fun r4=>p2_136 C N189 N190 k r3 (!r4) K else N190 r2 fun r5=>p2_136 C N189 N190 k r3 (!r5) K:=hC.t (by kernel_rfl)
theorem p2_136_eq (hC:Cv C) (k a b K):p2_136 C N189 N190 k a b K =
 bif b then K 0 else K a:=hC.t (by kernel_rfl)
variable {N189 N190}
theorem as136 (S:SP G ng) (h189:FnP G ng 189 (yq83 N189)) (h190:FnP G ng 190 (yq84 N190)) {A:Yq85} (hA:Lq85 A (run136 cut0 N189 N190 big)):FnP G ng 136 (yq85 A):=xq85 S (l:=gam136 N189 N190) (mc h189 (mc h190 mn)) func136 (by kernel_rfl) hA
end
def lvs187:Lv
 | 1000578=>kk [5,6,19]
 | _=>none
section
variable (C:Cu) (N220:Yq86) (N221:Yq25)
def gam187:List (Nat × Fn1):=[(220,yq86 N220),(221,yq25 N221)]
def run187 (k:Nat) (a:Int) (b:BY) (K:Zq7):Oo:=runK prog (lookG (gam187 N220 N221)) 9 lvs187 C k f187 none [.s (.int .i64 a),.s (.str b)] (zq7 K)
def l1_187 (k j0:Nat) (a b:Int) (d:BY) (f:Nat) (K:Zq7):Oo:=C 1000578 ([.u,.u,.u,.u,.u,iv a,iv b]++us 12++[.iter d f]++us 16) (hK (gam187 N220 N221) 9 lvs187 C k f187 none (zq7 K) j0 [1,1,1,1,1,0,1,0])
theorem run187_eq (k:Nat) (a:Int) (b:BY) (K:Zq7):run187 C N220 N221 k a b K =
 N220 a fun r1=>N221 b fun r2=>bif !r2 then K 0 else bif r1==1 then K (b.length:Int) else l1_187 C N220 N221 k k r1 0 b 0 K:=by kernel_rfl
variable {N220 N221}
theorem as187 (S:SP G ng) (h220:FnP G ng 220 (yq86 N220)) (h221:FnP G ng 221 (yq25 N221)) {A:Yq81} (hA:Lq81 A (run187 cut0 N220 N221 big)):FnP G ng 187 (yq81 A):=xq81 S (l:=gam187 N220 N221) (mc h220 (mc h221 mn)) func187 (by kernel_rfl) hA
end
def lvs189:Lv
 | 194=>kk [0,10]
 | _=>none
section
variable (C:Cu) (N223:Yq83)
def gam189:List (Nat × Fn1):=[(223,yq83 N223)]
def run189 (k:Nat) (a:BY) (K:Zq30):Oo:=runK prog (lookG (gam189 N223)) 4 lvs189 C k f189 none [.s (.str a)] (zq30 K)
def p1_189 (k:Nat) (a:BY) (b:Bool) (K:Zq30):Oo:=C 194 ([sv a]++us 9++[bv b]++us 8) (aK (gam189 N223) 4 lvs189 C k f189 none (zq30 K) [1,0,1])
theorem run189_eq (k:Nat) (a:BY) (K:Zq30):run189 C N223 k a K =
 bif !(a==[]) then (at? a 0).bind fun b1=>p1_189 C N223 k a (decide ((b1.toNat:Int)<128)) K else p1_189 C N223 k a false K:=by kernel_rfl
theorem p1_189_eq (hC:Cv C) (k a b K):p1_189 C N223 k a b K =
 bif b then (at? a 0).bind fun b2=>K (IntKind.i32.wrap (b2.toNat:Int)) 1 else N223 a fun r3 r4=>K r3 r4:=hC.t (by kernel_rfl)
variable {N223}
theorem as189 (S:SP G ng) (h223:FnP G ng 223 (yq83 N223)) {A:Yq83} (hA:Lq83 A (run189 cut0 N223 big)):FnP G ng 189 (yq83 A):=xq83 S (l:=gam189 N223) (mc h223 mn) func189 (by kernel_rfl) hA
end
def lvs190:Lv
 | 386=>kk [0,3]
 | 578=>kk [0,12]
 | 706=>kk [12]
 | _=>none
section
variable (C:Cu)
def gam190:List (Nat × Fn1):=[]
def run190 (k:Nat) (a:Int) (K:Zq5):Oo:=runK prog (lookG (gam190)) 3 lvs190 C k f190 none [.s (.int .i32 a)] (zq5 K)
def p1_190 (k:Nat) (a:Int) (b:Bool) (K:Zq5):Oo:=C 386 ([.c (.s (.int .i32 a)),.u,.u,bv b]++us 25) (aK gam190 3 lvs190 C k f190 none (zq5 K) [1,0,0,1])
def p2_190 (k:Nat) (a:Bool) (K:Zq5):Oo:=C 706 (us 12++[bv a]++us 16) (aK gam190 3 lvs190 C k f190 none (zq5 K) [1,0,0,1,1,1])
def p3_190 (k:Nat) (a:Int) (b:Bool) (K:Zq5):Oo:=C 578 ([.c (.s (.int .i32 a))]++us 11++[bv b]++us 16) (aK gam190 3 lvs190 C k f190 none (zq5 K) [1,0,0,1,1,0,1,1,1])
theorem run190_eq (k:Nat) (a:Int) (K:Zq5):run190 C k a K =
 bif a==9 then p1_190 C k a (a==9) K else bif a==10 then p1_190 C k a (a==10) K else bif a==13 then p1_190 C k a (a==13) K else p1_190 C k a (a==133) K:=by kernel_rfl
theorem p1_190_eq (hC:Cv C) (k a b K):p1_190 C k a b K =
 bif b then K true else bif decide (a<32) then p2_190 C k (decide (a<32)) K else bif decide (a > 126) then p3_190 C k a (decide (a<160)) K else p3_190 C k a false K:=hC.t (by kernel_rfl)
theorem p2_190_eq (hC:Cv C) (k a K):p2_190 C k a K =
 bif a then K false else K true:=hC.t (by kernel_rfl)
theorem p3_190_eq (hC:Cv C) (k a b K):p3_190 C k a b K =
 bif b then p2_190 C k b K else bif a==65279 then p2_190 C k (a==65279) K else bif decide (a > 65533) then p2_190 C k (decide (a<65536)) K else p2_190 C k false K:=hC.t (by kernel_rfl)
theorem as190 (S:SP G ng) {A:Yq84} (hA:Lq84 A (run190 cut0 big)):FnP G ng 190 (yq84 A):=xq84 S (l:=gam190) mn func190 (by kernel_rfl) hA
end
section
variable (C:Cu) (N155:Yq13) (N226:Yq20)
def gam194:List (Nat × Fn1):=[(155,yq13 N155),(226,yq20 N226)]
noncomputable def run194 (k:Nat) (a:Int) (K:Zq5):Oo:=runK prog (lookG (gam194 N155 N226)) 3 lv0 C k f194 none [.s (.int .u8 a)] (zq5 K)
theorem run194_eq (k:Nat) (a:Int) (K:Zq5):run194 C N155 N226 k a K =
 N226 a fun r1=>bif r1 then K true else N155 [45,95,46,126,42,39,40,41,59,47,63,58,64,38,61,43,36,44,33,35,91,93,37] a fun r2=>K (decide (r2 ≥ 0)):=by kernel_rfl
variable {N155 N226}
theorem as194 (S:SP G ng) (h155:FnP G ng 155 (yq13 N155)) (h226:FnP G ng 226 (yq20 N226)) {A:Yq20} (hA:Lq20 A (run194 cut0 N155 N226 big)):FnP G ng 194 (yq20 A):=xq20 S (l:=gam194 N155 N226) (mc h155 (mc h226 mn)) func194 (by kernel_rfl) hA
end
def lvs220:Lv
 | 640 | 705 | 769=>kk [3]
 | 5000129=>kk [3,4,5]
 | 5000193=>kk [3,4,8]
 | _=>none
section
variable (C:Cu)
def gam220:List (Nat × Fn1):=[]
def run220 (k:Nat) (a:Int) (K:Zq7):Oo:=runK prog (lookG (gam220)) 4 lvs220 C k f220 none [.s (.int .i64 a)] (zq7 K)
def p1_220 (k:Nat) (a b:Int) (d:Bool) (K:Zq7):Oo:=C 5000129 ([.u,.u,.u,iv a,iv b,bv d]++us 14) (aK gam220 4 lvs220 C k f220 none (zq7 K) [1,1,0,1,0,0,0,0,0,0,0,0,0,1])
def p2_220 (k:Nat) (a:Int) (K:Zq7):Oo:=C 640 ([.u,.u,.u,iv a]++us 16) (aK gam220 4 lvs220 C k f220 none (zq7 K) [1,1,0,1,0,0,0,1])
def p3_220 (k:Nat) (a b:Int) (d:Bool) (K:Zq7):Oo:=C 5000193 ([.u,.u,.u,iv a,iv b,.u,.u,.u,bv d]++us 11) (aK gam220 4 lvs220 C k f220 none (zq7 K) [1,1,0,1,0,0,0,0,0,0,0,0,1,0,1])
def p4_220 (k:Nat) (a:Int) (K:Zq7):Oo:=C 705 ([.u,.u,.u,iv a]++us 16) (aK gam220 4 lvs220 C k f220 none (zq7 K) [1,1,0,1,0,1])
def p5_220 (k:Nat) (a:Int) (K:Zq7):Oo:=C 769 ([.u,.u,.u,iv a]++us 16) (aK gam220 4 lvs220 C k f220 none (zq7 K) [1,1,1])
theorem run220_eq (k:Nat) (a:Int) (K:Zq7):run220 C k a K =
 bif a==4 then p1_220 C k 0 a (a==4) K else p1_220 C k 0 a (a==5) K:=by kernel_rfl
theorem p1_220_eq (hC:Cv C) (k a b d K):p1_220 C k a b d K =
 bif d then p2_220 C k (i64.wrap (a+2)) K else bif b==2 then p3_220 C k a b (b==2) K else p3_220 C k a b (b==3) K:=hC.t (by kernel_rfl)
theorem p3_220_eq (hC:Cv C) (k a b d K):p3_220 C k a b d K =
 bif d then p2_220 C k a K else bif b==1 then p4_220 C k a K else p5_220 C k a K:=hC.t (by kernel_rfl)
theorem p4_220_eq (hC:Cv C) (k a K):p4_220 C k a K =
 p5_220 C k (i64.wrap (a+1)) K:=hC.t (by kernel_rfl)
theorem p5_220_eq (hC:Cv C) (k a K):p5_220 C k a K =
 K a:=hC.t (by kernel_rfl)
theorem as220 (S:SP G ng) {A:Yq86} (hA:Lq86 A (run220 cut0 big)):FnP G ng 220 (yq86 A):=xq86 S (l:=gam220) mn func220 (by kernel_rfl) hA
end
section
variable (C:Cu)
def gam226:List (Nat × Fn1):=[]
noncomputable def run226 (k:Nat) (a:Int) (K:Zq5):Oo:=runK prog (lookG (gam226)) 3 lv0 C k f226 none [.s (.int .u8 a)] (zq5 K)
theorem run226_eq (k:Nat) (a:Int) (K:Zq5):run226 C k a K =
 bif decide (a ≥ 97) then bif decide (a≤122) then K true else bif decide (a ≥ 65) then bif decide (a≤90) then K true else bif decide (a ≥ 48) then K (decide (a≤57)) else K false else bif decide (a ≥ 48) then K (decide (a≤57)) else K false else bif decide (a ≥ 65) then bif decide (a≤90) then K true else bif decide (a ≥ 48) then K (decide (a≤57)) else K false else bif decide (a ≥ 48) then K (decide (a≤57)) else K false:=by kernel_rfl
theorem as226 (S:SP G ng) {A:Yq20} (hA:Lq20 A (run226 cut0 big)):FnP G ng 226 (yq20 A):=xq20 S (l:=gam226) mn func226 (by kernel_rfl) hA
end
variable {G:World→Prop} {ng:Nat}
section
variable (C:Cu) (N141:Yq25)
def gam82:List (Nat × Fn1):=[(141,yq25 N141)]
noncomputable def run82 (k:Nat) (a:BY) (K:Zq1):Oo:=runK prog (lookG (gam82 N141)) 3 lv0 C k f82 none [.s (.str a)] (zq1 K)
theorem run82_eq (k:Nat) (a:BY) (K:Zq1):run82 C N141 k a K =
 N141 a fun r1=>bif !r1 then K [] else (cat [33,60] a).bind fun s2=>(cat s2 [62]).bind fun s3=>K s3:=by kernel_rfl
variable {N141}
theorem as82 (S:SP G ng) (h141:FnP G ng 141 (yq25 N141)) {A:Yq14} (hA:Lq14 A (run82 cut0 N141 big)):FnP G ng 82 (yq14 A):=xq14 S (l:=gam82 N141) (mc h141 mn) func82 (by kernel_rfl) hA
end
variable {G:World→Prop} {ng:Nat}
def lvs35:Lv
 | 1000195=>kk [0,3]
 | _=>none
section
variable (C:Cu) (N51:Yq87)
def gam35:List (Nat × Fn1):=[(51,yq87 N51)]
def run35 (k:Nat) (a:BY) (K:Zq5):Oo:=runK prog (lookG (gam35 N51)) 6 lvs35 C k f35 none [.s (.str a)] (zq5 K)
def l1_35 (k j0:Nat) (a:BY) (b:Int) (K:Zq5):Oo:=C 1000195 ([sv a,.u,.u,iv b]++us 17) (hK (gam35 N51) 6 lvs35 C k f35 none (zq5 K) j0 [1,0,1,0])
theorem run35_eq (k:Nat) (a:BY) (K:Zq5):run35 C N51 k a K =
 l1_35 C N51 k k a 0 K:=by kernel_rfl
theorem l1_35_eq (hC:Cv C) (k j0 a b K):l1_35 C N51 k (j0+1) a b K =
 bif decide (b<(a.length:Int)) then N51 a b fun r1 r2=>bif r2==0 then K false else l1_35 C N51 k j0 a (i64.wrap (b+r2)) K else K true:=hC.t (by kernel_rfl)
variable {N51}
theorem as35 (S:SP G ng) (h51:FnP G ng 51 (yq87 N51)) {A:Yq25} (hA:Lq25 A (run35 cut0 N51 big)):FnP G ng 35 (yq25 A):=xq25 S (l:=gam35 N51) (mc h51 mn) func35 (by kernel_rfl) hA
end
def lvs48:Lv
 | 1000387=>kk [0,3,4]
 | _=>none
section
variable (C:Cu) (N35:Yq25) (N51:Yq87) (N84:Yq85) (N85:Yq12)
def gam48:List (Nat × Fn1):=[(35,yq25 N35),(51,yq87 N51),(84,yq85 N84),(85,yq12 N85)]
def run48 (k:Nat) (a:BY) (K:Zq1):Oo:=runK prog (lookG (gam48 N35 N51 N84 N85)) 3 lvs48 C k f48 none [.s (.str a)] (zq1 K)
def l1_48 (k j0:Nat) (a b:BY) (d:Int) (K:Zq1):Oo:=C 1000387 ([sv a,.u,.u,sv b,iv d]++us 109) (hK (gam48 N35 N51 N84 N85) 3 lvs48 C k f48 none (zq1 K) j0 [1,1,1,0,1,0])
theorem run48_eq (k:Nat) (a:BY) (K:Zq1):run48 C N35 N51 N84 N85 k a K =
 N35 a fun r1=>bif !r1 then K [] else l1_48 C N35 N51 N84 N85 k k a [34] 0 K:=by kernel_rfl
theorem l1_48_eq (hC:Cv C) (k j0 a b d K):l1_48 C N35 N51 N84 N85 k (j0+1) a b d K =
 bif decide (d<(a.length:Int)) then N51 a d fun r2 r3=>bif r2==34 then (cat b [92]).bind fun s4=>(cut a (some d) (some (i64.wrap (d+r3)))).bind fun s5=>(cat s4 s5).bind fun s6=>l1_48 C N35 N51 N84 N85 k j0 a s6 (i64.wrap (d+r3)) K else bif r2==92 then (cat b [92]).bind fun s7=>(cut a (some d) (some (i64.wrap (d+r3)))).bind fun s8=>(cat s7 s8).bind fun s9=>l1_48 C N35 N51 N84 N85 k j0 a s9 (i64.wrap (d+r3)) K else bif r2==10 then (cat b [92]).bind fun s10=>(cat s10 [110]).bind fun s11=>l1_48 C N35 N51 N84 N85 k j0 a s11 (i64.wrap (d+r3)) K else bif r2==9 then (cat b [92]).bind fun s12=>(cat s12 [116]).bind fun s13=>l1_48 C N35 N51 N84 N85 k j0 a s13 (i64.wrap (d+r3)) K else bif r2==13 then (cat b [92]).bind fun s14=>(cat s14 [114]).bind fun s15=>l1_48 C N35 N51 N84 N85 k j0 a s15 (i64.wrap (d+r3)) K else bif r2==133 then (cat b [92]).bind fun s16=>(cat s16 [78]).bind fun s17=>l1_48 C N35 N51 N84 N85 k j0 a s17 (i64.wrap (d+r3)) K else bif r2==8232 then (cat b [92]).bind fun s18=>(cat s18 [76]).bind fun s19=>l1_48 C N35 N51 N84 N85 k j0 a s19 (i64.wrap (d+r3)) K else bif r2==8233 then (cat b [92]).bind fun s20=>(cat s20 [80]).bind fun s21=>l1_48 C N35 N51 N84 N85 k j0 a s21 (i64.wrap (d+r3)) K else N84 a d fun r22=>bif decide (r22 > 0) then (cut a (some d) (some (i64.wrap (d+r3)))).bind fun s23=>(cat b s23).bind fun s24=>l1_48 C N35 N51 N84 N85 k j0 a s24 (i64.wrap (d+r3)) K else bif decide (r2<256) then (cat b [92]).bind fun s25=>(cat s25 [120]).bind fun s26=>N85 r2 2 fun r27=>(cat s26 r27).bind fun s28=>l1_48 C N35 N51 N84 N85 k j0 a s28 (i64.wrap (d+r3)) K else bif decide (r2<65536) then (cat b [92]).bind fun s29=>(cat s29 [117]).bind fun s30=>N85 r2 4 fun r31=>(cat s30 r31).bind fun s32=>l1_48 C N35 N51 N84 N85 k j0 a s32 (i64.wrap (d+r3)) K else (cat b [92]).bind fun s33=>(cat s33 [85]).bind fun s34=>N85 r2 8 fun r35=>(cat s34 r35).bind fun s36=>l1_48 C N35 N51 N84 N85 k j0 a s36 (i64.wrap (d+r3)) K else (cat b [34]).bind fun s37=>K s37:=hC.t (by kernel_rfl)
variable {N35 N51 N84 N85}
theorem as48 (S:SP G ng) (h35:FnP G ng 35 (yq25 N35)) (h51:FnP G ng 51 (yq87 N51)) (h84:FnP G ng 84 (yq85 N84)) (h85:FnP G ng 85 (yq12 N85)) {A:Yq14} (hA:Lq14 A (run48 cut0 N35 N51 N84 N85 big)):FnP G ng 48 (yq14 A):=xq14 S (l:=gam48 N35 N51 N84 N85) (mc h35 (mc h51 (mc h84 (mc h85 mn)))) func48 (by kernel_rfl) hA
end
section
variable (C:Cu) (N39:Yq25)
def gam49:List (Nat × Fn1):=[(39,yq25 N39)]
noncomputable def run49 (k:Nat) (a:BY) (K:Zq1):Oo:=runK prog (lookG (gam49 N39)) 3 lv0 C k f49 none [.s (.str a)] (zq1 K)
theorem run49_eq (k:Nat) (a:BY) (K:Zq1):run49 C N39 k a K =
 N39 a fun r1=>bif !r1 then K [] else (cat [33,60] a).bind fun s2=>(cat s2 [62]).bind fun s3=>K s3:=by kernel_rfl
variable {N39}
theorem as49 (S:SP G ng) (h39:FnP G ng 39 (yq25 N39)) {A:Yq14} (hA:Lq14 A (run49 cut0 N39 big)):FnP G ng 49 (yq14 A):=xq14 S (l:=gam49 N39) (mc h39 mn) func49 (by kernel_rfl) hA
end
def lvs51:Lv
 | 194=>kk [0,1,17]
 | 641=>kk [0,1,6,26]
 | 769=>kk [0,1,6,35]
 | 897=>kk [0,1,6,44]
 | 962=>kk [0,1,6,7,8]
 | 1410=>kk [6,7,97]
 | 1001027=>kk [0,1,6,7,8,9]
 | _=>none
section
variable (C:Cu) (N87:Yq37)
def gam51:List (Nat × Fn1):=[(87,yq37 N87)]
def run51 (k:Nat) (a:BY) (b:Int) (K:Zq10):Oo:=runK prog (lookG (gam51 N87)) 6 lvs51 C k f51 none [.s (.str a),.s (.int .i64 b)] (zq10 K)
def p1_51 (k:Nat) (a:BY) (b:Int) (d:Bool) (K:Zq10):Oo:=C 194 ([sv a,iv b]++us 15++[bv d]++us 82) (aK (gam51 N87) 6 lvs51 C k f51 none (zq10 K) [1,0,1])
def p2_51 (k:Nat) (a:BY) (b d:Int) (f:Bool) (K:Zq10):Oo:=C 641 ([sv a,iv b,.u,.u,.u,.u,iv d]++us 19++[bv f]++us 73) (aK (gam51 N87) 6 lvs51 C k f51 none (zq10 K) [1,1,1,1,0,0,1,1,1])
def p3_51 (k:Nat) (a:BY) (b d f g:Int) (K:Zq10):Oo:=C 962 ([sv a,iv b,.u,.u,.u,.u,iv d,iv f,iv g]++us 91) (aK (gam51 N87) 6 lvs51 C k f51 none (zq10 K) [1,1,1,1,1])
def p4_51 (k:Nat) (a:BY) (b d:Int) (f:Bool) (K:Zq10):Oo:=C 769 ([sv a,iv b,.u,.u,.u,.u,iv d]++us 28++[bv f]++us 64) (aK (gam51 N87) 6 lvs51 C k f51 none (zq10 K) [1,1,1,1,0,0,1,1,1,1,1])
def l5_51 (k j0:Nat) (a:BY) (b d f g i:Int) (K:Zq10):Oo:=C 1001027 ([sv a,iv b,.u,.u,.u,.u,iv d,iv f,iv g,iv i]++us 90) (hK (gam51 N87) 6 lvs51 C k f51 none (zq10 K) j0 [1,1,1,1,1,0,1,0])
def p6_51 (k:Nat) (a:BY) (b d:Int) (f:Bool) (K:Zq10):Oo:=C 897 ([sv a,iv b,.u,.u,.u,.u,iv d]++us 37++[bv f]++us 55) (aK (gam51 N87) 6 lvs51 C k f51 none (zq10 K) [1,1,1,1,0,0,1,1,1,1,1,1,1])
def p7_51 (k:Nat) (a b:Int) (d:Bool) (K:Zq10):Oo:=C 1410 (us 6++[iv a,iv b]++us 89++[bv d,.u,.u]) (aK (gam51 N87) 6 lvs51 C k f51 none (zq10 K) [1,1,1,1,1,1,0,1])
theorem run51_eq (k:Nat) (a:BY) (b:Int) (K:Zq10):run51 C N87 k a b K =
 bif decide (b<0) then p1_51 C N87 k a b true K else p1_51 C N87 k a b (decide (b ≥ (a.length:Int))) K:=by kernel_rfl
theorem p1_51_eq (hC:Cv C) (k a b d K):p1_51 C N87 k a b d K =
 bif d then K 0 0 else (at? a b).bind fun b1=>bif decide ((i64.wrap (b1.toNat:Int))<128) then K (i64.wrap (b1.toNat:Int)) 1 else bif decide ((i64.wrap (b1.toNat:Int)) ≥ 192) then p2_51 C N87 k a b (i64.wrap (b1.toNat:Int)) (decide ((i64.wrap (b1.toNat:Int))<224)) K else p2_51 C N87 k a b (i64.wrap (b1.toNat:Int)) false K:=hC.t (by kernel_rfl)
theorem p2_51_eq (hC:Cv C) (k a b d f K):p2_51 C N87 k a b d f K =
 bif f then p3_51 C N87 k a b (i64.wrap (d - 192)) 2 128 K else bif decide (d ≥ 224) then p4_51 C N87 k a b d (decide (d<240)) K else p4_51 C N87 k a b d false K:=hC.t (by kernel_rfl)
theorem p3_51_eq (hC:Cv C) (k a b d f g K):p3_51 C N87 k a b d f g K =
 l5_51 C N87 k k a b d f g 1 K:=hC.t (by kernel_rfl)
theorem p4_51_eq (hC:Cv C) (k a b d f K):p4_51 C N87 k a b d f K =
 bif f then p3_51 C N87 k a b (i64.wrap (d - 224)) 3 2048 K else bif decide (d ≥ 240) then p6_51 C N87 k a b d (decide (d<248)) K else p6_51 C N87 k a b d false K:=hC.t (by kernel_rfl)
theorem l5_51_eq (hC:Cv C) (k j0 a b d f g i K):l5_51 C N87 k (j0+1) a b d f g i K =
 bif decide (i<f) then bif decide (f > (i64.wrap ((a.length:Int) - b))) then K 0 0 else (at? a (i64.wrap (b+i))).bind fun b2=>bif decide ((b2.toNat:Int)<128) then K 0 0 else (at? a (i64.wrap (b+i))).bind fun b3=>bif decide ((b3.toNat:Int) ≥ 192) then K 0 0 else (at? a (i64.wrap (b+i))).bind fun b4=>l5_51 C N87 k j0 a b (i64.wrap ((i64.wrap ((i64.wrap (d * 64))+(i64.wrap (b4.toNat:Int)))) - 128)) f g (i64.wrap (i+1)) K else bif decide (d<g) then p7_51 C N87 k d f true K else N87 d fun r5=>p7_51 C N87 k d f (!r5) K:=hC.t (by kernel_rfl)
theorem p6_51_eq (hC:Cv C) (k a b d f K):p6_51 C N87 k a b d f K =
 bif f then p3_51 C N87 k a b (i64.wrap (d - 240)) 4 65536 K else K 0 0:=hC.t (by kernel_rfl)
theorem p7_51_eq (hC:Cv C) (k a b d K):p7_51 C N87 k a b d K =
 bif d then K 0 0 else K a b:=hC.t (by kernel_rfl)
variable {N87}
theorem as51 (S:SP G ng) (h87:FnP G ng 87 (yq37 N87)) {A:Yq87} (hA:Lq87 A (run51 cut0 N87 big)):FnP G ng 51 (yq87 A):=xq87 S (l:=gam51 N87) (mc h87 mn) func51 (by kernel_rfl) hA
end
def lvs84:Lv
 | 258=>kk [5,6,13]
 | 386=>kk [6,37]
 | _=>none
section
variable (C:Cu) (N51:Yq87)
def gam84:List (Nat × Fn1):=[(51,yq87 N51)]
def run84 (k:Nat) (a:BY) (b:Int) (K:Zq7):Oo:=runK prog (lookG (gam84 N51)) 7 lvs84 C k f84 none [.s (.str a),.s (.int .i64 b)] (zq7 K)
def p1_84 (k:Nat) (a b:Int) (d:Bool) (K:Zq7):Oo:=C 258 ([.u,.u,.u,.u,.u,iv a,iv b]++us 6++[bv d]++us 39) (aK (gam84 N51) 7 lvs84 C k f84 none (zq7 K) [1,1,0,0,1])
def p2_84 (k:Nat) (a:Int) (b:Bool) (K:Zq7):Oo:=C 386 (us 6++[iv a]++us 30++[bv b]++us 15) (aK (gam84 N51) 7 lvs84 C k f84 none (zq7 K) [1,1,0,0,1,1,1])
theorem run84_eq (k:Nat) (a:BY) (b:Int) (K:Zq7):run84 C N51 k a b K =
 N51 a b fun r1 r2=>bif r1==9 then p1_84 C N51 k r1 r2 true K else bif r1==10 then p1_84 C N51 k r1 r2 true K else bif r1==13 then p1_84 C N51 k r1 r2 true K else bif decide (r1 ≥ 32) then bif decide (r1≤126) then p1_84 C N51 k r1 r2 true K else p1_84 C N51 k r1 r2 (r1==133) K else p1_84 C N51 k r1 r2 (r1==133) K:=by kernel_rfl
theorem p1_84_eq (hC:Cv C) (k a b d K):p1_84 C N51 k a b d K =
 bif d then K b else bif decide (a ≥ 160) then bif decide (a≤65533) then bif a != 65279 then p2_84 C N51 k b true K else p2_84 C N51 k b (decide (a ≥ 65536)) K else p2_84 C N51 k b (decide (a ≥ 65536)) K else p2_84 C N51 k b (decide (a ≥ 65536)) K:=hC.t (by kernel_rfl)
variable {N51}
theorem as84 (S:SP G ng) (h51:FnP G ng 51 (yq87 N51)) {A:Yq85} (hA:Lq85 A (run84 cut0 N51 big)):FnP G ng 84 (yq85 A):=xq85 S (l:=gam84 N51) (mc h51 mn) func84 (by kernel_rfl) hA
end
section
variable (C:Cu)
def gam87:List (Nat × Fn1):=[]
noncomputable def run87 (k:Nat) (a:Int) (K:Zq5):Oo:=runK prog (lookG (gam87)) 3 lv0 C k f87 none [.s (.int .i64 a)] (zq5 K)
theorem run87_eq (k:Nat) (a:Int) (K:Zq5):run87 C k a K =
 bif decide (a ≥ 0) then bif decide (a≤1114111) then bif decide (a<55296) then K true else K (decide (a > 57343)) else K false else K false:=by kernel_rfl
theorem as87 (S:SP G ng) {A:Yq37} (hA:Lq37 A (run87 cut0 big)):FnP G ng 87 (yq37 A):=xq37 S (l:=gam87) mn func87 (by kernel_rfl) hA
end
variable {G:World→Prop} {ng:Nat}
def lvs11:Lv
 | 322=>kk [0,1,2,3,43]
 | 1793=>kk [0,9,13,15,17,18,49,50,51,76,77]
 | 1000514=>kk [0,9,49,50,51]
 | _=>none
section
variable (C:Cu) (N26:Yq67) (N29:Yq60) (N30:Yq66) (N31:Yq58) (N32:Yq76) (N34:Yq74) (N35:Yq25) (N36:Yq88) (N37:Yq89) (N38:Yq90)
def gam11:List (Nat × Fn1):=[(26,yq67 N26),(29,yq60 N29),(30,yq66 N30),(31,yq58 N31),(32,yq76 N32),(34,yq74 N34),(35,yq25 N35),(36,yq88 N36),(37,yq89 N37),(38,yq90 N38)]
def run11 (k:Nat) (a:Bool) (b:BY) (d:Int) (f:List Int) (K:Zq5):Oo:=runK prog (lookG (gam11 N26 N29 N30 N31 N32 N34 N35 N36 N37 N38)) 9 lvs11 C k f11 none [.s (.bool a),.s (.str b),.s (.int .u8 d),.ro (.ints .u8 f)] (zq5 K)
def p1_11 (k:Nat) (a:Bool) (b:BY) (d:Int) (f:List Int) (g:Bool) (K:Zq5):Oo:=C 322 ([bv a,sv b,.c (.s (.int .u8 d)),.c (.ro (.ints .u8 f))]++us 39++[bv g]++us 117) (aK (gam11 N26 N29 N30 N31 N32 N34 N35 N36 N37 N38) 9 lvs11 C k f11 none (zq5 K) [1,1,0,1])
def l2_11 (k j0:Nat) (a:Bool) (b:BY) (d:List BY) (f g:Int) (K:Zq5):Oo:=C 1000514 ([bv a]++us 8++[sv b]++us 39++[.c (.own (.strs d)),iv f,iv g]++us 109) (hK (gam11 N26 N29 N30 N31 N32 N34 N35 N36 N37 N38) 9 lvs11 C k f11 none (zq5 K) j0 [1,1,1,1,0,1,0])
def p3_11 (k j0:Nat) (a:Bool) (b d f g i:BY) (l:Bool) (m:List BY) (o p q:Int) (t:Bool) (K:Zq5):Oo:=C 1793 ([bv a]++us 8++[sv b,.u,.u,.u,sv d,.u,.box 27 (.ss [.str f,.str g]),.u,sv i,bv l]++us 30++[.c (.own (.strs m)),iv o,iv p]++us 24++[iv q,bv t]++us 83) (aK (gam11 N26 N29 N30 N31 N32 N34 N35 N36 N37 N38) 9 lvs11 C k f11 none (zq5 K) [1,1,1,1,0,1,0,j0,1,1,0,0,1,1,1,1,1,1,1])
theorem run11_eq (k:Nat) (a:Bool) (b:BY) (d:Int) (f:List Int) (K:Zq5):run11 C N26 N29 N30 N31 N32 N34 N35 N36 N37 N38 k a b d f K =
 N29 fun r1=>bif !r1 then K false else bif decide ((b.length:Int) > 60) then p1_11 C N26 N29 N30 N31 N32 N34 N35 N36 N37 N38 k a b d f true K else bif decide ((f.length:Int) > 8) then p1_11 C N26 N29 N30 N31 N32 N34 N35 N36 N37 N38 k a b d f true K else N35 b fun r2=>p1_11 C N26 N29 N30 N31 N32 N34 N35 N36 N37 N38 k a b d f (!r2) K:=by kernel_rfl
theorem p1_11_eq (hC:Cv C) (k a b d f g K):p1_11 C N26 N29 N30 N31 N32 N34 N35 N36 N37 N38 k a b d f g K =
 bif g then K true else N30 d fun r3=>N31 f fun r4=>l2_11 C N26 N29 N30 N31 N32 N34 N35 N36 N37 N38 k k a r3 ([b,r4]:List (BY)) 2 0 K:=hC.t (by kernel_rfl)
theorem l2_11_eq (hC:Cv C) (k j0 a b d f g K):l2_11 C N26 N29 N30 N31 N32 N34 N35 N36 N37 N38 k (j0+1) a b d f g K =
 bif decide (g<f) then bif decide (0≤g)&&decide (g<(d.length:Int)) then (d[g.toNat]?).bind fun x5=>N32 a b x5 fun r6 r7 r8=>N26 11 b x5 a fun r9 r10 r11=>bif !(r8==r11) then K false else bif !r8 then l2_11 C N26 N29 N30 N31 N32 N34 N35 N36 N37 N38 k j0 a b d f (i64.wrap (g+1)) K else bif r6==0 then l2_11 C N26 N29 N30 N31 N32 N34 N35 N36 N37 N38 k j0 a b d f (i64.wrap (g+1)) K else bif r6==1 then N36 12 r7 0 fun r12 r13 r14 r15=>bif r14 != 0 then K false else bif r13 != (r7.length:Int) then K false else p3_11 C N26 N29 N30 N31 N32 N34 N35 N36 N37 N38 k j0 a b r12 r9 r10 b false d f g r6 (r6==0) K else bif r6==2 then N37 r7 0 fun r16 r17 r18 r19 r20=>bif !r20 then K false else bif r19 != (i64.wrap ((r7.length:Int) - 1)) then K false else N38 r16 r17 r18 fun r21 r22=>p3_11 C N26 N29 N30 N31 N32 N34 N35 N36 N37 N38 k j0 a b x5 r9 r10 r21 a d f g r6 (r6==0) K else p3_11 C N26 N29 N30 N31 N32 N34 N35 N36 N37 N38 k j0 a b r7 r9 r10 b true d f g r6 (r6==0) K else none else K true:=hC.t (by kernel_rfl)
theorem p3_11_eq (hC:Cv C) (k j0 a b d f g i l m o p q t K):p3_11 C N26 N29 N30 N31 N32 N34 N35 N36 N37 N38 k j0 a b d f g i l m o p q t K =
 N26 12 i d l fun r23 r24 r25=>N26 11 i d l fun r26 r27 r28=>bif !r25 then K false else bif !r28 then K false else bif !((f==r23)&&((g==r24)&&true)) then K false else bif !((f==r26)&&((g==r27)&&true)) then K false else N34 l i d fun r29=>bif !r29 then K false else l2_11 C N26 N29 N30 N31 N32 N34 N35 N36 N37 N38 k j0 a b m o (i64.wrap (p+1)) K:=hC.t (by kernel_rfl)
variable {N26 N29 N30 N31 N32 N34 N35 N36 N37 N38}
theorem as11 (S:SP G ng) (h26:FnP G ng 26 (yq67 N26)) (h29:FnP G ng 29 (yq60 N29)) (h30:FnP G ng 30 (yq66 N30)) (h31:FnP G ng 31 (yq58 N31)) (h32:FnP G ng 32 (yq76 N32)) (h34:FnP G ng 34 (yq74 N34)) (h35:FnP G ng 35 (yq25 N35)) (h36:FnP G ng 36 (yq88 N36)) (h37:FnP G ng 37 (yq89 N37)) (h38:FnP G ng 38 (yq90 N38)) {A:Yq91} (hA:Lq91 A (run11 cut0 N26 N29 N30 N31 N32 N34 N35 N36 N37 N38 big)):FnP G ng 11 (yq91 A):=xq91 S (l:=gam11 N26 N29 N30 N31 N32 N34 N35 N36 N37 N38) (mc h26 (mc h29 (mc h30 (mc h31 (mc h32 (mc h34 (mc h35 (mc h36 (mc h37 (mc h38 mn)))))))))) func11 (by kernel_rfl) hA
end
def lvs36:Lv
 | 194=>kk [0,1,2,8,32]
 | 1000387=>some [(0,.k),(1,.k),(2,.k),(8,.k),(9,.o (.ints .u8 [])),(10,.k)]
 | _=>none
section
variable (C:Cu) (N52:Yq92) (N53:Yq93) (N54:Yq10) (N55:Yq94) (N56:Yq95) (N57:Yq96) (N58:Yq97)
def gam36:List (Nat × Fn1):=[(52,yq92 N52),(53,yq93 N53),(54,yq10 N54),(55,yq94 N55),(56,yq95 N56),(57,yq96 N57),(58,yq97 N58)]
def run36 (k:Nat) (a:Int) (b:BY) (d:Int) (K:Zq31):Oo:=runK prog (lookG (gam36 N52 N53 N54 N55 N56 N57 N58)) 9 lvs36 C k f36 none [.s (.int .i64 a),.s (.str b),.s (.int .i64 d)] (zq31 K)
def p1_36 (k:Nat) (a:Int) (b:BY) (d f g:Int) (i:Bool) (K:Zq31):Oo:=C 194 ([iv a,sv b,iv d,.u,.u,.u,.u,.u,.box 52 (.ss [si f,si g])]++us 23++[bv i]++us 112) (aK (gam36 N52 N53 N54 N55 N56 N57 N58) 9 lvs36 C k f36 none (zq31 K) [1,0,1])
def l2_36 (k j0:Nat) (a:Int) (b:BY) (d f g:Int) (i:List Int) (l:Int) (K:Zq31):Oo:=C 1000387 ([iv a,sv b,iv d,.u,.u,.u,.u,.u,.box 52 (.ss [si f,si g]),.c (.own (.ints .u8 i)),iv l]++us 134) (hK (gam36 N52 N53 N54 N55 N56 N57 N58) 9 lvs36 C k f36 none (zq31 K) j0 [1,1,1,1,0,0])
theorem run36_eq (k:Nat) (a:Int) (b:BY) (d:Int) (K:Zq31):run36 C N52 N53 N54 N55 N56 N57 N58 k a b d K =
 bif decide (d<0) then p1_36 C N52 N53 N54 N55 N56 N57 N58 k a b d 0 0 true K else bif decide (d ≥ (b.length:Int)) then p1_36 C N52 N53 N54 N55 N56 N57 N58 k a b d 0 0 true K else (at? b d).bind fun b1=>p1_36 C N52 N53 N54 N55 N56 N57 N58 k a b d 0 0 ((b1.toNat:Int) != 34) K:=by kernel_rfl
theorem p1_36_eq (hC:Cv C) (k a b d f g i K):p1_36 C N52 N53 N54 N55 N56 N57 N58 k a b d f g i K =
 bif i then K [] 0 11 d else l2_36 C N52 N53 N54 N55 N56 N57 N58 k k a b d f g ([]:List Int) (i64.wrap (d+1)) K:=hC.t (by kernel_rfl)
theorem l2_36_eq (hC:Cv C) (k j0 a b d f g i l K):l2_36 C N52 N53 N54 N55 N56 N57 N58 k (j0+1) a b d f g i l K =
 bif decide (l<(b.length:Int)) then (at? b l).bind fun b2=>bif (b2.toNat:Int)==34 then K (i.map fun n=>UInt8.ofNat n.toNat) (i64.wrap (l+1)) 0 0 else (at? b l).bind fun b3=>bif (b3.toNat:Int)==92 then N52 a b (i64.wrap (l+1)) fun r4=>bif decide (r4 > 0) then N53 a b (i64.wrap (l+1)) fun r5 r6 r7 r8=>bif r7 != 0 then K [] 0 r7 r8 else N54 (i64.wrap (r6 - 1)) fun r9=>bif decide ((i++(r9.map fun c=>(c.toNat:Int))).length≤1099511627776) then l2_36 C N52 N53 N54 N55 N56 N57 N58 k j0 a b d f g (i++(r9.map fun c=>(c.toNat:Int))) r5 K else none else (at? b l).bind fun b10=>bif (b10.toNat:Int)==92 then N55 a b l fun r11 r12=>bif decide (r11<0) then K [] 0 14 l else N56 r11 fun r13=>bif decide ((i++r13).length≤1099511627776) then l2_36 C N52 N53 N54 N55 N56 N57 N58 k j0 a b d f g (i++r13) r12 K else none else N57 b l fun r14=>bif r14 then N53 a b l fun r15 r16 r17 r18=>bif r17 != 0 then K [] 0 r17 r18 else N58 b l r15 r16 fun r19=>bif decide ((i++(r19.map fun c=>(c.toNat:Int))).length≤1099511627776) then l2_36 C N52 N53 N54 N55 N56 N57 N58 k j0 a b d f g (i++(r19.map fun c=>(c.toNat:Int))) r15 K else none else N52 a b l fun r20=>bif decide (r20 > 0) then N53 a b l fun r21 r22 r23 r24=>bif r23 != 0 then K [] 0 r23 r24 else N58 b l r21 r22 fun r25=>bif decide ((i++(r25.map fun c=>(c.toNat:Int))).length≤1099511627776) then l2_36 C N52 N53 N54 N55 N56 N57 N58 k j0 a b d f g (i++(r25.map fun c=>(c.toNat:Int))) r21 K else none else (at? b l).bind fun b26=>bif decide ((i++([(b26.toNat:Int)]:List Int)).length≤1099511627776) then l2_36 C N52 N53 N54 N55 N56 N57 N58 k j0 a b d f g (i++([(b26.toNat:Int)]:List Int)) (i64.wrap (l+1)) K else none else (at? b l).bind fun b27=>bif (b27.toNat:Int)==92 then N55 a b l fun r28 r29=>bif decide (r28<0) then K [] 0 14 l else N56 r28 fun r30=>bif decide ((i++r30).length≤1099511627776) then l2_36 C N52 N53 N54 N55 N56 N57 N58 k j0 a b d f g (i++r30) r29 K else none else N57 b l fun r31=>bif r31 then N53 a b l fun r32 r33 r34 r35=>bif r34 != 0 then K [] 0 r34 r35 else N58 b l r32 r33 fun r36=>bif decide ((i++(r36.map fun c=>(c.toNat:Int))).length≤1099511627776) then l2_36 C N52 N53 N54 N55 N56 N57 N58 k j0 a b d f g (i++(r36.map fun c=>(c.toNat:Int))) r32 K else none else N52 a b l fun r37=>bif decide (r37 > 0) then N53 a b l fun r38 r39 r40 r41=>bif r40 != 0 then K [] 0 r40 r41 else N58 b l r38 r39 fun r42=>bif decide ((i++(r42.map fun c=>(c.toNat:Int))).length≤1099511627776) then l2_36 C N52 N53 N54 N55 N56 N57 N58 k j0 a b d f g (i++(r42.map fun c=>(c.toNat:Int))) r38 K else none else (at? b l).bind fun b43=>bif decide ((i++([(b43.toNat:Int)]:List Int)).length≤1099511627776) then l2_36 C N52 N53 N54 N55 N56 N57 N58 k j0 a b d f g (i++([(b43.toNat:Int)]:List Int)) (i64.wrap (l+1)) K else none else K [] 0 11 d:=hC.t (by kernel_rfl)
variable {N52 N53 N54 N55 N56 N57 N58}
theorem as36 (S:SP G ng) (h52:FnP G ng 52 (yq92 N52)) (h53:FnP G ng 53 (yq93 N53)) (h54:FnP G ng 54 (yq10 N54)) (h55:FnP G ng 55 (yq94 N55)) (h56:FnP G ng 56 (yq95 N56)) (h57:FnP G ng 57 (yq96 N57)) (h58:FnP G ng 58 (yq97 N58)) {A:Yq88} (hA:Lq88 A (run36 cut0 N52 N53 N54 N55 N56 N57 N58 big)):FnP G ng 36 (yq88 A):=xq88 S (l:=gam36 N52 N53 N54 N55 N56 N57 N58) (mc h52 (mc h53 (mc h54 (mc h55 (mc h56 (mc h57 (mc h58 mn))))))) func36 (by kernel_rfl) hA
end
def lvs37:Lv
 | 194=>kk [0,1,4,25]
 | 386=>kk [0,1,4,7,38]
 | 642=>kk [0,4,7,8,68]
 | 961=>kk [0,1,4,7,9,10,95]
 | 1025=>kk [0,1,4,7,9]
 | 1282=>kk [0,1,4,9,11,120]
 | 1000451=>kk [0,4,7,8]
 | 1001091=>kk [0,1,4,7,9,11]
 | _=>none
section
variable (C:Cu) (N59:Yq20) (N60:Yq85) (N61:Yq20)
def gam37:List (Nat × Fn1):=[(59,yq20 N59),(60,yq85 N60),(61,yq20 N61)]
def run37 (k:Nat) (a:BY) (b:Int) (K:Zq32):Oo:=runK prog (lookG (gam37 N59 N60 N61)) 7 lvs37 C k f37 none [.s (.str a),.s (.int .i64 b)] (zq32 K)
def p1_37 (k:Nat) (a:BY) (b:Int) (d:Bool) (f g:BY) (i:Bool) (K:Zq32):Oo:=C 194 ([sv a,iv b,.u,.u,.box 56 (.ss [.bool d,.str f,.str g])]++us 20++[bv i]++us 106) (aK (gam37 N59 N60 N61) 7 lvs37 C k f37 none (zq32 K) [1,0,1])
def p2_37 (k:Nat) (a:BY) (b:Int) (d:Bool) (f g:BY) (i:Int) (l:Bool) (K:Zq32):Oo:=C 386 ([sv a,iv b,.u,.u,.box 56 (.ss [.bool d,.str f,.str g]),.u,.u,iv i]++us 30++[bv l]++us 93) (aK (gam37 N59 N60 N61) 7 lvs37 C k f37 none (zq32 K) [1,1,1,0,1])
def l3_37 (k j0:Nat) (a:BY) (b:Bool) (d f:BY) (g i:Int) (K:Zq32):Oo:=C 1000451 ([sv a,.u,.u,.u,.box 56 (.ss [.bool b,.str d,.str f]),.u,.u,iv g,iv i]++us 123) (hK (gam37 N59 N60 N61) 7 lvs37 C k f37 none (zq32 K) j0 [1,1,1,0,1,0,1,0,0])
def p4_37 (k:Nat) (a:BY) (b:Int) (d:Bool) (f g:BY) (i l m:Int) (o:Bool) (K:Zq32):Oo:=C 961 ([sv a,iv b,.u,.u,.box 56 (.ss [.bool d,.str f,.str g]),.u,.u,iv i,.u,iv l,iv m]++us 84++[bv o]++us 36) (aK (gam37 N59 N60 N61) 7 lvs37 C k f37 none (zq32 K) [1,1,1,1,1,0,1,1])
def p5_37 (k:Nat) (a:BY) (b:Bool) (d f:BY) (g i:Int) (l:Bool) (K:Zq32):Oo:=C 642 ([sv a,.u,.u,.u,.box 56 (.ss [.bool b,.str d,.str f]),.u,.u,iv g,iv i]++us 59++[bv l]++us 63) (aK (gam37 N59 N60 N61) 7 lvs37 C k f37 none (zq32 K) [1,1,1,0,1,0,1,1,0,1])
theorem run37_eq (k:Nat) (a:BY) (b:Int) (K:Zq32):run37 C N59 N60 N61 k a b K =
 bif decide (b<0) then p1_37 C N59 N60 N61 k a b false [] [] true K else bif decide (b ≥ (a.length:Int)) then p1_37 C N59 N60 N61 k a b false [] [] true K else (at? a b).bind fun b1=>p1_37 C N59 N60 N61 k a b false [] [] ((b1.toNat:Int) != 33) K:=by kernel_rfl
theorem p1_37_eq (hC:Cv C) (k a b d f g i K):p1_37 C N59 N60 N61 k a b d f g i K =
 bif i then K false [] [] 0 false else bif decide ((i64.wrap (b+1))<(a.length:Int)) then (at? a (i64.wrap (b+1))).bind fun b2=>p2_37 C N59 N60 N61 k a b d f g (i64.wrap (b+1)) ((b2.toNat:Int)==60) K else p2_37 C N59 N60 N61 k a b d f g (i64.wrap (b+1)) false K:=hC.t (by kernel_rfl)
theorem p2_37_eq (hC:Cv C) (k a b d f g i l K):p2_37 C N59 N60 N61 k a b d f g i l K =
 bif l then l3_37 C N59 N60 N61 k k a d f g i (i64.wrap (i+1)) K else N60 a i fun r3=>bif decide ((i64.wrap (i+r3))<(a.length:Int)) then (at? a (i64.wrap (i+r3))).bind fun b4=>p4_37 C N59 N60 N61 k a b d f g i i r3 ((b4.toNat:Int)==33) K else p4_37 C N59 N60 N61 k a b d f g i i r3 false K:=hC.t (by kernel_rfl)
theorem l3_37_eq (hC:Cv C) (k j0 a b d f g i K):l3_37 C N59 N60 N61 k (j0+1) a b d f g i K =
 bif decide (i<(a.length:Int)) then (at? a i).bind fun b5=>N59 (b5.toNat:Int) fun r6=>bif r6 then l3_37 C N59 N60 N61 k j0 a b d f g (i64.wrap (i+1)) K else bif i==(i64.wrap (g+1)) then p5_37 C N59 N60 N61 k a b d f g i true K else bif i==(a.length:Int) then p5_37 C N59 N60 N61 k a b d f g i true K else (at? a i).bind fun b7=>p5_37 C N59 N60 N61 k a b d f g i ((b7.toNat:Int) != 62) K else bif i==(i64.wrap (g+1)) then p5_37 C N59 N60 N61 k a b d f g i true K else bif i==(a.length:Int) then p5_37 C N59 N60 N61 k a b d f g i true K else (at? a i).bind fun b8=>p5_37 C N59 N60 N61 k a b d f g i ((b8.toNat:Int) != 62) K:=hC.t (by kernel_rfl)
theorem p5_37_eq (hC:Cv C) (k a b d f g i l K):p5_37 C N59 N60 N61 k a b d f g i l K =
 bif l then K false [] [] 0 false else (cut a (some (i64.wrap (g+1))) (some i)).bind fun s9=>K true [] s9 (i64.wrap (i+1)) true:=hC.t (by kernel_rfl)
variable {N59 N60 N61}
theorem as37 (S:SP G ng) (h59:FnP G ng 59 (yq20 N59)) (h60:FnP G ng 60 (yq85 N60)) (h61:FnP G ng 61 (yq20 N61)) {A:Yq89} (hA:Lq89 A (run37 cut0 N59 N60 N61 big)):FnP G ng 37 (yq89 A):=xq89 S (l:=gam37 N59 N60 N61) (mc h59 (mc h60 (mc h61 mn))) func37 (by kernel_rfl) hA
end
def lvs38:Lv
 | 322=>kk [1,2,18]
 | 1000451=>kk [1,2,6]
 | _=>none
section
variable (C:Cu)
def gam38:List (Nat × Fn1):=[]
def run38 (k:Nat) (a:Bool) (b d:BY) (K:Zq9):Oo:=runK prog (lookG (gam38)) 7 lvs38 C k f38 none [.agg (.ss [.bool a,.str b,.str d]),.s .nils] (zq9 K)
def p1_38 (k:Nat) (a:Bool) (b d:BY) (f:Bool) (K:Zq9):Oo:=C 322 ([.u,.c (.s .nils),.box 56 (.ss [.bool a,.str b,.str d])]++us 15++[bv f]++us 35) (aK gam38 7 lvs38 C k f38 none (zq9 K) [1,1,0,1])
theorem run38_eq (k:Nat) (a:Bool) (b d:BY) (K:Zq9):run38 C k a b d K =
 bif a then K d true else bif b==[33] then p1_38 C k a b d (d==[]) K else p1_38 C k a b d false K:=by kernel_rfl
theorem as38 (S:SP G ng) {A:Yq90} (hA:Lq90 A (run38 cut0 big)):FnP G ng 38 (yq90 A):=xq90 S (l:=gam38) mn func38 (by kernel_rfl) hA
end
section
variable (C:Cu)
def gam57:List (Nat × Fn1):=[]
noncomputable def run57 (k:Nat) (a:BY) (b:Int) (K:Zq5):Oo:=runK prog (lookG (gam57)) 5 lv0 C k f57 none [.s (.str a),.s (.int .i64 b)] (zq5 K)
theorem run57_eq (k:Nat) (a:BY) (b:Int) (K:Zq5):run57 C k a b K =
 bif decide (b ≥ 0) then bif decide (b<(a.length:Int)) then (at? a b).bind fun b1=>bif (b1.toNat:Int)==32 then K true else (at? a b).bind fun b2=>K ((b2.toNat:Int)==9) else K false else K false:=by kernel_rfl
theorem as57 (S:SP G ng) {A:Yq96} (hA:Lq96 A (run57 cut0 big)):FnP G ng 57 (yq96 A):=xq96 S (l:=gam57) mn func57 (by kernel_rfl) hA
end
variable {G:World→Prop} {ng:Nat}
def lvs52:Lv
 | 194=>kk [0,1,2,16]
 | 322=>kk [0,1,2,17]
 | 450=>kk [0,1,2,36]
 | 770=>kk [8,65]
 | _=>none
section
variable (C:Cu) (N51:Yq87)
def gam52:List (Nat × Fn1):=[(51,yq87 N51)]
def run52 (k:Nat) (a:Int) (b:BY) (d:Int) (K:Zq7):Oo:=runK prog (lookG (gam52 N51)) 7 lvs52 C k f52 none [.s (.int .i64 a),.s (.str b),.s (.int .i64 d)] (zq7 K)
def p1_52 (k:Nat) (a:Int) (b:BY) (d:Int) (f:Bool) (K:Zq7):Oo:=C 194 ([iv a,sv b,iv d]++us 13++[bv f]++us 50) (aK (gam52 N51) 7 lvs52 C k f52 none (zq7 K) [1,0,1])
def p2_52 (k:Nat) (a:Int) (b:BY) (d:Int) (f:Bool) (K:Zq7):Oo:=C 322 ([iv a,sv b,iv d]++us 14++[bv f]++us 49) (aK (gam52 N51) 7 lvs52 C k f52 none (zq7 K) [1,1,0,0,1])
def p3_52 (k:Nat) (a:Int) (b:BY) (d:Int) (f:Bool) (K:Zq7):Oo:=C 450 ([iv a,sv b,iv d]++us 33++[bv f]++us 30) (aK (gam52 N51) 7 lvs52 C k f52 none (zq7 K) [1,1,0,0,1,1,1])
def p4_52 (k:Nat) (a:Int) (b:Bool) (K:Zq7):Oo:=C 770 (us 8++[iv a]++us 56++[bv b,.u]) (aK (gam52 N51) 7 lvs52 C k f52 none (zq7 K) [1,1,1,1,0,1])
theorem run52_eq (k:Nat) (a:Int) (b:BY) (d:Int) (K:Zq7):run52 C N51 k a b d K =
 bif decide (d<0) then p1_52 C N51 k a b d true K else p1_52 C N51 k a b d (decide (d ≥ (b.length:Int))) K:=by kernel_rfl
theorem p1_52_eq (hC:Cv C) (k a b d f K):p1_52 C N51 k a b d f K =
 bif f then K 0 else (at? b d).bind fun b1=>bif (b1.toNat:Int)==13 then bif decide ((i64.wrap (d+1))<(b.length:Int)) then (at? b (i64.wrap (d+1))).bind fun b2=>p2_52 C N51 k a b d ((b2.toNat:Int)==10) K else p2_52 C N51 k a b d false K else p2_52 C N51 k a b d false K:=hC.t (by kernel_rfl)
theorem p2_52_eq (hC:Cv C) (k a b d f K):p2_52 C N51 k a b d f K =
 bif f then K 2 else (at? b d).bind fun b3=>bif (b3.toNat:Int)==10 then p3_52 C N51 k a b d true K else (at? b d).bind fun b4=>p3_52 C N51 k a b d ((b4.toNat:Int)==13) K:=hC.t (by kernel_rfl)
theorem p3_52_eq (hC:Cv C) (k a b d f K):p3_52 C N51 k a b d f K =
 bif f then K 1 else bif a != 11 then K 0 else N51 b d fun r5 r6=>bif r5==133 then p4_52 C N51 k r6 true K else bif r5==8232 then p4_52 C N51 k r6 true K else p4_52 C N51 k r6 (r5==8233) K:=hC.t (by kernel_rfl)
variable {N51}
theorem as52 (S:SP G ng) (h51:FnP G ng 51 (yq87 N51)) {A:Yq92} (hA:Lq92 A (run52 cut0 N51 big)):FnP G ng 52 (yq92 A):=xq92 S (l:=gam52 N51) (mc h51 mn) func52 (by kernel_rfl) hA
end
end
end Go.Proofs.YtffmgholjdfcnaaGreatDoor
