/- Texts of this session, joined. -/
import Derived.Test.YtffmgholjdfcnaaGreatDoorJW
import Derived.Test.YtffmgholjdfcnaaGreatDoorProg
set_option maxRecDepth 100000
set_option linter.unusedVariables false
namespace Go.Proofs.YtffmgholjdfcnaaGreatDoor
open Go Go.Proofs AM
open Go.IntKind (i64 u8)
noncomputable section
def lvs110 : Nat → Option (List (Nat × Co))
 | 770 => some [(2, .k), (5, .k), (6, .k), (8, .k)]
 | 1474 => some [(2, .k), (5, .k), (6, .k), (8, .k)]
 | 1922 => some [(2, .k), (5, .k), (6, .k), (8, .k)]
 | 3000000 => some [(2, .k), (5, .k), (6, .k), (8, .k)]
 | 3000001 => some [(2, .k), (5, .k), (6, .k), (8, .k)]
 | _ => none
section
variable (C : Nat → Env → (Env → Option Out) → Option Out) (N151 : Ty151) (N164 : Ty164) (N165 : Ty165) (N166 : Ty166) (N167 : Ty167) (N168 : Ty168) (N169 : Ty169)
def gam110 : List (Nat × Fn1) := [(151, adp151 N151), (164, adp164 N164), (165, adp165 N165), (166, adp166 N166), (167, adp167 N167), (168, adp168 N168), (169, adp169 N169)]
def bod110 : Code := Tryz.f110.body.getD .skip
def run110 (k : Nat) (a0 : BY) (Kt : Tk110) : Option Out := runK Tryz.prog (lookG (gam110 N151 N164 N165 N166 N167 N168 N169)) 5 lvs110 C k Tryz.f110 none [.s (.str a0)] (tok110 Kt)
def p1_110 (k j0 : Nat) (v2_0 v2_1 v2_2 v2_3 v2_4 v2_5 : Int) (v2_6 : BY) (v2_7 v5_0 v5_1 v5_2 v5_3 v5_4 v5_5 : Int) (v5_6 : BY) (v5_7 : Int) (v6 : Bool) (v8_0 : BY) (v8_1 : Bool) (Kt : Tk110) : Option Out := C 770 ([.u, .u, .box 123 (.ss [.int .i64 v2_0, .int .i64 v2_1, .int .i64 v2_2, .int .i64 v2_3, .int .i64 v2_4, .int .i64 v2_5, .str v2_6, .int .i64 v2_7]), .u, .u, .box 123 (.ss [.int .i64 v5_0, .int .i64 v5_1, .int .i64 v5_2, .int .i64 v5_3, .int .i64 v5_4, .int .i64 v5_5, .str v5_6, .int .i64 v5_7]), .c (.s (.bool v6)), .u, .box 164 (.ss [.str v8_0, .bool v8_1])] ++ us 107) fun e => atK Tryz.prog (lookG (gam110 N151 N164 N165 N166 N167 N168 N169)) 5 lvs110 C k bod110 [1, j0, 1, 1, 1, 1, 1, 1, 1, 1, 1, 1] e (fin Tryz.prog Tryz.f110 none (tok110 Kt))
def g2_110 (k j0 : Nat) (v2_0 v2_1 v2_2 v2_3 v2_4 v2_5 : Int) (v2_6 : BY) (v2_7 v5_0 v5_1 v5_2 v5_3 v5_4 v5_5 : Int) (v5_6 : BY) (v5_7 : Int) (v6 : Bool) (v8_0 : BY) (v8_1 : Bool) (Kt : Tk110) : Option Out := C 3000000 ([.u, .u, .box 123 (.ss [.int .i64 v2_0, .int .i64 v2_1, .int .i64 v2_2, .int .i64 v2_3, .int .i64 v2_4, .int .i64 v2_5, .str v2_6, .int .i64 v2_7]), .u, .u, .box 123 (.ss [.int .i64 v5_0, .int .i64 v5_1, .int .i64 v5_2, .int .i64 v5_3, .int .i64 v5_4, .int .i64 v5_5, .str v5_6, .int .i64 v5_7]), .c (.s (.bool v6)), .u, .box 164 (.ss [.str v8_0, .bool v8_1])] ++ us 107) fun e => jumpK Tryz.prog (lookG (gam110 N151 N164 N165 N166 N167 N168 N169)) 5 lvs110 C k j0 0 bod110 [1] e (fin Tryz.prog Tryz.f110 none (tok110 Kt))
def g3_110 (k j0 : Nat) (v2_0 v2_1 v2_2 v2_3 v2_4 v2_5 : Int) (v2_6 : BY) (v2_7 v5_0 v5_1 v5_2 v5_3 v5_4 v5_5 : Int) (v5_6 : BY) (v5_7 : Int) (v6 : Bool) (v8_0 : BY) (v8_1 : Bool) (Kt : Tk110) : Option Out := C 3000001 ([.u, .u, .box 123 (.ss [.int .i64 v2_0, .int .i64 v2_1, .int .i64 v2_2, .int .i64 v2_3, .int .i64 v2_4, .int .i64 v2_5, .str v2_6, .int .i64 v2_7]), .u, .u, .box 123 (.ss [.int .i64 v5_0, .int .i64 v5_1, .int .i64 v5_2, .int .i64 v5_3, .int .i64 v5_4, .int .i64 v5_5, .str v5_6, .int .i64 v5_7]), .c (.s (.bool v6)), .u, .box 164 (.ss [.str v8_0, .bool v8_1])] ++ us 107) fun e => jumpK Tryz.prog (lookG (gam110 N151 N164 N165 N166 N167 N168 N169)) 5 lvs110 C k j0 1 bod110 [1] e (fin Tryz.prog Tryz.f110 none (tok110 Kt))
def p4_110 (k j0 : Nat) (v2_0 v2_1 v2_2 v2_3 v2_4 v2_5 : Int) (v2_6 : BY) (v2_7 v5_0 v5_1 v5_2 v5_3 v5_4 v5_5 : Int) (v5_6 : BY) (v5_7 : Int) (v6 : Bool) (v8_0 : BY) (v8_1 : Bool) (Kt : Tk110) : Option Out := C 1474 ([.u, .u, .box 123 (.ss [.int .i64 v2_0, .int .i64 v2_1, .int .i64 v2_2, .int .i64 v2_3, .int .i64 v2_4, .int .i64 v2_5, .str v2_6, .int .i64 v2_7]), .u, .u, .box 123 (.ss [.int .i64 v5_0, .int .i64 v5_1, .int .i64 v5_2, .int .i64 v5_3, .int .i64 v5_4, .int .i64 v5_5, .str v5_6, .int .i64 v5_7]), .c (.s (.bool v6)), .u, .box 164 (.ss [.str v8_0, .bool v8_1])] ++ us 107) fun e => atK Tryz.prog (lookG (gam110 N151 N164 N165 N166 N167 N168 N169)) 5 lvs110 C k bod110 [1, j0, 1, 1, 1, 1, 1, 1, 1, 1, 1, 1, 1, 1, 1, 1, 1, 1, 1, 1, 1, 1] e (fin Tryz.prog Tryz.f110 none (tok110 Kt))
def p5_110 (k j0 : Nat) (v2_0 v2_1 v2_2 v2_3 v2_4 v2_5 : Int) (v2_6 : BY) (v2_7 v5_0 v5_1 v5_2 v5_3 v5_4 v5_5 : Int) (v5_6 : BY) (v5_7 : Int) (v6 : Bool) (v8_0 : BY) (v8_1 : Bool) (Kt : Tk110) : Option Out := C 1922 ([.u, .u, .box 123 (.ss [.int .i64 v2_0, .int .i64 v2_1, .int .i64 v2_2, .int .i64 v2_3, .int .i64 v2_4, .int .i64 v2_5, .str v2_6, .int .i64 v2_7]), .u, .u, .box 123 (.ss [.int .i64 v5_0, .int .i64 v5_1, .int .i64 v5_2, .int .i64 v5_3, .int .i64 v5_4, .int .i64 v5_5, .str v5_6, .int .i64 v5_7]), .c (.s (.bool v6)), .u, .box 164 (.ss [.str v8_0, .bool v8_1])] ++ us 107) fun e => atK Tryz.prog (lookG (gam110 N151 N164 N165 N166 N167 N168 N169)) 5 lvs110 C k bod110 [1, j0, 1, 1, 1, 1, 1, 1, 1, 1, 1, 1, 1, 1, 1, 1, 1, 1, 1, 1, 1, 1, 1, 1, 1, 1, 1, 1] e (fin Tryz.prog Tryz.f110 none (tok110 Kt))
theorem run110_eq (k : Nat) (a0 : BY) (Kt : Tk110) : run110 C N151 N164 N165 N166 N167 N168 N169 k a0 Kt =
 (N164 a0 false 4 4 fun r1 r2 r3 => (N165 r2 r3 ([45] : BY) fun r4 r5 r6 => (N164 r5 r6 1 2 fun r7 r8 r9 => (N165 r8 r9 ([45] : BY) fun r10 r11 r12 => (N164 r11 r12 1 2 fun r13 r14 r15 => (bif (r14 == ([] : BY)) then (p1_110 C N151 N164 N165 N166 N167 N168 N169 k k 0 0 0 0 0 0 ([] : BY) 0 r1 r7 r13 0 0 0 ([] : BY) 0 ((r5.length : Int) == 5) r14 r15 Kt) else (p1_110 C N151 N164 N165 N166 N167 N168 N169 k k 0 0 0 0 0 0 ([] : BY) 0 r1 r7 r13 0 0 0 ([] : BY) 0 false r14 r15 Kt))))))) := by kernel_rfl
theorem p1_110_eq (hC : Cv C) (k j0 : Nat) (v2_0 v2_1 v2_2 v2_3 v2_4 v2_5 : Int) (v2_6 : BY) (v2_7 v5_0 v5_1 v5_2 v5_3 v5_4 v5_5 : Int) (v5_6 : BY) (v5_7 : Int) (v6 : Bool) (v8_0 : BY) (v8_1 : Bool) (Kt : Tk110) : p1_110 C N151 N164 N165 N166 N167 N168 N169 k j0 v2_0 v2_1 v2_2 v2_3 v2_4 v2_5 v2_6 v2_7 v5_0 v5_1 v5_2 v5_3 v5_4 v5_5 v5_6 v5_7 v6 v8_0 v8_1 Kt =
 (bif v8_1 then (g2_110 C N151 N164 N165 N166 N167 N168 N169 k j0 v2_0 v2_1 v2_2 v2_3 v2_4 v2_5 v2_6 v2_7 v5_0 v5_1 v5_2 v5_3 v5_4 v5_5 v5_6 v5_7 v6 v8_0 v8_1 Kt) else (bif v6 then (g2_110 C N151 N164 N165 N166 N167 N168 N169 k j0 v2_0 v2_1 v2_2 v2_3 v2_4 v2_5 v2_6 v2_7 v5_0 v5_1 v5_2 v5_3 v5_4 v5_5 v5_6 v5_7 v6 v8_0 v8_1 Kt) else (N166 v8_0 v8_1 ([84, 116] : BY) fun r16 r17 r18 => (bif (r16 != 0) then (g3_110 C N151 N164 N165 N166 N167 N168 N169 k j0 v2_0 v2_1 v2_2 v2_3 v2_4 v2_5 v2_6 v2_7 v5_0 v5_1 v5_2 v5_3 v5_4 v5_5 v5_6 v5_7 v6 r17 r18 Kt) else (N167 r17 r18 ([32, 9] : BY) fun r19 r20 r21 => (bif (r19 == ([] : BY)) then (g2_110 C N151 N164 N165 N166 N167 N168 N169 k j0 v2_0 v2_1 v2_2 v2_3 v2_4 v2_5 v2_6 v2_7 v5_0 v5_1 v5_2 v5_3 v5_4 v5_5 v5_6 v5_7 v6 r20 true Kt) else (N164 r20 r21 1 2 fun r22 r23 r24 => (N165 r23 r24 ([58] : BY) fun r25 r26 r27 => (N164 r26 r27 2 2 fun r28 r29 r30 => (N165 r29 r30 ([58] : BY) fun r31 r32 r33 => (N164 r32 r33 2 2 fun r34 r35 r36 => (N166 r35 r36 ([46] : BY) fun r37 r38 r39 => (bif (r37 != 0) then (N167 r38 r39 ([48, 49, 50, 51, 52, 53, 54, 55, 56, 57] : BY) fun r40 r41 r42 => (N151 r40 ([48] : BY) fun r43 => (p4_110 C N151 N164 N165 N166 N167 N168 N169 k j0 v2_0 v2_1 v2_2 v2_3 v2_4 v2_5 v2_6 v2_7 v5_0 v5_1 v5_2 r22 r28 r34 r43 v5_7 v6 r41 r42 Kt))) else (p4_110 C N151 N164 N165 N166 N167 N168 N169 k j0 v2_0 v2_1 v2_2 v2_3 v2_4 v2_5 v2_6 v2_7 v5_0 v5_1 v5_2 r22 r28 r34 v5_6 v5_7 v6 r38 r39 Kt)))))))))))))) := (hC _ _ _).trans (by kernel_rfl)
theorem g2_110_eq (hC : Cv C) (k j0 : Nat) (v2_0 v2_1 v2_2 v2_3 v2_4 v2_5 : Int) (v2_6 : BY) (v2_7 v5_0 v5_1 v5_2 v5_3 v5_4 v5_5 : Int) (v5_6 : BY) (v5_7 : Int) (v6 : Bool) (v8_0 : BY) (v8_1 : Bool) (Kt : Tk110) : g2_110 C N151 N164 N165 N166 N167 N168 N169 k (j0 + 1) v2_0 v2_1 v2_2 v2_3 v2_4 v2_5 v2_6 v2_7 v5_0 v5_1 v5_2 v5_3 v5_4 v5_5 v5_6 v5_7 v6 v8_0 v8_1 Kt =
 (bif (!v8_1) then (bif (v8_0 == ([] : BY)) then (N169 v5_0 v5_1 v5_2 v5_3 v5_4 v5_5 v5_6 v5_7 fun r44 => (Kt v5_0 v5_1 v5_2 v5_3 v5_4 v5_5 v5_6 v5_7 v6 r44)) else (Kt v5_0 v5_1 v5_2 v5_3 v5_4 v5_5 v5_6 v5_7 v6 false)) else (Kt v5_0 v5_1 v5_2 v5_3 v5_4 v5_5 v5_6 v5_7 v6 false)) := (hC _ _ _).trans (by kernel_rfl)
theorem g3_110_eq (hC : Cv C) (k j0 : Nat) (v2_0 v2_1 v2_2 v2_3 v2_4 v2_5 : Int) (v2_6 : BY) (v2_7 v5_0 v5_1 v5_2 v5_3 v5_4 v5_5 : Int) (v5_6 : BY) (v5_7 : Int) (v6 : Bool) (v8_0 : BY) (v8_1 : Bool) (Kt : Tk110) : g3_110 C N151 N164 N165 N166 N167 N168 N169 k (j0 + 1) v2_0 v2_1 v2_2 v2_3 v2_4 v2_5 v2_6 v2_7 v5_0 v5_1 v5_2 v5_3 v5_4 v5_5 v5_6 v5_7 v6 v8_0 v8_1 Kt =
 (N164 v8_0 v8_1 1 2 fun r45 r46 r47 => (N165 r46 r47 ([58] : BY) fun r48 r49 r50 => (N164 r49 r50 2 2 fun r51 r52 r53 => (N165 r52 r53 ([58] : BY) fun r54 r55 r56 => (N164 r55 r56 2 2 fun r57 r58 r59 => (N166 r58 r59 ([46] : BY) fun r60 r61 r62 => (bif (r60 != 0) then (N167 r61 r62 ([48, 49, 50, 51, 52, 53, 54, 55, 56, 57] : BY) fun r63 r64 r65 => (N151 r63 ([48] : BY) fun r66 => (p4_110 C N151 N164 N165 N166 N167 N168 N169 k j0 v2_0 v2_1 v2_2 v2_3 v2_4 v2_5 v2_6 v2_7 v5_0 v5_1 v5_2 r45 r51 r57 r66 v5_7 v6 r64 r65 Kt))) else (p4_110 C N151 N164 N165 N166 N167 N168 N169 k j0 v2_0 v2_1 v2_2 v2_3 v2_4 v2_5 v2_6 v2_7 v5_0 v5_1 v5_2 r45 r51 r57 v5_6 v5_7 v6 r61 r62 Kt)))))))) := (hC _ _ _).trans (by kernel_rfl)
theorem p4_110_eq (hC : Cv C) (k j0 : Nat) (v2_0 v2_1 v2_2 v2_3 v2_4 v2_5 : Int) (v2_6 : BY) (v2_7 v5_0 v5_1 v5_2 v5_3 v5_4 v5_5 : Int) (v5_6 : BY) (v5_7 : Int) (v6 : Bool) (v8_0 : BY) (v8_1 : Bool) (Kt : Tk110) : p4_110 C N151 N164 N165 N166 N167 N168 N169 k j0 v2_0 v2_1 v2_2 v2_3 v2_4 v2_5 v2_6 v2_7 v5_0 v5_1 v5_2 v5_3 v5_4 v5_5 v5_6 v5_7 v6 v8_0 v8_1 Kt =
 (bif (v8_0 == ([] : BY)) then (g2_110 C N151 N164 N165 N166 N167 N168 N169 k j0 v2_0 v2_1 v2_2 v2_3 v2_4 v2_5 v2_6 v2_7 v5_0 v5_1 v5_2 v5_3 v5_4 v5_5 v5_6 v5_7 v6 v8_0 v8_1 Kt) else (N167 v8_0 v8_1 ([32, 9] : BY) fun r67 r68 r69 => (N166 r68 r69 ([90] : BY) fun r70 r71 r72 => (bif (r70 != 0) then (g2_110 C N151 N164 N165 N166 N167 N168 N169 k j0 v2_0 v2_1 v2_2 v2_3 v2_4 v2_5 v2_6 v2_7 v5_0 v5_1 v5_2 v5_3 v5_4 v5_5 v5_6 v5_7 v6 r71 r72 Kt) else (N165 r71 r72 ([43, 45] : BY) fun r73 r74 r75 => (N168 r74 r75 fun r76 r77 r78 => (bif (r73 == 45) then (p5_110 C N151 N164 N165 N166 N167 N168 N169 k j0 v2_0 v2_1 v2_2 v2_3 v2_4 v2_5 v2_6 v2_7 v5_0 v5_1 v5_2 v5_3 v5_4 v5_5 v5_6 (i64.wrap (0 - r76)) v6 r77 r78 Kt) else (p5_110 C N151 N164 N165 N166 N167 N168 N169 k j0 v2_0 v2_1 v2_2 v2_3 v2_4 v2_5 v2_6 v2_7 v5_0 v5_1 v5_2 v5_3 v5_4 v5_5 v5_6 r76 v6 r77 r78 Kt)))))))) := (hC _ _ _).trans (by kernel_rfl)
theorem p5_110_eq (hC : Cv C) (k j0 : Nat) (v2_0 v2_1 v2_2 v2_3 v2_4 v2_5 : Int) (v2_6 : BY) (v2_7 v5_0 v5_1 v5_2 v5_3 v5_4 v5_5 : Int) (v5_6 : BY) (v5_7 : Int) (v6 : Bool) (v8_0 : BY) (v8_1 : Bool) (Kt : Tk110) : p5_110 C N151 N164 N165 N166 N167 N168 N169 k j0 v2_0 v2_1 v2_2 v2_3 v2_4 v2_5 v2_6 v2_7 v5_0 v5_1 v5_2 v5_3 v5_4 v5_5 v5_6 v5_7 v6 v8_0 v8_1 Kt =
 (bif (!v8_1) then (bif (v8_0 == ([] : BY)) then (N169 v5_0 v5_1 v5_2 v5_3 v5_4 v5_5 v5_6 v5_7 fun r79 => (Kt v5_0 v5_1 v5_2 v5_3 v5_4 v5_5 v5_6 v5_7 v6 r79)) else (Kt v5_0 v5_1 v5_2 v5_3 v5_4 v5_5 v5_6 v5_7 v6 false)) else (Kt v5_0 v5_1 v5_2 v5_3 v5_4 v5_5 v5_6 v5_7 v6 false)) := (hC _ _ _).trans (by kernel_rfl)
end
theorem as110 {G : World → Prop} {ng : Nat} (S : Stays Tryz.prog G ng) {N151 : Ty151} {N164 : Ty164} {N165 : Ty165} {N166 : Ty166} {N167 : Ty167} {N168 : Ty168} {N169 : Ty169} (h151 : FnIs Tryz.prog G ng 151 (adp151 N151)) (h164 : FnIs Tryz.prog G ng 164 (adp164 N164)) (h165 : FnIs Tryz.prog G ng 165 (adp165 N165)) (h166 : FnIs Tryz.prog G ng 166 (adp166 N166)) (h167 : FnIs Tryz.prog G ng 167 (adp167 N167)) (h168 : FnIs Tryz.prog G ng 168 (adp168 N168)) (h169 : FnIs Tryz.prog G ng 169 (adp169 N169)) {A : Ty110} (hA : ∀ (a0 : BY) (Kt : Tk110) (r : Out), A a0 Kt = some r → run110 cut0 N151 N164 N165 N166 N167 N168 N169 big a0 Kt = some r) : FnIs Tryz.prog G ng 110 (adp110 A) := by
 refine spec_run cut0_eq S (l := gam110 N151 N164 N165 N166 N167 N168 N169) (by intro p hp; simp only [gam110, List.mem_cons, List.not_mem_nil, or_false] at hp; rcases hp with rfl | rfl | rfl | rfl | rfl | rfl | rfl <;> assumption) Tryz.func110 (by kernel_rfl) (nn := 5) (Lv := lvs110) (k := big) fun rc cs K r h => ?_
 unfold adp110 at h
 split at h
 ·exact ⟨_, hA _ _ _ h, fun p hp => by unfold tok110 at hp; split at hp; exact hp; cases hp⟩
 ·cases h
def lvs111 : Nat → Option (List (Nat × Co))
 | 577 => some [(1, .k), (2, .k), (4, .k)]
 | 834 => some [(1, .k), (2, .k)]
 | 1026 => some [(1, .k), (2, .k)]
 | 1344 => some [(1, .k), (2, .k)]
 | 1409 => some [(1, .k), (2, .k)]
 | _ => none
section
variable (C : Nat → Env → (Env → Option Out) → Option Out) (N170 : Ty170)
def gam111 : List (Nat × Fn1) := [(170, adp170 N170)]
def bod111 : Code := Tryz.f111.body.getD .skip
def run111 (k : Nat) (a0_year a0_month a0_day a0_hour a0_minute a0_second : Int) (a0_frac : BY) (a0_zone : Int) (Kt : Tk111) : Option Out := runK Tryz.prog (lookG (gam111 N170)) 4 lvs111 C k Tryz.f111 none [.agg (.ss [.int .i64 a0_year, .int .i64 a0_month, .int .i64 a0_day, .int .i64 a0_hour, .int .i64 a0_minute, .int .i64 a0_second, .str a0_frac, .int .i64 a0_zone])] (tok111 Kt)
def p1_111 (k : Nat) (v1_0 v1_1 v1_2 v1_3 v1_4 v1_5 : Int) (v1_6 : BY) (v1_7 v2_0 v2_1 v2_2 v2_3 v2_4 v2_5 : Int) (v2_6 : BY) (v2_7 v4 : Int) (Kt : Tk111) : Option Out := C 577 ([.u, .box 123 (.ss [.int .i64 v1_0, .int .i64 v1_1, .int .i64 v1_2, .int .i64 v1_3, .int .i64 v1_4, .int .i64 v1_5, .str v1_6, .int .i64 v1_7]), .box 123 (.ss [.int .i64 v2_0, .int .i64 v2_1, .int .i64 v2_2, .int .i64 v2_3, .int .i64 v2_4, .int .i64 v2_5, .str v2_6, .int .i64 v2_7]), .u, .c (.s (.int .i64 v4))] ++ us 84) fun e => atK Tryz.prog (lookG (gam111 N170)) 4 lvs111 C k bod111 [1, 1, 1] e (fin Tryz.prog Tryz.f111 none (tok111 Kt))
def p2_111 (k : Nat) (v1_0 v1_1 v1_2 v1_3 v1_4 v1_5 : Int) (v1_6 : BY) (v1_7 v2_0 v2_1 v2_2 v2_3 v2_4 v2_5 : Int) (v2_6 : BY) (v2_7 : Int) (Kt : Tk111) : Option Out := C 834 ([.u, .box 123 (.ss [.int .i64 v1_0, .int .i64 v1_1, .int .i64 v1_2, .int .i64 v1_3, .int .i64 v1_4, .int .i64 v1_5, .str v1_6, .int .i64 v1_7]), .box 123 (.ss [.int .i64 v2_0, .int .i64 v2_1, .int .i64 v2_2, .int .i64 v2_3, .int .i64 v2_4, .int .i64 v2_5, .str v2_6, .int .i64 v2_7])] ++ us 86) fun e => atK Tryz.prog (lookG (gam111 N170)) 4 lvs111 C k bod111 [1, 1, 1, 1, 1] e (fin Tryz.prog Tryz.f111 none (tok111 Kt))
def p3_111 (k : Nat) (v1_0 v1_1 v1_2 v1_3 v1_4 v1_5 : Int) (v1_6 : BY) (v1_7 v2_0 v2_1 v2_2 v2_3 v2_4 v2_5 : Int) (v2_6 : BY) (v2_7 : Int) (Kt : Tk111) : Option Out := C 1026 ([.u, .box 123 (.ss [.int .i64 v1_0, .int .i64 v1_1, .int .i64 v1_2, .int .i64 v1_3, .int .i64 v1_4, .int .i64 v1_5, .str v1_6, .int .i64 v1_7]), .box 123 (.ss [.int .i64 v2_0, .int .i64 v2_1, .int .i64 v2_2, .int .i64 v2_3, .int .i64 v2_4, .int .i64 v2_5, .str v2_6, .int .i64 v2_7])] ++ us 86) fun e => atK Tryz.prog (lookG (gam111 N170)) 4 lvs111 C k bod111 [1, 1, 1, 1, 1, 1] e (fin Tryz.prog Tryz.f111 none (tok111 Kt))
def p4_111 (k : Nat) (v1_0 v1_1 v1_2 v1_3 v1_4 v1_5 : Int) (v1_6 : BY) (v1_7 v2_0 v2_1 v2_2 v2_3 v2_4 v2_5 : Int) (v2_6 : BY) (v2_7 : Int) (Kt : Tk111) : Option Out := C 1344 ([.u, .box 123 (.ss [.int .i64 v1_0, .int .i64 v1_1, .int .i64 v1_2, .int .i64 v1_3, .int .i64 v1_4, .int .i64 v1_5, .str v1_6, .int .i64 v1_7]), .box 123 (.ss [.int .i64 v2_0, .int .i64 v2_1, .int .i64 v2_2, .int .i64 v2_3, .int .i64 v2_4, .int .i64 v2_5, .str v2_6, .int .i64 v2_7])] ++ us 86) fun e => atK Tryz.prog (lookG (gam111 N170)) 4 lvs111 C k bod111 [1, 1, 1, 1, 1, 1, 0, 1, 0, 1, 1] e (fin Tryz.prog Tryz.f111 none (tok111 Kt))
def p5_111 (k : Nat) (v1_0 v1_1 v1_2 v1_3 v1_4 v1_5 : Int) (v1_6 : BY) (v1_7 v2_0 v2_1 v2_2 v2_3 v2_4 v2_5 : Int) (v2_6 : BY) (v2_7 : Int) (Kt : Tk111) : Option Out := C 1409 ([.u, .box 123 (.ss [.int .i64 v1_0, .int .i64 v1_1, .int .i64 v1_2, .int .i64 v1_3, .int .i64 v1_4, .int .i64 v1_5, .str v1_6, .int .i64 v1_7]), .box 123 (.ss [.int .i64 v2_0, .int .i64 v2_1, .int .i64 v2_2, .int .i64 v2_3, .int .i64 v2_4, .int .i64 v2_5, .str v2_6, .int .i64 v2_7])] ++ us 86) fun e => atK Tryz.prog (lookG (gam111 N170)) 4 lvs111 C k bod111 [1, 1, 1, 1, 1, 1, 1] e (fin Tryz.prog Tryz.f111 none (tok111 Kt))
theorem run111_eq (k : Nat) (a0_year a0_month a0_day a0_hour a0_minute a0_second : Int) (a0_frac : BY) (a0_zone : Int) (Kt : Tk111) : run111 C N170 k a0_year a0_month a0_day a0_hour a0_minute a0_second a0_frac a0_zone Kt =
 (bif (decide ((i64.wrap ((i64.wrap ((i64.wrap ((60 : Int) * a0_hour)) + a0_minute)) - a0_zone)) < 0)) then (p1_111 C N170 k a0_year a0_month (i64.wrap (a0_day - 1)) a0_hour a0_minute a0_second a0_frac a0_zone 0 0 0 0 0 0 ([] : BY) 0 (i64.wrap ((i64.wrap ((i64.wrap ((i64.wrap ((60 : Int) * a0_hour)) + a0_minute)) - a0_zone)) + 1440)) Kt) else (bif (decide ((i64.wrap ((i64.wrap ((i64.wrap ((60 : Int) * a0_hour)) + a0_minute)) - a0_zone)) ≥ 1440)) then (p1_111 C N170 k a0_year a0_month (i64.wrap (a0_day + 1)) a0_hour a0_minute a0_second a0_frac a0_zone 0 0 0 0 0 0 ([] : BY) 0 (i64.wrap ((i64.wrap ((i64.wrap ((i64.wrap ((60 : Int) * a0_hour)) + a0_minute)) - a0_zone)) - 1440)) Kt) else (p1_111 C N170 k a0_year a0_month a0_day a0_hour a0_minute a0_second a0_frac a0_zone 0 0 0 0 0 0 ([] : BY) 0 (i64.wrap ((i64.wrap ((i64.wrap ((60 : Int) * a0_hour)) + a0_minute)) - a0_zone)) Kt))) := by kernel_rfl
theorem p1_111_eq (hC : Cv C) (k : Nat) (v1_0 v1_1 v1_2 v1_3 v1_4 v1_5 : Int) (v1_6 : BY) (v1_7 v2_0 v2_1 v2_2 v2_3 v2_4 v2_5 : Int) (v2_6 : BY) (v2_7 v4 : Int) (Kt : Tk111) : p1_111 C N170 k v1_0 v1_1 v1_2 v1_3 v1_4 v1_5 v1_6 v1_7 v2_0 v2_1 v2_2 v2_3 v2_4 v2_5 v2_6 v2_7 v4 Kt =
 (N170 v1_0 v1_1 fun r1 => (bif (decide (v1_2 > r1)) then (p2_111 C N170 k v1_0 (i64.wrap (v1_1 + 1)) 1 (i64.wrap (v4.tdiv 60)) (v4.tmod 60) v1_5 v1_6 v1_7 v2_0 v2_1 v2_2 v2_3 v2_4 v2_5 v2_6 v2_7 Kt) else (p2_111 C N170 k v1_0 v1_1 v1_2 (i64.wrap (v4.tdiv 60)) (v4.tmod 60) v1_5 v1_6 v1_7 v2_0 v2_1 v2_2 v2_3 v2_4 v2_5 v2_6 v2_7 Kt))) := (hC _ _ _).trans (by kernel_rfl)
theorem p2_111_eq (hC : Cv C) (k : Nat) (v1_0 v1_1 v1_2 v1_3 v1_4 v1_5 : Int) (v1_6 : BY) (v1_7 v2_0 v2_1 v2_2 v2_3 v2_4 v2_5 : Int) (v2_6 : BY) (v2_7 : Int) (Kt : Tk111) : p2_111 C N170 k v1_0 v1_1 v1_2 v1_3 v1_4 v1_5 v1_6 v1_7 v2_0 v2_1 v2_2 v2_3 v2_4 v2_5 v2_6 v2_7 Kt =
 (bif (decide (v1_1 > 12)) then (p3_111 C N170 k (i64.wrap (v1_0 + 1)) 1 v1_2 v1_3 v1_4 v1_5 v1_6 v1_7 v2_0 v2_1 v2_2 v2_3 v2_4 v2_5 v2_6 v2_7 Kt) else (p3_111 C N170 k v1_0 v1_1 v1_2 v1_3 v1_4 v1_5 v1_6 v1_7 v2_0 v2_1 v2_2 v2_3 v2_4 v2_5 v2_6 v2_7 Kt)) := (hC _ _ _).trans (by kernel_rfl)
theorem p3_111_eq (hC : Cv C) (k : Nat) (v1_0 v1_1 v1_2 v1_3 v1_4 v1_5 : Int) (v1_6 : BY) (v1_7 v2_0 v2_1 v2_2 v2_3 v2_4 v2_5 : Int) (v2_6 : BY) (v2_7 : Int) (Kt : Tk111) : p3_111 C N170 k v1_0 v1_1 v1_2 v1_3 v1_4 v1_5 v1_6 v1_7 v2_0 v2_1 v2_2 v2_3 v2_4 v2_5 v2_6 v2_7 Kt =
 (bif (decide (v1_2 < 1)) then (bif (decide ((i64.wrap (v1_1 - 1)) < 1)) then (p4_111 C N170 k (i64.wrap (v1_0 - 1)) 12 v1_2 v1_3 v1_4 v1_5 v1_6 v1_7 v2_0 v2_1 v2_2 v2_3 v2_4 v2_5 v2_6 v2_7 Kt) else (p4_111 C N170 k v1_0 (i64.wrap (v1_1 - 1)) v1_2 v1_3 v1_4 v1_5 v1_6 v1_7 v2_0 v2_1 v2_2 v2_3 v2_4 v2_5 v2_6 v2_7 Kt)) else (p5_111 C N170 k v1_0 v1_1 v1_2 v1_3 v1_4 v1_5 v1_6 v1_7 v2_0 v2_1 v2_2 v2_3 v2_4 v2_5 v2_6 v2_7 Kt)) := (hC _ _ _).trans (by kernel_rfl)
theorem p4_111_eq (hC : Cv C) (k : Nat) (v1_0 v1_1 v1_2 v1_3 v1_4 v1_5 : Int) (v1_6 : BY) (v1_7 v2_0 v2_1 v2_2 v2_3 v2_4 v2_5 : Int) (v2_6 : BY) (v2_7 : Int) (Kt : Tk111) : p4_111 C N170 k v1_0 v1_1 v1_2 v1_3 v1_4 v1_5 v1_6 v1_7 v2_0 v2_1 v2_2 v2_3 v2_4 v2_5 v2_6 v2_7 Kt =
 (N170 v1_0 v1_1 fun r2 => (p5_111 C N170 k v1_0 v1_1 r2 v1_3 v1_4 v1_5 v1_6 v1_7 v2_0 v2_1 v2_2 v2_3 v2_4 v2_5 v2_6 v2_7 Kt)) := (hC _ _ _).trans (by kernel_rfl)
theorem p5_111_eq (hC : Cv C) (k : Nat) (v1_0 v1_1 v1_2 v1_3 v1_4 v1_5 : Int) (v1_6 : BY) (v1_7 v2_0 v2_1 v2_2 v2_3 v2_4 v2_5 : Int) (v2_6 : BY) (v2_7 : Int) (Kt : Tk111) : p5_111 C N170 k v1_0 v1_1 v1_2 v1_3 v1_4 v1_5 v1_6 v1_7 v2_0 v2_1 v2_2 v2_3 v2_4 v2_5 v2_6 v2_7 Kt =
 (bif (decide (v1_0 ≥ 0)) then (Kt v1_0 v1_1 v1_2 v1_3 v1_4 v1_5 v1_6 v1_7 (decide (v1_0 ≤ 9999))) else (Kt v1_0 v1_1 v1_2 v1_3 v1_4 v1_5 v1_6 v1_7 false)) := (hC _ _ _).trans (by kernel_rfl)
end
theorem as111 {G : World → Prop} {ng : Nat} (S : Stays Tryz.prog G ng) {N170 : Ty170} (h170 : FnIs Tryz.prog G ng 170 (adp170 N170)) {A : Ty111} (hA : ∀ (a0_year : Int) (a0_month : Int) (a0_day : Int) (a0_hour : Int) (a0_minute : Int) (a0_second : Int) (a0_frac : BY) (a0_zone : Int) (Kt : Tk111) (r : Out), A a0_year a0_month a0_day a0_hour a0_minute a0_second a0_frac a0_zone Kt = some r → run111 cut0 N170 big a0_year a0_month a0_day a0_hour a0_minute a0_second a0_frac a0_zone Kt = some r) : FnIs Tryz.prog G ng 111 (adp111 A) := by
 refine spec_run cut0_eq S (l := gam111 N170) (by intro p hp; simp only [gam111, List.mem_cons, List.not_mem_nil, or_false] at hp; rcases hp with rfl <;> assumption) Tryz.func111 (by kernel_rfl) (nn := 4) (Lv := lvs111) (k := big) fun rc cs K r h => ?_
 unfold adp111 at h
 split at h
 ·exact ⟨_, hA _ _ _ _ _ _ _ _ _ _ h, fun p hp => by unfold tok111 at hp; split at hp; exact hp; cases hp⟩
 ·cases h
def lvs112 : Nat → Option (List (Nat × Co))
 | _ => none
section
variable (C : Nat → Env → (Env → Option Out) → Option Out) (N171 : Ty171) (N172 : Ty172)
def gam112 : List (Nat × Fn1) := [(171, adp171 N171), (172, adp172 N172)]
def run112 (k : Nat) (a0 a1 : Int) (Kt : Tk112) : Option Out := runK Tryz.prog (lookG (gam112 N171 N172)) 6 lvs112 C k Tryz.f112 none [.s (.int .i64 a0), .s (.int .i64 a1)] (tok112 Kt)
theorem run112_eq (k : Nat) (a0 a1 : Int) (Kt : Tk112) : run112 C N171 N172 k a0 a1 Kt =
 (N171 a0 fun r1 => (N172 ([48] : BY) (i64.wrap (a1 - (r1.length : Int))) fun r2 => ((cat r2 r1).bind fun s3 => (Kt s3)))) := by kernel_rfl
end
theorem as112 {G : World → Prop} {ng : Nat} (S : Stays Tryz.prog G ng) {N171 : Ty171} {N172 : Ty172} (h171 : FnIs Tryz.prog G ng 171 (adp171 N171)) (h172 : FnIs Tryz.prog G ng 172 (adp172 N172)) {A : Ty112} (hA : ∀ (a0 : Int) (a1 : Int) (Kt : Tk112) (r : Out), A a0 a1 Kt = some r → run112 cut0 N171 N172 big a0 a1 Kt = some r) : FnIs Tryz.prog G ng 112 (adp112 A) := by
 refine spec_run cut0_eq S (l := gam112 N171 N172) (by intro p hp; simp only [gam112, List.mem_cons, List.not_mem_nil, or_false] at hp; rcases hp with rfl | rfl <;> assumption) Tryz.func112 (by kernel_rfl) (nn := 6) (Lv := lvs112) (k := big) fun rc cs K r h => ?_
 unfold adp112 at h
 split at h
 ·exact ⟨_, hA _ _ _ _ h, fun p hp => by unfold tok112 at hp; split at hp; exact hp; cases hp⟩
 ·cases h
def lvs164 : Nat → Option (List (Nat × Co))
 | 513 => some [(0, .k), (1, .k), (7, .k), (8, .k)]
 | 577 => some [(0, .k), (7, .k)]
 | 1000195 => some [(0, .k), (1, .k), (2, .k), (7, .k), (8, .k)]
 | _ => none
section
variable (C : Nat → Env → (Env → Option Out) → Option Out) (N166 : Ty166)
def gam164 : List (Nat × Fn1) := [(166, adp166 N166)]
def bod164 : Code := Tryz.f164.body.getD .skip
def run164 (k : Nat) (q_s : BY) (q_bad : Bool) (a1 a2 : Int) (Kt : Tk164) : Option Out := runK Tryz.prog (lookG (gam164 N166)) 10 lvs164 C k Tryz.f164 (some (164, (.ss [.str q_s, .bool q_bad]))) [.s (.int .i64 a1), .s (.int .i64 a2)] (tok164 Kt)
def l1_164 (k j0 : Nat) (v0_0 : BY) (v0_1 : Bool) (v1 v2 v7 v8 : Int) (Kt : Tk164) : Option Out := C 1000195 ([.box 164 (.ss [.str v0_0, .bool v0_1]), .c (.s (.int .i64 v1)), .c (.s (.int .i64 v2)), .u, .u, .u, .u, .c (.s (.int .i64 v7)), .c (.s (.int .i64 v8))] ++ us 29) fun e => headK Tryz.prog (lookG (gam164 N166)) 10 lvs164 C k j0 bod164 [1, 1, 0, 0] e (fin Tryz.prog Tryz.f164 (some 164) (tok164 Kt))
def p2_164 (k : Nat) (v0_0 : BY) (v0_1 : Bool) (v1 v7 v8 : Int) (Kt : Tk164) : Option Out := C 513 ([.box 164 (.ss [.str v0_0, .bool v0_1]), .c (.s (.int .i64 v1)), .u, .u, .u, .u, .u, .c (.s (.int .i64 v7)), .c (.s (.int .i64 v8))] ++ us 29) fun e => atK Tryz.prog (lookG (gam164 N166)) 10 lvs164 C k bod164 [1, 1, 1] e (fin Tryz.prog Tryz.f164 (some 164) (tok164 Kt))
def p3_164 (k : Nat) (v0_0 : BY) (v0_1 : Bool) (v7 : Int) (Kt : Tk164) : Option Out := C 577 ([.box 164 (.ss [.str v0_0, .bool v0_1])] ++ us 6 ++ [.c (.s (.int .i64 v7))] ++ us 30) fun e => atK Tryz.prog (lookG (gam164 N166)) 10 lvs164 C k bod164 [1, 1, 1, 1] e (fin Tryz.prog Tryz.f164 (some 164) (tok164 Kt))
theorem run164_eq (k : Nat) (q_s : BY) (q_bad : Bool) (a1 a2 : Int) (Kt : Tk164) : run164 C N166 k q_s q_bad a1 a2 Kt =
 (l1_164 C N166 k k q_s q_bad a1 a2 0 0 Kt) := by kernel_rfl
theorem l1_164_eq (hC : Cv C) (k j0 : Nat) (v0_0 : BY) (v0_1 : Bool) (v1 v2 v7 v8 : Int) (Kt : Tk164) : l1_164 C N166 k (j0 + 1) v0_0 v0_1 v1 v2 v7 v8 Kt =
 (bif (decide (v8 < v2)) then (N166 v0_0 v0_1 ([48, 49, 50, 51, 52, 53, 54, 55, 56, 57] : BY) fun r1 r2 r3 => (bif (r1 == 0) then (p2_164 C N166 k r2 r3 v1 v7 v8 Kt) else (l1_164 C N166 k j0 r2 r3 v1 v2 (i64.wrap ((i64.wrap ((10 : Int) * v7)) + (i64.wrap (u8.wrap (r1 - 48))))) (i64.wrap (v8 + 1)) Kt))) else (p2_164 C N166 k v0_0 v0_1 v1 v7 v8 Kt)) := (hC _ _ _).trans (by kernel_rfl)
theorem p2_164_eq (hC : Cv C) (k : Nat) (v0_0 : BY) (v0_1 : Bool) (v1 v7 v8 : Int) (Kt : Tk164) : p2_164 C N166 k v0_0 v0_1 v1 v7 v8 Kt =
 (bif v0_1 then (p3_164 C N166 k v0_0 true v7 Kt) else (p3_164 C N166 k v0_0 (decide (v8 < v1)) v7 Kt)) := (hC _ _ _).trans (by kernel_rfl)
theorem p3_164_eq (hC : Cv C) (k : Nat) (v0_0 : BY) (v0_1 : Bool) (v7 : Int) (Kt : Tk164) : p3_164 C N166 k v0_0 v0_1 v7 Kt =
 (Kt v7 v0_0 v0_1) := (hC _ _ _).trans (by kernel_rfl)
end
theorem as164 {G : World → Prop} {ng : Nat} (S : Stays Tryz.prog G ng) {N166 : Ty166} (h166 : FnIs Tryz.prog G ng 166 (adp166 N166)) {A : Ty164} (hA : ∀ (q_s : BY) (q_bad : Bool) (a1 : Int) (a2 : Int) (Kt : Tk164) (r : Out), A q_s q_bad a1 a2 Kt = some r → run164 cut0 N166 big q_s q_bad a1 a2 Kt = some r) : FnIs Tryz.prog G ng 164 (adp164 A) := by
 refine spec_run cut0_eq S (l := gam164 N166) (by intro p hp; simp only [gam164, List.mem_cons, List.not_mem_nil, or_false] at hp; rcases hp with rfl <;> assumption) Tryz.func164 (by kernel_rfl) (nn := 10) (Lv := lvs164) (k := big) fun rc cs K r h => ?_
 unfold adp164 at h
 split at h
 ·exact ⟨_, hA _ _ _ _ _ _ h, fun p hp => by unfold tok164 at hp; split at hp; exact hp; cases hp⟩
 ·cases h
def lvs165 : Nat → Option (List (Nat × Co))
 | 257 => some [(0, .k), (5, .k)]
 | _ => none
section
variable (C : Nat → Env → (Env → Option Out) → Option Out) (N166 : Ty166)
def gam165 : List (Nat × Fn1) := [(166, adp166 N166)]
def bod165 : Code := Tryz.f165.body.getD .skip
def run165 (k : Nat) (q_s : BY) (q_bad : Bool) (a1 : BY) (Kt : Tk165) : Option Out := runK Tryz.prog (lookG (gam165 N166)) 6 lvs165 C k Tryz.f165 (some (164, (.ss [.str q_s, .bool q_bad]))) [.s (.str a1)] (tok165 Kt)
def p1_165 (k : Nat) (v0_0 : BY) (v0_1 : Bool) (v5 : Int) (Kt : Tk165) : Option Out := C 257 ([.box 164 (.ss [.str v0_0, .bool v0_1]), .u, .u, .u, .u, .c (.s (.int .u8 v5))] ++ us 15) fun e => atK Tryz.prog (lookG (gam165 N166)) 6 lvs165 C k bod165 [1, 1, 1] e (fin Tryz.prog Tryz.f165 (some 164) (tok165 Kt))
theorem run165_eq (k : Nat) (q_s : BY) (q_bad : Bool) (a1 : BY) (Kt : Tk165) : run165 C N166 k q_s q_bad a1 Kt =
 (N166 q_s q_bad a1 fun r1 r2 r3 => (bif r3 then (p1_165 C N166 k r2 true r1 Kt) else (p1_165 C N166 k r2 (r1 == 0) r1 Kt))) := by kernel_rfl
theorem p1_165_eq (hC : Cv C) (k : Nat) (v0_0 : BY) (v0_1 : Bool) (v5 : Int) (Kt : Tk165) : p1_165 C N166 k v0_0 v0_1 v5 Kt =
 (Kt v5 v0_0 v0_1) := (hC _ _ _).trans (by kernel_rfl)
end
theorem as165 {G : World → Prop} {ng : Nat} (S : Stays Tryz.prog G ng) {N166 : Ty166} (h166 : FnIs Tryz.prog G ng 166 (adp166 N166)) {A : Ty165} (hA : ∀ (q_s : BY) (q_bad : Bool) (a1 : BY) (Kt : Tk165) (r : Out), A q_s q_bad a1 Kt = some r → run165 cut0 N166 big q_s q_bad a1 Kt = some r) : FnIs Tryz.prog G ng 165 (adp165 A) := by
 refine spec_run cut0_eq S (l := gam165 N166) (by intro p hp; simp only [gam165, List.mem_cons, List.not_mem_nil, or_false] at hp; rcases hp with rfl <;> assumption) Tryz.func165 (by kernel_rfl) (nn := 6) (Lv := lvs165) (k := big) fun rc cs K r h => ?_
 unfold adp165 at h
 split at h
 ·exact ⟨_, hA _ _ _ _ _ h, fun p hp => by unfold tok165 at hp; split at hp; exact hp; cases hp⟩
 ·cases h
def lvs166 : Nat → Option (List (Nat × Co))
 | 194 => some [(0, .k), (20, .k)]
 | _ => none
section
variable (C : Nat → Env → (Env → Option Out) → Option Out) (N155 : Ty155)
def gam166 : List (Nat × Fn1) := [(155, adp155 N155)]
def bod166 : Code := Tryz.f166.body.getD .skip
def run166 (k : Nat) (q_s : BY) (q_bad : Bool) (a1 : BY) (Kt : Tk166) : Option Out := runK Tryz.prog (lookG (gam166 N155)) 6 lvs166 C k Tryz.f166 (some (164, (.ss [.str q_s, .bool q_bad]))) [.s (.str a1)] (tok166 Kt)
def p1_166 (k : Nat) (v0_0 : BY) (v0_1 v20 : Bool) (Kt : Tk166) : Option Out := C 194 ([.box 164 (.ss [.str v0_0, .bool v0_1])] ++ us 19 ++ [.c (.s (.bool v20))] ++ us 14) fun e => atK Tryz.prog (lookG (gam166 N155)) 6 lvs166 C k bod166 [1, 0, 1] e (fin Tryz.prog Tryz.f166 (some 164) (tok166 Kt))
theorem run166_eq (k : Nat) (q_s : BY) (q_bad : Bool) (a1 : BY) (Kt : Tk166) : run166 C N155 k q_s q_bad a1 Kt =
 (bif (q_s == ([] : BY)) then (p1_166 C N155 k q_s q_bad true Kt) else ((at? q_s 0).bind fun b1 => (N155 a1 (b1.toNat : Int) fun r2 => (p1_166 C N155 k q_s q_bad (decide (r2 < 0)) Kt)))) := by kernel_rfl
theorem p1_166_eq (hC : Cv C) (k : Nat) (v0_0 : BY) (v0_1 v20 : Bool) (Kt : Tk166) : p1_166 C N155 k v0_0 v0_1 v20 Kt =
 (bif v20 then (Kt 0 v0_0 v0_1) else ((at? v0_0 0).bind fun b3 => ((cut v0_0 (some (1 : Int)) none).bind fun s4 => (Kt (b3.toNat : Int) s4 v0_1)))) := (hC _ _ _).trans (by kernel_rfl)
end
theorem as166 {G : World → Prop} {ng : Nat} (S : Stays Tryz.prog G ng) {N155 : Ty155} (h155 : FnIs Tryz.prog G ng 155 (adp155 N155)) {A : Ty166} (hA : ∀ (q_s : BY) (q_bad : Bool) (a1 : BY) (Kt : Tk166) (r : Out), A q_s q_bad a1 Kt = some r → run166 cut0 N155 big q_s q_bad a1 Kt = some r) : FnIs Tryz.prog G ng 166 (adp166 A) := by
 refine spec_run cut0_eq S (l := gam166 N155) (by intro p hp; simp only [gam166, List.mem_cons, List.not_mem_nil, or_false] at hp; rcases hp with rfl <;> assumption) Tryz.func166 (by kernel_rfl) (nn := 6) (Lv := lvs166) (k := big) fun rc cs K r h => ?_
 unfold adp166 at h
 split at h
 ·exact ⟨_, hA _ _ _ _ _ h, fun p hp => by unfold tok166 at hp; split at hp; exact hp; cases hp⟩
 ·cases h
def lvs167 : Nat → Option (List (Nat × Co))
 | _ => none
section
variable (C : Nat → Env → (Env → Option Out) → Option Out) (N213 : Ty213)
def gam167 : List (Nat × Fn1) := [(213, adp213 N213)]
def run167 (k : Nat) (q_s : BY) (q_bad : Bool) (a1 : BY) (Kt : Tk167) : Option Out := runK Tryz.prog (lookG (gam167 N213)) 6 lvs167 C k Tryz.f167 (some (164, (.ss [.str q_s, .bool q_bad]))) [.s (.str a1)] (tok167 Kt)
theorem run167_eq (k : Nat) (q_s : BY) (q_bad : Bool) (a1 : BY) (Kt : Tk167) : run167 C N213 k q_s q_bad a1 Kt =
 (N213 q_s a1 fun r1 => ((cut q_s none (some (i64.wrap ((q_s.length : Int) - (r1.length : Int))))).bind fun s2 => (Kt s2 r1 q_bad))) := by kernel_rfl
end
theorem as167 {G : World → Prop} {ng : Nat} (S : Stays Tryz.prog G ng) {N213 : Ty213} (h213 : FnIs Tryz.prog G ng 213 (adp213 N213)) {A : Ty167} (hA : ∀ (q_s : BY) (q_bad : Bool) (a1 : BY) (Kt : Tk167) (r : Out), A q_s q_bad a1 Kt = some r → run167 cut0 N213 big q_s q_bad a1 Kt = some r) : FnIs Tryz.prog G ng 167 (adp167 A) := by
 refine spec_run cut0_eq S (l := gam167 N213) (by intro p hp; simp only [gam167, List.mem_cons, List.not_mem_nil, or_false] at hp; rcases hp with rfl <;> assumption) Tryz.func167 (by kernel_rfl) (nn := 6) (Lv := lvs167) (k := big) fun rc cs K r h => ?_
 unfold adp167 at h
 split at h
 ·exact ⟨_, hA _ _ _ _ _ h, fun p hp => by unfold tok167 at hp; split at hp; exact hp; cases hp⟩
 ·cases h
def lvs168 : Nat → Option (List (Nat × Co))
 | 321 => some [(0, .k), (3, .k), (4, .k)]
 | 385 => some [(0, .k), (3, .k), (4, .k)]
 | _ => none
section
variable (C : Nat → Env → (Env → Option Out) → Option Out) (N164 : Ty164) (N166 : Ty166)
def gam168 : List (Nat × Fn1) := [(164, adp164 N164), (166, adp166 N166)]
def bod168 : Code := Tryz.f168.body.getD .skip
def run168 (k : Nat) (q_s : BY) (q_bad : Bool) (Kt : Tk168) : Option Out := runK Tryz.prog (lookG (gam168 N164 N166)) 5 lvs168 C k Tryz.f168 (some (164, (.ss [.str q_s, .bool q_bad]))) [] (tok168 Kt)
def p1_168 (k : Nat) (v0_0 : BY) (v0_1 : Bool) (v3 v4 : Int) (Kt : Tk168) : Option Out := C 321 ([.box 164 (.ss [.str v0_0, .bool v0_1]), .u, .u, .c (.s (.int .i64 v3)), .c (.s (.int .i64 v4))] ++ us 26) fun e => atK Tryz.prog (lookG (gam168 N164 N166)) 5 lvs168 C k bod168 [1, 1, 1] e (fin Tryz.prog Tryz.f168 (some 164) (tok168 Kt))
def p2_168 (k : Nat) (v0_0 : BY) (v0_1 : Bool) (v3 v4 : Int) (Kt : Tk168) : Option Out := C 385 ([.box 164 (.ss [.str v0_0, .bool v0_1]), .u, .u, .c (.s (.int .i64 v3)), .c (.s (.int .i64 v4))] ++ us 26) fun e => atK Tryz.prog (lookG (gam168 N164 N166)) 5 lvs168 C k bod168 [1, 1, 1, 1] e (fin Tryz.prog Tryz.f168 (some 164) (tok168 Kt))
theorem run168_eq (k : Nat) (q_s : BY) (q_bad : Bool) (Kt : Tk168) : run168 C N164 N166 k q_s q_bad Kt =
 (N164 q_s q_bad 1 2 fun r1 r2 r3 => (N166 r2 r3 ([58] : BY) fun r4 r5 r6 => (bif (r4 != 0) then (N164 r5 r6 2 2 fun r7 r8 r9 => (p1_168 C N164 N166 k r8 r9 r1 r7 Kt)) else (p1_168 C N164 N166 k r5 r6 r1 0 Kt)))) := by kernel_rfl
theorem p1_168_eq (hC : Cv C) (k : Nat) (v0_0 : BY) (v0_1 : Bool) (v3 v4 : Int) (Kt : Tk168) : p1_168 C N164 N166 k v0_0 v0_1 v3 v4 Kt =
 (bif v0_1 then (p2_168 C N164 N166 k v0_0 true v3 v4 Kt) else (bif (decide (v3 > 23)) then (p2_168 C N164 N166 k v0_0 true v3 v4 Kt) else (p2_168 C N164 N166 k v0_0 (decide (v4 > 59)) v3 v4 Kt))) := (hC _ _ _).trans (by kernel_rfl)
theorem p2_168_eq (hC : Cv C) (k : Nat) (v0_0 : BY) (v0_1 : Bool) (v3 v4 : Int) (Kt : Tk168) : p2_168 C N164 N166 k v0_0 v0_1 v3 v4 Kt =
 (Kt (i64.wrap ((i64.wrap ((60 : Int) * v3)) + v4)) v0_0 v0_1) := (hC _ _ _).trans (by kernel_rfl)
end
theorem as168 {G : World → Prop} {ng : Nat} (S : Stays Tryz.prog G ng) {N164 : Ty164} {N166 : Ty166} (h164 : FnIs Tryz.prog G ng 164 (adp164 N164)) (h166 : FnIs Tryz.prog G ng 166 (adp166 N166)) {A : Ty168} (hA : ∀ (q_s : BY) (q_bad : Bool) (Kt : Tk168) (r : Out), A q_s q_bad Kt = some r → run168 cut0 N164 N166 big q_s q_bad Kt = some r) : FnIs Tryz.prog G ng 168 (adp168 A) := by
 refine spec_run cut0_eq S (l := gam168 N164 N166) (by intro p hp; simp only [gam168, List.mem_cons, List.not_mem_nil, or_false] at hp; rcases hp with rfl | rfl <;> assumption) Tryz.func168 (by kernel_rfl) (nn := 5) (Lv := lvs168) (k := big) fun rc cs K r h => ?_
 unfold adp168 at h
 split at h
 ·exact ⟨_, hA _ _ _ _ h, fun p hp => by unfold tok168 at hp; split at hp; exact hp; cases hp⟩
 ·cases h
def lvs169 : Nat → Option (List (Nat × Co))
 | _ => none
section
variable (C : Nat → Env → (Env → Option Out) → Option Out) (N170 : Ty170)
def gam169 : List (Nat × Fn1) := [(170, adp170 N170)]
def run169 (k : Nat) (a0_year a0_month a0_day a0_hour a0_minute a0_second : Int) (a0_frac : BY) (a0_zone : Int) (Kt : Tk169) : Option Out := runK Tryz.prog (lookG (gam169 N170)) 3 lvs169 C k Tryz.f169 none [.agg (.ss [.int .i64 a0_year, .int .i64 a0_month, .int .i64 a0_day, .int .i64 a0_hour, .int .i64 a0_minute, .int .i64 a0_second, .str a0_frac, .int .i64 a0_zone])] (tok169 Kt)
theorem run169_eq (k : Nat) (a0_year a0_month a0_day a0_hour a0_minute a0_second : Int) (a0_frac : BY) (a0_zone : Int) (Kt : Tk169) : run169 C N170 k a0_year a0_month a0_day a0_hour a0_minute a0_second a0_frac a0_zone Kt =
 (bif (decide (a0_day ≥ 1)) then (N170 a0_year a0_month fun r1 => (bif (decide (a0_day ≤ r1)) then (bif (decide (a0_hour < 24)) then (bif (decide (a0_minute < 60)) then (Kt (decide (a0_second < 60))) else (Kt false)) else (Kt false)) else (Kt false))) else (Kt false)) := by kernel_rfl
end
theorem as169 {G : World → Prop} {ng : Nat} (S : Stays Tryz.prog G ng) {N170 : Ty170} (h170 : FnIs Tryz.prog G ng 170 (adp170 N170)) {A : Ty169} (hA : ∀ (a0_year : Int) (a0_month : Int) (a0_day : Int) (a0_hour : Int) (a0_minute : Int) (a0_second : Int) (a0_frac : BY) (a0_zone : Int) (Kt : Tk169) (r : Out), A a0_year a0_month a0_day a0_hour a0_minute a0_second a0_frac a0_zone Kt = some r → run169 cut0 N170 big a0_year a0_month a0_day a0_hour a0_minute a0_second a0_frac a0_zone Kt = some r) : FnIs Tryz.prog G ng 169 (adp169 A) := by
 refine spec_run cut0_eq S (l := gam169 N170) (by intro p hp; simp only [gam169, List.mem_cons, List.not_mem_nil, or_false] at hp; rcases hp with rfl <;> assumption) Tryz.func169 (by kernel_rfl) (nn := 3) (Lv := lvs169) (k := big) fun rc cs K r h => ?_
 unfold adp169 at h
 split at h
 ·exact ⟨_, hA _ _ _ _ _ _ _ _ _ _ h, fun p hp => by unfold tok169 at hp; split at hp; exact hp; cases hp⟩
 ·cases h
def lvs170 : Nat → Option (List (Nat × Co))
 | 194 => some [(0, .k), (1, .k), (5, .k)]
 | 322 => some [(1, .k), (16, .k)]
 | 578 => some [(37, .k)]
 | _ => none
section
variable (C : Nat → Env → (Env → Option Out) → Option Out)
def gam170 : List (Nat × Fn1) := []
def bod170 : Code := Tryz.f170.body.getD .skip
def run170 (k : Nat) (a0 a1 : Int) (Kt : Tk170) : Option Out := runK Tryz.prog (lookG (gam170)) 5 lvs170 C k Tryz.f170 none [.s (.int .i64 a0), .s (.int .i64 a1)] (tok170 Kt)
def p1_170 (k : Nat) (v0 v1 : Int) (v5 : Bool) (Kt : Tk170) : Option Out := C 194 ([.c (.s (.int .i64 v0)), .c (.s (.int .i64 v1)), .u, .u, .u, .c (.s (.bool v5))] ++ us 46) fun e => atK Tryz.prog (lookG (gam170)) 5 lvs170 C k bod170 [1, 0, 0, 1] e (fin Tryz.prog Tryz.f170 none (tok170 Kt))
def p2_170 (k : Nat) (v1 : Int) (v16 : Bool) (Kt : Tk170) : Option Out := C 322 ([.u, .c (.s (.int .i64 v1))] ++ us 14 ++ [.c (.s (.bool v16))] ++ us 35) fun e => atK Tryz.prog (lookG (gam170)) 5 lvs170 C k bod170 [1, 0, 0, 1, 1, 1] e (fin Tryz.prog Tryz.f170 none (tok170 Kt))
def p3_170 (k : Nat) (v37 : Bool) (Kt : Tk170) : Option Out := C 578 (us 37 ++ [.c (.s (.bool v37))] ++ us 14) fun e => atK Tryz.prog (lookG (gam170)) 5 lvs170 C k bod170 [1, 0, 0, 1, 1, 1, 1, 1, 1, 1] e (fin Tryz.prog Tryz.f170 none (tok170 Kt))
theorem run170_eq (k : Nat) (a0 a1 : Int) (Kt : Tk170) : run170 C k a0 a1 Kt =
 (bif (decide (a0 < 0)) then (p1_170 C k a0 a1 true Kt) else (bif (decide (a1 < 1)) then (p1_170 C k a0 a1 true Kt) else (p1_170 C k a0 a1 (decide (a1 > 12)) Kt))) := by kernel_rfl
theorem p1_170_eq (hC : Cv C) (k : Nat) (v0 v1 : Int) (v5 : Bool) (Kt : Tk170) : p1_170 C k v0 v1 v5 Kt =
 (bif v5 then (Kt 0) else (bif (v1 == 2) then (bif ((v0.tmod 4) == 0) then (bif ((v0.tmod 100) != 0) then (p2_170 C k v1 true Kt) else (p2_170 C k v1 ((v0.tmod 400) == 0) Kt)) else (p2_170 C k v1 false Kt)) else (p2_170 C k v1 false Kt))) := (hC _ _ _).trans (by kernel_rfl)
theorem p2_170_eq (hC : Cv C) (k : Nat) (v1 : Int) (v16 : Bool) (Kt : Tk170) : p2_170 C k v1 v16 Kt =
 (bif v16 then (Kt 29) else (bif (v1 == 2) then (Kt 28) else (bif (v1 == 4) then (p3_170 C k true Kt) else (bif (v1 == 6) then (p3_170 C k true Kt) else (bif (v1 == 9) then (p3_170 C k true Kt) else (p3_170 C k (v1 == 11) Kt)))))) := (hC _ _ _).trans (by kernel_rfl)
theorem p3_170_eq (hC : Cv C) (k : Nat) (v37 : Bool) (Kt : Tk170) : p3_170 C k v37 Kt =
 (bif v37 then (Kt 30) else (Kt 31)) := (hC _ _ _).trans (by kernel_rfl)
end
theorem as170 {G : World → Prop} {ng : Nat} (S : Stays Tryz.prog G ng) {A : Ty170} (hA : ∀ (a0 : Int) (a1 : Int) (Kt : Tk170) (r : Out), A a0 a1 Kt = some r → run170 cut0 big a0 a1 Kt = some r) : FnIs Tryz.prog G ng 170 (adp170 A) := by
 refine spec_run cut0_eq S (l := gam170) (by intro p hp; cases hp) Tryz.func170 (by kernel_rfl) (nn := 5) (Lv := lvs170) (k := big) fun rc cs K r h => ?_
 unfold adp170 at h
 split at h
 ·exact ⟨_, hA _ _ _ _ h, fun p hp => by unfold tok170 at hp; split at hp; exact hp; cases hp⟩
 ·cases h
def lvs213 : Nat → Option (List (Nat × Co))
 | 1000194 => some [(0, .k), (1, .k), (11, .k)]
 | 1000450 => some [(0, .k), (1, .k), (5, .k), (6, .k), (7, .k), (11, .k), (17, .k)]
 | _ => none
section
variable (C : Nat → Env → (Env → Option Out) → Option Out)
def gam213 : List (Nat × Fn1) := []
def bod213 : Code := Tryz.f213.body.getD .skip
def run213 (k : Nat) (a0 a1 : BY) (Kt : Tk213) : Option Out := runK Tryz.prog (lookG (gam213)) 10 lvs213 C k Tryz.f213 none [.s (.str a0), .s (.str a1)] (tok213 Kt)
def l1_213 (k j0 : Nat) (v0 v1 v11_s : BY) (v11_p : Nat) (Kt : Tk213) : Option Out := C 1000194 ([.c (.s (.str v0)), .c (.s (.str v1))] ++ us 9 ++ [.iter v11_s v11_p] ++ us 20) fun e => headK Tryz.prog (lookG (gam213)) 10 lvs213 C k j0 bod213 [1, 0, 1, 0] e (fin Tryz.prog Tryz.f213 none (tok213 Kt))
def l2_213 (k j0 j1 : Nat) (v0 v1 : BY) (v5 v6 : Int) (v7 : Bool) (v11_s : BY) (v11_p : Nat) (v17_s : BY) (v17_p : Nat) (Kt : Tk213) : Option Out := C 1000450 ([.c (.s (.str v0)), .c (.s (.str v1)), .u, .u, .u, .c (.s (.int .i64 v5)), .c (.s (.int .i32 v6)), .c (.s (.bool v7)), .u, .u, .u, .iter v11_s v11_p, .u, .u, .u, .u, .u, .iter v17_s v17_p] ++ us 14) fun e => headK Tryz.prog (lookG (gam213)) 10 lvs213 C k j1 bod213 [1, 0, 1, 0, j0, 1, 1, 0, 1, 1, 0, 1, 0] e (fin Tryz.prog Tryz.f213 none (tok213 Kt))
theorem run213_eq (k : Nat) (a0 a1 : BY) (Kt : Tk213) : run213 C k a0 a1 Kt =
 (l1_213 C k k a0 a1 a0 0 Kt) := by kernel_rfl
theorem l1_213_eq (hC : Cv C) (k j0 : Nat) (v0 v1 v11_s : BY) (v11_p : Nat) (Kt : Tk213) : l1_213 C k (j0 + 1) v0 v1 v11_s v11_p Kt =
 (bif decide (v11_p < v11_s.length) then (l2_213 C k j0 k v0 v1 (v11_p : Int) ((Utf8.decode ⟨⟨v11_s⟩⟩ v11_p).1 : Int) false v11_s (v11_p + (Utf8.decode ⟨⟨v11_s⟩⟩ v11_p).2) v1 0 Kt) else (Kt ([] : BY))) := (hC _ _ _).trans (by kernel_rfl)
theorem l2_213_eq (hC : Cv C) (k j0 j1 : Nat) (v0 v1 : BY) (v5 v6 : Int) (v7 : Bool) (v11_s : BY) (v11_p : Nat) (v17_s : BY) (v17_p : Nat) (Kt : Tk213) : l2_213 C k j0 (j1 + 1) v0 v1 v5 v6 v7 v11_s v11_p v17_s v17_p Kt =
 (bif decide (v17_p < v17_s.length) then (bif v7 then (l2_213 C k j0 j1 v0 v1 v5 v6 true v11_s v11_p v17_s (v17_p + (Utf8.decode ⟨⟨v17_s⟩⟩ v17_p).2) Kt) else (l2_213 C k j0 j1 v0 v1 v5 v6 (v6 == ((Utf8.decode ⟨⟨v17_s⟩⟩ v17_p).1 : Int)) v11_s v11_p v17_s (v17_p + (Utf8.decode ⟨⟨v17_s⟩⟩ v17_p).2) Kt)) else (bif (!v7) then ((cut v0 (some v5) none).bind fun s1 => (Kt s1)) else (l1_213 C k j0 v0 v1 v11_s v11_p Kt))) := (hC _ _ _).trans (by kernel_rfl)
end
theorem as213 {G : World → Prop} {ng : Nat} (S : Stays Tryz.prog G ng) {A : Ty213} (hA : ∀ (a0 : BY) (a1 : BY) (Kt : Tk213) (r : Out), A a0 a1 Kt = some r → run213 cut0 big a0 a1 Kt = some r) : FnIs Tryz.prog G ng 213 (adp213 A) := by
 refine spec_run cut0_eq S (l := gam213) (by intro p hp; cases hp) Tryz.func213 (by kernel_rfl) (nn := 10) (Lv := lvs213) (k := big) fun rc cs K r h => ?_
 unfold adp213 at h
 split at h
 ·exact ⟨_, hA _ _ _ _ h, fun p hp => by unfold tok213 at hp; split at hp; exact hp; cases hp⟩
 ·cases h
def lvs67 : Nat → Option (List (Nat × Co))
 | 897 => some [(7, .k)]
 | _ => none
section
variable (C : Nat → Env → (Env → Option Out) → Option Out) (N43 : Ty43) (N110 : Ty110) (N111 : Ty111) (N112 : Ty112)
def gam67 : List (Nat × Fn1) := [(43, adp43 N43), (110, adp110 N110), (111, adp111 N111), (112, adp112 N112)]
def bod67 : Code := Tryz.f67.body.getD .skip
def run67 (k : Nat) (a0 : BY) (Kt : Tk67) : Option Out := runK Tryz.prog (lookG (gam67 N43 N110 N111 N112)) 4 lvs67 C k Tryz.f67 none [.s (.str a0)] (tok67 Kt)
def p1_67 (k : Nat) (v7 : BY) (Kt : Tk67) : Option Out := C 897 (us 7 ++ [.c (.s (.str v7))] ++ us 57) fun e => atK Tryz.prog (lookG (gam67 N43 N110 N111 N112)) 4 lvs67 C k bod67 [1, 1, 1, 1, 1, 1, 1, 1, 1] e (fin Tryz.prog Tryz.f67 none (tok67 Kt))
theorem run67_eq (k : Nat) (a0 : BY) (Kt : Tk67) : run67 C N43 N110 N111 N112 k a0 Kt =
 (N110 a0 fun r1 r2 r3 r4 r5 r6 r7 r8 r9 r10 => (bif (!r10) then (Kt ([] : BY) false) else (bif r9 then (N43 a0 fun r11 => (Kt r11 true)) else (N111 r1 r2 r3 r4 r5 r6 r7 r8 fun r12 r13 r14 r15 r16 r17 r18 r19 r20 => (bif (!r20) then (Kt ([] : BY) false) else (N112 r12 4 fun r21 => ((cat r21 ([45] : BY)).bind fun s22 => (N112 r13 2 fun r23 => ((cat s22 r23).bind fun s24 => ((cat s24 ([45] : BY)).bind fun s25 => (N112 r14 2 fun r26 => ((cat s25 r26).bind fun s27 => (N112 r15 2 fun r28 => ((cat ([84] : BY) r28).bind fun s29 => ((cat s29 ([58] : BY)).bind fun s30 => (N112 r16 2 fun r31 => ((cat s30 r31).bind fun s32 => ((cat s32 ([58] : BY)).bind fun s33 => (N112 r17 2 fun r34 => ((cat s33 r34).bind fun s35 => ((cat s27 s35).bind fun s36 => (bif (!(r18 == ([] : BY))) then ((cat ([46] : BY) r18).bind fun s37 => ((cat s36 s37).bind fun s38 => (p1_67 C N43 N110 N111 N112 k s38 Kt))) else (p1_67 C N43 N110 N111 N112 k s36 Kt))))))))))))))))))))))) := by kernel_rfl
theorem p1_67_eq (hC : Cv C) (k : Nat) (v7 : BY) (Kt : Tk67) : p1_67 C N43 N110 N111 N112 k v7 Kt =
 ((cat v7 ([90] : BY)).bind fun s39 => (Kt s39 true)) := (hC _ _ _).trans (by kernel_rfl)
end
theorem as67 {G : World → Prop} {ng : Nat} (S : Stays Tryz.prog G ng) {N43 : Ty43} {N110 : Ty110} {N111 : Ty111} {N112 : Ty112} (h43 : FnIs Tryz.prog G ng 43 (adp43 N43)) (h110 : FnIs Tryz.prog G ng 110 (adp110 N110)) (h111 : FnIs Tryz.prog G ng 111 (adp111 N111)) (h112 : FnIs Tryz.prog G ng 112 (adp112 N112)) {A : Ty67} (hA : ∀ (a0 : BY) (Kt : Tk67) (r : Out), A a0 Kt = some r → run67 cut0 N43 N110 N111 N112 big a0 Kt = some r) : FnIs Tryz.prog G ng 67 (adp67 A) := by
 refine spec_run cut0_eq S (l := gam67 N43 N110 N111 N112) (by intro p hp; simp only [gam67, List.mem_cons, List.not_mem_nil, or_false] at hp; rcases hp with rfl | rfl | rfl | rfl <;> assumption) Tryz.func67 (by kernel_rfl) (nn := 4) (Lv := lvs67) (k := big) fun rc cs K r h => ?_
 unfold adp67 at h
 split at h
 ·exact ⟨_, hA _ _ _ h, fun p hp => by unfold tok67 at hp; split at hp; exact hp; cases hp⟩
 ·cases h
def lvs43 : Nat → Option (List (Nat × Co))
 | _ => none
section
variable (C : Nat → Env → (Env → Option Out) → Option Out) (N68 : Ty68)
def gam43 : List (Nat × Fn1) := [(68, adp68 N68)]
def run43 (k : Nat) (a0 : BY) (Kt : Tk43) : Option Out := runK Tryz.prog (lookG (gam43 N68)) 3 lvs43 C k Tryz.f43 none [.s (.str a0)] (tok43 Kt)
theorem run43_eq (k : Nat) (a0 : BY) (Kt : Tk43) : run43 C N68 k a0 Kt =
 (N68 a0 fun r1 => (Kt r1)) := by kernel_rfl
end
theorem as43 {G : World → Prop} {ng : Nat} (S : Stays Tryz.prog G ng) {N68 : Ty68} (h68 : FnIs Tryz.prog G ng 68 (adp68 N68)) {A : Ty43} (hA : ∀ (a0 : BY) (Kt : Tk43) (r : Out), A a0 Kt = some r → run43 cut0 N68 big a0 Kt = some r) : FnIs Tryz.prog G ng 43 (adp43 A) := by
 refine spec_run cut0_eq S (l := gam43 N68) (by intro p hp; simp only [gam43, List.mem_cons, List.not_mem_nil, or_false] at hp; rcases hp with rfl <;> assumption) Tryz.func43 (by kernel_rfl) (nn := 3) (Lv := lvs43) (k := big) fun rc cs K r h => ?_
 unfold adp43 at h
 split at h
 ·exact ⟨_, hA _ _ _ h, fun p hp => by unfold tok43 at hp; split at hp; exact hp; cases hp⟩
 ·cases h
end
end Go.Proofs.YtffmgholjdfcnaaGreatDoor
set_option maxRecDepth 100000
set_option linter.unusedVariables false
namespace Go.Proofs.YtffmgholjdfcnaaGreatDoor
open Go Go.Proofs AM
open Go.IntKind (i64 u8)
noncomputable section
def lvs76 : Nat → Option (List (Nat × Co))
 | 642 => some [(0, .k), (4, .k), (6, .k), (8, .k), (9, .k), (44, .k)]
 | 1001027 => some [(0, .k), (4, .k), (6, .k), (8, .k), (9, .k), (10, .k)]
 | _ => none
section
variable (C : Nat → Env → (Env → Option Out) → Option Out) (N123 : Ty123) (N124 : Ty124) (N125 : Ty125) (N126 : Ty126) (N127 : Ty127)
def gam76 : List (Nat × Fn1) := [(123, adp123 N123), (124, adp124 N124), (125, adp125 N125), (126, adp126 N126), (127, adp127 N127)]
def bod76 : Code := Tryz.f76.body.getD .skip
def run76 (k : Nat) (a0 : BY) (Kt : Tk76) : Option Out := runK Tryz.prog (lookG (gam76 N123 N124 N125 N126 N127)) 4 lvs76 C k Tryz.f76 none [.s (.str a0)] (tok76 Kt)
def p1_76 (k : Nat) (v0 : BY) (v4 v6 v8 v9 : Int) (v44 : Bool) (Kt : Tk76) : Option Out := C 642 ([.c (.s (.str v0)), .u, .u, .u, .c (.s (.int .i64 v4)), .u, .c (.s (.int .i64 v6)), .u, .c (.s (.int .i64 v8)), .c (.s (.int .i64 v9))] ++ us 34 ++ [.c (.s (.bool v44))] ++ us 59) fun e => atK Tryz.prog (lookG (gam76 N123 N124 N125 N126 N127)) 4 lvs76 C k bod76 [1, 1, 1, 1, 1, 1, 0, 1] e (fin Tryz.prog Tryz.f76 none (tok76 Kt))
def l2_76 (k j0 : Nat) (v0 : BY) (v4 v6 v8 v9 v10 : Int) (Kt : Tk76) : Option Out := C 1001027 ([.c (.s (.str v0)), .u, .u, .u, .c (.s (.int .i64 v4)), .u, .c (.s (.int .i64 v6)), .u, .c (.s (.int .i64 v8)), .c (.s (.int .i64 v9)), .c (.s (.int .i64 v10))] ++ us 93) fun e => headK Tryz.prog (lookG (gam76 N123 N124 N125 N126 N127)) 4 lvs76 C k j0 bod76 [1, 1, 1, 1, 1, 1, 1, 1, 1, 0, 0] e (fin Tryz.prog Tryz.f76 none (tok76 Kt))
theorem run76_eq (k : Nat) (a0 : BY) (Kt : Tk76) : run76 C N123 N124 N125 N126 N127 k a0 Kt =
 (N123 a0 0 4 4 fun r1 r2 => (bif (decide (r2 < 0)) then (Kt ([] : BY) false) else (N124 a0 r2 ([45] : BY) 1 2 fun r3 r4 => (bif (decide (r4 < 0)) then (Kt ([] : BY) false) else (N124 a0 r4 ([45] : BY) 1 2 fun r5 r6 => (bif (decide (r6 < 0)) then (p1_76 C N123 N124 N125 N126 N127 k a0 r1 r3 r5 r6 true Kt) else (bif (decide (r5 < 1)) then (p1_76 C N123 N124 N125 N126 N127 k a0 r1 r3 r5 r6 true Kt) else (N125 r1 r3 fun r7 => (p1_76 C N123 N124 N125 N126 N127 k a0 r1 r3 r5 r6 (decide (r5 > r7)) Kt))))))))) := by kernel_rfl
theorem p1_76_eq (hC : Cv C) (k : Nat) (v0 : BY) (v4 v6 v8 v9 : Int) (v44 : Bool) (Kt : Tk76) : p1_76 C N123 N124 N125 N126 N127 k v0 v4 v6 v8 v9 v44 Kt =
 (bif v44 then (Kt ([] : BY) false) else (bif (v9 == (v0.length : Int)) then (bif (v9 != 10) then (Kt ([] : BY) false) else (Kt v0 true)) else (N126 v0 v9 ([84, 116] : BY) fun r8 => (l2_76 C N123 N124 N125 N126 N127 k k v0 v4 v6 v8 v9 r8 Kt)))) := (hC _ _ _).trans (by kernel_rfl)
theorem l2_76_eq (hC : Cv C) (k j0 : Nat) (v0 : BY) (v4 v6 v8 v9 v10 : Int) (Kt : Tk76) : l2_76 C N123 N124 N125 N126 N127 k (j0 + 1) v0 v4 v6 v8 v9 v10 Kt =
 (bif (decide (v10 < 0)) then (bif (decide (v9 < (v0.length : Int))) then ((at? v0 v9).bind fun b9 => (bif ((b9.toNat : Int) == 32) then (bif ((i64.wrap (v9 + 1)) == (v0.length : Int)) then (l2_76 C N123 N124 N125 N126 N127 k j0 v0 v4 v6 v8 (i64.wrap (v9 + 1)) (i64.wrap (v9 + 1)) Kt) else ((at? v0 (i64.wrap (v9 + 1))).bind fun b10 => (bif ((b10.toNat : Int) != 32) then ((at? v0 (i64.wrap (v9 + 1))).bind fun b11 => (bif ((b11.toNat : Int) != 9) then (l2_76 C N123 N124 N125 N126 N127 k j0 v0 v4 v6 v8 (i64.wrap (v9 + 1)) (i64.wrap (v9 + 1)) Kt) else (l2_76 C N123 N124 N125 N126 N127 k j0 v0 v4 v6 v8 (i64.wrap (v9 + 1)) v10 Kt))) else (l2_76 C N123 N124 N125 N126 N127 k j0 v0 v4 v6 v8 (i64.wrap (v9 + 1)) v10 Kt)))) else ((at? v0 v9).bind fun b12 => (bif ((b12.toNat : Int) == 9) then (bif ((i64.wrap (v9 + 1)) == (v0.length : Int)) then (l2_76 C N123 N124 N125 N126 N127 k j0 v0 v4 v6 v8 (i64.wrap (v9 + 1)) (i64.wrap (v9 + 1)) Kt) else ((at? v0 (i64.wrap (v9 + 1))).bind fun b13 => (bif ((b13.toNat : Int) != 32) then ((at? v0 (i64.wrap (v9 + 1))).bind fun b14 => (bif ((b14.toNat : Int) != 9) then (l2_76 C N123 N124 N125 N126 N127 k j0 v0 v4 v6 v8 (i64.wrap (v9 + 1)) (i64.wrap (v9 + 1)) Kt) else (l2_76 C N123 N124 N125 N126 N127 k j0 v0 v4 v6 v8 (i64.wrap (v9 + 1)) v10 Kt))) else (l2_76 C N123 N124 N125 N126 N127 k j0 v0 v4 v6 v8 (i64.wrap (v9 + 1)) v10 Kt)))) else (bif (decide (v10 < 0)) then (Kt ([] : BY) false) else (N127 v0 v10 v4 v6 v8 fun r15 r16 => (Kt r15 r16))))))) else (bif (decide (v10 < 0)) then (Kt ([] : BY) false) else (N127 v0 v10 v4 v6 v8 fun r17 r18 => (Kt r17 r18)))) else (bif (decide (v10 < 0)) then (Kt ([] : BY) false) else (N127 v0 v10 v4 v6 v8 fun r19 r20 => (Kt r19 r20)))) := (hC _ _ _).trans (by kernel_rfl)
end
theorem as76 {G : World → Prop} {ng : Nat} (S : Stays Tryz.prog G ng) {N123 : Ty123} {N124 : Ty124} {N125 : Ty125} {N126 : Ty126} {N127 : Ty127} (h123 : FnIs Tryz.prog G ng 123 (adp123 N123)) (h124 : FnIs Tryz.prog G ng 124 (adp124 N124)) (h125 : FnIs Tryz.prog G ng 125 (adp125 N125)) (h126 : FnIs Tryz.prog G ng 126 (adp126 N126)) (h127 : FnIs Tryz.prog G ng 127 (adp127 N127)) {A : Ty76} (hA : ∀ (a0 : BY) (Kt : Tk76) (r : Out), A a0 Kt = some r → run76 cut0 N123 N124 N125 N126 N127 big a0 Kt = some r) : FnIs Tryz.prog G ng 76 (adp76 A) := by
 refine spec_run cut0_eq S (l := gam76 N123 N124 N125 N126 N127) (by intro p hp; simp only [gam76, List.mem_cons, List.not_mem_nil, or_false] at hp; rcases hp with rfl | rfl | rfl | rfl | rfl <;> assumption) Tryz.func76 (by kernel_rfl) (nn := 4) (Lv := lvs76) (k := big) fun rc cs K r h => ?_
 unfold adp76 at h
 split at h
 ·exact ⟨_, hA _ _ _ h, fun p hp => by unfold tok76 at hp; split at hp; exact hp; cases hp⟩
 ·cases h
def lvs123 : Nat → Option (List (Nat × Co))
 | 1000195 => some [(0, .k), (1, .k), (2, .k), (3, .k), (10, .k), (11, .k)]
 | _ => none
section
variable (C : Nat → Env → (Env → Option Out) → Option Out) (N92 : Ty92)
def gam123 : List (Nat × Fn1) := [(92, adp92 N92)]
def bod123 : Code := Tryz.f123.body.getD .skip
def run123 (k : Nat) (a0 : BY) (a1 a2 a3 : Int) (Kt : Tk123) : Option Out := runK Tryz.prog (lookG (gam123 N92)) 12 lvs123 C k Tryz.f123 none [.s (.str a0), .s (.int .i64 a1), .s (.int .i64 a2), .s (.int .i64 a3)] (tok123 Kt)
def l1_123 (k j0 : Nat) (v0 : BY) (v1 v2 v3 v10 v11 : Int) (Kt : Tk123) : Option Out := C 1000195 ([.c (.s (.str v0)), .c (.s (.int .i64 v1)), .c (.s (.int .i64 v2)), .c (.s (.int .i64 v3))] ++ us 6 ++ [.c (.s (.int .i64 v10)), .c (.s (.int .i64 v11))] ++ us 35) fun e => headK Tryz.prog (lookG (gam123 N92)) 12 lvs123 C k j0 bod123 [1, 1, 0, 0] e (fin Tryz.prog Tryz.f123 none (tok123 Kt))
theorem run123_eq (k : Nat) (a0 : BY) (a1 a2 a3 : Int) (Kt : Tk123) : run123 C N92 k a0 a1 a2 a3 Kt =
 (l1_123 C N92 k k a0 a1 a2 a3 0 a1 Kt) := by kernel_rfl
theorem l1_123_eq (hC : Cv C) (k j0 : Nat) (v0 : BY) (v1 v2 v3 v10 v11 : Int) (Kt : Tk123) : l1_123 C N92 k (j0 + 1) v0 v1 v2 v3 v10 v11 Kt =
 (bif (decide (v11 < (v0.length : Int))) then (bif (decide ((i64.wrap (v11 - v1)) < v3)) then ((at? v0 v11).bind fun b1 => (N92 (b1.toNat : Int) fun r2 => (bif r2 then ((at? v0 v11).bind fun b3 => (l1_123 C N92 k j0 v0 v1 v2 v3 (i64.wrap ((i64.wrap ((10 : Int) * v10)) + (i64.wrap (u8.wrap ((b3.toNat : Int) - 48))))) (i64.wrap (v11 + 1)) Kt)) else (bif (decide ((i64.wrap (v11 - v1)) < v2)) then (Kt 0 (-1)) else (Kt v10 v11))))) else (bif (decide ((i64.wrap (v11 - v1)) < v2)) then (Kt 0 (-1)) else (Kt v10 v11))) else (bif (decide ((i64.wrap (v11 - v1)) < v2)) then (Kt 0 (-1)) else (Kt v10 v11))) := (hC _ _ _).trans (by kernel_rfl)
end
theorem as123 {G : World → Prop} {ng : Nat} (S : Stays Tryz.prog G ng) {N92 : Ty92} (h92 : FnIs Tryz.prog G ng 92 (adp92 N92)) {A : Ty123} (hA : ∀ (a0 : BY) (a1 : Int) (a2 : Int) (a3 : Int) (Kt : Tk123) (r : Out), A a0 a1 a2 a3 Kt = some r → run123 cut0 N92 big a0 a1 a2 a3 Kt = some r) : FnIs Tryz.prog G ng 123 (adp123 A) := by
 refine spec_run cut0_eq S (l := gam123 N92) (by intro p hp; simp only [gam123, List.mem_cons, List.not_mem_nil, or_false] at hp; rcases hp with rfl <;> assumption) Tryz.func123 (by kernel_rfl) (nn := 12) (Lv := lvs123) (k := big) fun rc cs K r h => ?_
 unfold adp123 at h
 split at h
 ·exact ⟨_, hA _ _ _ _ _ _ h, fun p hp => by unfold tok123 at hp; split at hp; exact hp; cases hp⟩
 ·cases h
def lvs124 : Nat → Option (List (Nat × Co))
 | _ => none
section
variable (C : Nat → Env → (Env → Option Out) → Option Out) (N123 : Ty123) (N126 : Ty126)
def gam124 : List (Nat × Fn1) := [(123, adp123 N123), (126, adp126 N126)]
def run124 (k : Nat) (a0 : BY) (a1 : Int) (a2 : BY) (a3 a4 : Int) (Kt : Tk124) : Option Out := runK Tryz.prog (lookG (gam124 N123 N126)) 13 lvs124 C k Tryz.f124 none [.s (.str a0), .s (.int .i64 a1), .s (.str a2), .s (.int .i64 a3), .s (.int .i64 a4)] (tok124 Kt)
theorem run124_eq (k : Nat) (a0 : BY) (a1 : Int) (a2 : BY) (a3 a4 : Int) (Kt : Tk124) : run124 C N123 N126 k a0 a1 a2 a3 a4 Kt =
 (N126 a0 a1 a2 fun r1 => (bif (decide (r1 < 0)) then (Kt 0 (-1)) else (N123 a0 r1 a3 a4 fun r2 r3 => (Kt r2 r3)))) := by kernel_rfl
end
theorem as124 {G : World → Prop} {ng : Nat} (S : Stays Tryz.prog G ng) {N123 : Ty123} {N126 : Ty126} (h123 : FnIs Tryz.prog G ng 123 (adp123 N123)) (h126 : FnIs Tryz.prog G ng 126 (adp126 N126)) {A : Ty124} (hA : ∀ (a0 : BY) (a1 : Int) (a2 : BY) (a3 : Int) (a4 : Int) (Kt : Tk124) (r : Out), A a0 a1 a2 a3 a4 Kt = some r → run124 cut0 N123 N126 big a0 a1 a2 a3 a4 Kt = some r) : FnIs Tryz.prog G ng 124 (adp124 A) := by
 refine spec_run cut0_eq S (l := gam124 N123 N126) (by intro p hp; simp only [gam124, List.mem_cons, List.not_mem_nil, or_false] at hp; rcases hp with rfl | rfl <;> assumption) Tryz.func124 (by kernel_rfl) (nn := 13) (Lv := lvs124) (k := big) fun rc cs K r h => ?_
 unfold adp124 at h
 split at h
 ·exact ⟨_, hA _ _ _ _ _ _ _ h, fun p hp => by unfold tok124 at hp; split at hp; exact hp; cases hp⟩
 ·cases h
def lvs125 : Nat → Option (List (Nat × Co))
 | 194 => some [(0, .k), (1, .k), (14, .k)]
 | 386 => some [(29, .k)]
 | 578 => some [(43, .k)]
 | _ => none
section
variable (C : Nat → Env → (Env → Option Out) → Option Out)
def gam125 : List (Nat × Fn1) := []
def bod125 : Code := Tryz.f125.body.getD .skip
def run125 (k : Nat) (a0 a1 : Int) (Kt : Tk125) : Option Out := runK Tryz.prog (lookG (gam125)) 5 lvs125 C k Tryz.f125 none [.s (.int .i64 a0), .s (.int .i64 a1)] (tok125 Kt)
def p1_125 (k : Nat) (v0 v1 : Int) (v14 : Bool) (Kt : Tk125) : Option Out := C 194 ([.c (.s (.int .i64 v0)), .c (.s (.int .i64 v1))] ++ us 12 ++ [.c (.s (.bool v14))] ++ us 29) fun e => atK Tryz.prog (lookG (gam125)) 5 lvs125 C k bod125 [1, 0, 1] e (fin Tryz.prog Tryz.f125 none (tok125 Kt))
def p2_125 (k : Nat) (v29 : Bool) (Kt : Tk125) : Option Out := C 386 (us 29 ++ [.c (.s (.bool v29))] ++ us 14) fun e => atK Tryz.prog (lookG (gam125)) 5 lvs125 C k bod125 [1, 1, 0, 1, 0, 0, 1] e (fin Tryz.prog Tryz.f125 none (tok125 Kt))
def p3_125 (k : Nat) (v43 : Bool) (Kt : Tk125) : Option Out := C 578 (us 43 ++ [.c (.s (.bool v43))]) fun e => atK Tryz.prog (lookG (gam125)) 5 lvs125 C k bod125 [1, 1, 1, 0, 1] e (fin Tryz.prog Tryz.f125 none (tok125 Kt))
theorem run125_eq (k : Nat) (a0 a1 : Int) (Kt : Tk125) : run125 C k a0 a1 Kt =
 (bif (decide (a0 < 0)) then (p1_125 C k a0 a1 true Kt) else (bif (decide (a1 < 1)) then (p1_125 C k a0 a1 true Kt) else (p1_125 C k a0 a1 (decide (a1 > 12)) Kt))) := by kernel_rfl
theorem p1_125_eq (hC : Cv C) (k : Nat) (v0 v1 : Int) (v14 : Bool) (Kt : Tk125) : p1_125 C k v0 v1 v14 Kt =
 (bif v14 then (Kt 0) else (bif (v1 == 2) then (bif ((v0.tmod 4) == 0) then (bif ((v0.tmod 100) != 0) then (p2_125 C k true Kt) else (p2_125 C k ((v0.tmod 400) == 0) Kt)) else (p2_125 C k false Kt)) else (bif (v1 == 4) then (p3_125 C k true Kt) else (bif (v1 == 6) then (p3_125 C k true Kt) else (bif (v1 == 9) then (p3_125 C k true Kt) else (p3_125 C k (v1 == 11) Kt)))))) := (hC _ _ _).trans (by kernel_rfl)
theorem p2_125_eq (hC : Cv C) (k : Nat) (v29 : Bool) (Kt : Tk125) : p2_125 C k v29 Kt =
 (bif v29 then (Kt 29) else (Kt 28)) := (hC _ _ _).trans (by kernel_rfl)
theorem p3_125_eq (hC : Cv C) (k : Nat) (v43 : Bool) (Kt : Tk125) : p3_125 C k v43 Kt =
 (bif v43 then (Kt 30) else (Kt 31)) := (hC _ _ _).trans (by kernel_rfl)
end
theorem as125 {G : World → Prop} {ng : Nat} (S : Stays Tryz.prog G ng) {A : Ty125} (hA : ∀ (a0 : Int) (a1 : Int) (Kt : Tk125) (r : Out), A a0 a1 Kt = some r → run125 cut0 big a0 a1 Kt = some r) : FnIs Tryz.prog G ng 125 (adp125 A) := by
 refine spec_run cut0_eq S (l := gam125) (by intro p hp; cases hp) Tryz.func125 (by kernel_rfl) (nn := 5) (Lv := lvs125) (k := big) fun rc cs K r h => ?_
 unfold adp125 at h
 split at h
 ·exact ⟨_, hA _ _ _ _ h, fun p hp => by unfold tok125 at hp; split at hp; exact hp; cases hp⟩
 ·cases h
def lvs126 : Nat → Option (List (Nat × Co))
 | 194 => some [(0, .k), (1, .k), (2, .k), (15, .k)]
 | 1000323 => some [(0, .k), (1, .k), (2, .k), (7, .k)]
 | _ => none
section
variable (C : Nat → Env → (Env → Option Out) → Option Out)
def gam126 : List (Nat × Fn1) := []
def bod126 : Code := Tryz.f126.body.getD .skip
def run126 (k : Nat) (a0 : BY) (a1 : Int) (a2 : BY) (Kt : Tk126) : Option Out := runK Tryz.prog (lookG (gam126)) 8 lvs126 C k Tryz.f126 none [.s (.str a0), .s (.int .i64 a1), .s (.str a2)] (tok126 Kt)
def p1_126 (k : Nat) (v0 : BY) (v1 : Int) (v2 : BY) (v15 : Bool) (Kt : Tk126) : Option Out := C 194 ([.c (.s (.str v0)), .c (.s (.int .i64 v1)), .c (.s (.str v2))] ++ us 12 ++ [.c (.s (.bool v15))] ++ us 15) fun e => atK Tryz.prog (lookG (gam126)) 8 lvs126 C k bod126 [1, 0, 1] e (fin Tryz.prog Tryz.f126 none (tok126 Kt))
def l2_126 (k j0 : Nat) (v0 : BY) (v1 : Int) (v2 : BY) (v7 : Int) (Kt : Tk126) : Option Out := C 1000323 ([.c (.s (.str v0)), .c (.s (.int .i64 v1)), .c (.s (.str v2)), .u, .u, .u, .u, .c (.s (.int .i64 v7))] ++ us 23) fun e => headK Tryz.prog (lookG (gam126)) 8 lvs126 C k j0 bod126 [1, 1, 0, 1, 0] e (fin Tryz.prog Tryz.f126 none (tok126 Kt))
theorem run126_eq (k : Nat) (a0 : BY) (a1 : Int) (a2 : BY) (Kt : Tk126) : run126 C k a0 a1 a2 Kt =
 (bif (decide (a1 < 0)) then (p1_126 C k a0 a1 a2 true Kt) else (p1_126 C k a0 a1 a2 (decide (a1 ≥ (a0.length : Int))) Kt)) := by kernel_rfl
theorem p1_126_eq (hC : Cv C) (k : Nat) (v0 : BY) (v1 : Int) (v2 : BY) (v15 : Bool) (Kt : Tk126) : p1_126 C k v0 v1 v2 v15 Kt =
 (bif v15 then (Kt (-1)) else (l2_126 C k k v0 v1 v2 0 Kt)) := (hC _ _ _).trans (by kernel_rfl)
theorem l2_126_eq (hC : Cv C) (k j0 : Nat) (v0 : BY) (v1 : Int) (v2 : BY) (v7 : Int) (Kt : Tk126) : l2_126 C k (j0 + 1) v0 v1 v2 v7 Kt =
 (bif (decide (v7 < (v2.length : Int))) then ((at? v0 v1).bind fun b1 => ((at? v2 v7).bind fun b2 => (bif ((b1.toNat : Int) == (b2.toNat : Int)) then (Kt (i64.wrap (v1 + 1))) else (l2_126 C k j0 v0 v1 v2 (i64.wrap (v7 + 1)) Kt)))) else (Kt (-1))) := (hC _ _ _).trans (by kernel_rfl)
end
theorem as126 {G : World → Prop} {ng : Nat} (S : Stays Tryz.prog G ng) {A : Ty126} (hA : ∀ (a0 : BY) (a1 : Int) (a2 : BY) (Kt : Tk126) (r : Out), A a0 a1 a2 Kt = some r → run126 cut0 big a0 a1 a2 Kt = some r) : FnIs Tryz.prog G ng 126 (adp126 A) := by
 refine spec_run cut0_eq S (l := gam126) (by intro p hp; cases hp) Tryz.func126 (by kernel_rfl) (nn := 8) (Lv := lvs126) (k := big) fun rc cs K r h => ?_
 unfold adp126 at h
 split at h
 ·exact ⟨_, hA _ _ _ _ _ h, fun p hp => by unfold tok126 at hp; split at hp; exact hp; cases hp⟩
 ·cases h
def lvs127 : Nat → Option (List (Nat × Co))
 | 642 => some [(0, .k), (2, .k), (3, .k), (4, .k), (12, .k), (14, .k), (16, .k), (17, .k), (60, .k)]
 | 1157 => some [(0, .k), (2, .k), (3, .k), (4, .k), (12, .k), (14, .k), (16, .k), (17, .k), (18, .k)]
 | 1857 => some [(23, .k)]
 | 1000963 => some [(0, .k), (2, .k), (3, .k), (4, .k), (12, .k), (14, .k), (16, .k), (19, .k), (20, .k)]
 | 1001155 => some [(0, .k), (2, .k), (3, .k), (4, .k), (12, .k), (14, .k), (16, .k), (17, .k), (18, .k)]
 | _ => none
section
variable (C : Nat → Env → (Env → Option Out) → Option Out) (N92 : Ty92) (N123 : Ty123) (N124 : Ty124) (N126 : Ty126) (N178 : Ty178) (N179 : Ty179) (N180 : Ty180)
def gam127 : List (Nat × Fn1) := [(92, adp92 N92), (123, adp123 N123), (124, adp124 N124), (126, adp126 N126), (178, adp178 N178), (179, adp179 N179), (180, adp180 N180)]
def bod127 : Code := Tryz.f127.body.getD .skip
def run127 (k : Nat) (a0 : BY) (a1 a2 a3 a4 : Int) (Kt : Tk127) : Option Out := runK Tryz.prog (lookG (gam127 N92 N123 N124 N126 N178 N179 N180)) 12 lvs127 C k Tryz.f127 none [.s (.str a0), .s (.int .i64 a1), .s (.int .i64 a2), .s (.int .i64 a3), .s (.int .i64 a4)] (tok127 Kt)
def p1_127 (k : Nat) (v0 : BY) (v2 v3 v4 v12 v14 v16 v17 : Int) (v60 : Bool) (Kt : Tk127) : Option Out := C 642 ([.c (.s (.str v0)), .u, .c (.s (.int .i64 v2)), .c (.s (.int .i64 v3)), .c (.s (.int .i64 v4))] ++ us 7 ++ [.c (.s (.int .i64 v12)), .u, .c (.s (.int .i64 v14)), .u, .c (.s (.int .i64 v16)), .c (.s (.int .i64 v17))] ++ us 42 ++ [.c (.s (.bool v60))] ++ us 75) fun e => atK Tryz.prog (lookG (gam127 N92 N123 N124 N126 N178 N179 N180)) 12 lvs127 C k bod127 [1, 1, 1, 1, 1, 1, 0, 1] e (fin Tryz.prog Tryz.f127 none (tok127 Kt))
def l2_127 (k j0 : Nat) (v0 : BY) (v2 v3 v4 v12 v14 v16 v19 v20 : Int) (Kt : Tk127) : Option Out := C 1000963 ([.c (.s (.str v0)), .u, .c (.s (.int .i64 v2)), .c (.s (.int .i64 v3)), .c (.s (.int .i64 v4))] ++ us 7 ++ [.c (.s (.int .i64 v12)), .u, .c (.s (.int .i64 v14)), .u, .c (.s (.int .i64 v16)), .u, .u, .c (.s (.int .i64 v19)), .c (.s (.int .i64 v20))] ++ us 115) fun e => headK Tryz.prog (lookG (gam127 N92 N123 N124 N126 N178 N179 N180)) 12 lvs127 C k j0 bod127 [1, 1, 1, 1, 1, 1, 1, 1, 0, 1, 1, 0, 1, 0, 0] e (fin Tryz.prog Tryz.f127 none (tok127 Kt))
def p3_127 (k : Nat) (v0 : BY) (v2 v3 v4 v12 v14 v16 v17 : Int) (v18 : BY) (Kt : Tk127) : Option Out := C 1157 ([.c (.s (.str v0)), .u, .c (.s (.int .i64 v2)), .c (.s (.int .i64 v3)), .c (.s (.int .i64 v4))] ++ us 7 ++ [.c (.s (.int .i64 v12)), .u, .c (.s (.int .i64 v14)), .u, .c (.s (.int .i64 v16)), .c (.s (.int .i64 v17)), .c (.s (.str v18))] ++ us 117) fun e => atK Tryz.prog (lookG (gam127 N92 N123 N124 N126 N178 N179 N180)) 12 lvs127 C k bod127 [1, 1, 1, 1, 1, 1, 1, 1, 1] e (fin Tryz.prog Tryz.f127 none (tok127 Kt))
def l4_127 (k j0 : Nat) (v0 : BY) (v2 v3 v4 v12 v14 v16 v17 : Int) (v18 : BY) (Kt : Tk127) : Option Out := C 1001155 ([.c (.s (.str v0)), .u, .c (.s (.int .i64 v2)), .c (.s (.int .i64 v3)), .c (.s (.int .i64 v4))] ++ us 7 ++ [.c (.s (.int .i64 v12)), .u, .c (.s (.int .i64 v14)), .u, .c (.s (.int .i64 v16)), .c (.s (.int .i64 v17)), .c (.s (.str v18))] ++ us 117) fun e => headK Tryz.prog (lookG (gam127 N92 N123 N124 N126 N178 N179 N180)) 12 lvs127 C k j0 bod127 [1, 1, 1, 1, 1, 1, 1, 1, 1, 0, 0] e (fin Tryz.prog Tryz.f127 none (tok127 Kt))
def p5_127 (k : Nat) (v23 : BY) (Kt : Tk127) : Option Out := C 1857 (us 23 ++ [.c (.s (.str v23))] ++ us 112) fun e => atK Tryz.prog (lookG (gam127 N92 N123 N124 N126 N178 N179 N180)) 12 lvs127 C k bod127 [1, 1, 1, 1, 1, 1, 1, 1, 1, 1, 1, 1, 1, 1, 1, 1] e (fin Tryz.prog Tryz.f127 none (tok127 Kt))
theorem run127_eq (k : Nat) (a0 : BY) (a1 a2 a3 a4 : Int) (Kt : Tk127) : run127 C N92 N123 N124 N126 N178 N179 N180 k a0 a1 a2 a3 a4 Kt =
 (N123 a0 a1 1 2 fun r1 r2 => (bif (decide (r2 < 0)) then (Kt ([] : BY) false) else (N124 a0 r2 ([58] : BY) 2 2 fun r3 r4 => (bif (decide (r4 < 0)) then (Kt ([] : BY) false) else (N124 a0 r4 ([58] : BY) 2 2 fun r5 r6 => (bif (decide (r6 < 0)) then (p1_127 C N92 N123 N124 N126 N178 N179 N180 k a0 a2 a3 a4 r1 r3 r5 r6 true Kt) else (bif (decide (r1 > 23)) then (p1_127 C N92 N123 N124 N126 N178 N179 N180 k a0 a2 a3 a4 r1 r3 r5 r6 true Kt) else (bif (decide (r3 > 59)) then (p1_127 C N92 N123 N124 N126 N178 N179 N180 k a0 a2 a3 a4 r1 r3 r5 r6 true Kt) else (p1_127 C N92 N123 N124 N126 N178 N179 N180 k a0 a2 a3 a4 r1 r3 r5 r6 (decide (r5 > 59)) Kt))))))))) := by kernel_rfl
theorem p1_127_eq (hC : Cv C) (k : Nat) (v0 : BY) (v2 v3 v4 v12 v14 v16 v17 : Int) (v60 : Bool) (Kt : Tk127) : p1_127 C N92 N123 N124 N126 N178 N179 N180 k v0 v2 v3 v4 v12 v14 v16 v17 v60 Kt =
 (bif v60 then (Kt ([] : BY) false) else (N126 v0 v17 ([46] : BY) fun r7 => (bif (decide (r7 > 0)) then (l2_127 C N92 N123 N124 N126 N178 N179 N180 k k v0 v2 v3 v4 v12 v14 v16 r7 r7 Kt) else (p3_127 C N92 N123 N124 N126 N178 N179 N180 k v0 v2 v3 v4 v12 v14 v16 v17 ([] : BY) Kt)))) := (hC _ _ _).trans (by kernel_rfl)
theorem l2_127_eq (hC : Cv C) (k j0 : Nat) (v0 : BY) (v2 v3 v4 v12 v14 v16 v19 v20 : Int) (Kt : Tk127) : l2_127 C N92 N123 N124 N126 N178 N179 N180 k (j0 + 1) v0 v2 v3 v4 v12 v14 v16 v19 v20 Kt =
 (bif (decide (v20 < (v0.length : Int))) then ((at? v0 v20).bind fun b8 => (N92 (b8.toNat : Int) fun r9 => (bif r9 then (l2_127 C N92 N123 N124 N126 N178 N179 N180 k j0 v0 v2 v3 v4 v12 v14 v16 v19 (i64.wrap (v20 + 1)) Kt) else ((cut v0 (some v19) (some v20)).bind fun s10 => (p3_127 C N92 N123 N124 N126 N178 N179 N180 k v0 v2 v3 v4 v12 v14 v16 v20 s10 Kt))))) else ((cut v0 (some v19) (some v20)).bind fun s11 => (p3_127 C N92 N123 N124 N126 N178 N179 N180 k v0 v2 v3 v4 v12 v14 v16 v20 s11 Kt))) := (hC _ _ _).trans (by kernel_rfl)
theorem p3_127_eq (hC : Cv C) (k : Nat) (v0 : BY) (v2 v3 v4 v12 v14 v16 v17 : Int) (v18 : BY) (Kt : Tk127) : p3_127 C N92 N123 N124 N126 N178 N179 N180 k v0 v2 v3 v4 v12 v14 v16 v17 v18 Kt =
 (l4_127 C N92 N123 N124 N126 N178 N179 N180 k k v0 v2 v3 v4 v12 v14 v16 v17 v18 Kt) := (hC _ _ _).trans (by kernel_rfl)
theorem l4_127_eq (hC : Cv C) (k j0 : Nat) (v0 : BY) (v2 v3 v4 v12 v14 v16 v17 : Int) (v18 : BY) (Kt : Tk127) : l4_127 C N92 N123 N124 N126 N178 N179 N180 k (j0 + 1) v0 v2 v3 v4 v12 v14 v16 v17 v18 Kt =
 (bif (decide ((v18.length : Int) > 0)) then ((at? v18 (i64.wrap ((v18.length : Int) - 1))).bind fun b12 => (bif ((b12.toNat : Int) == 48) then ((cut v18 none (some (i64.wrap ((v18.length : Int) - 1)))).bind fun s13 => (l4_127 C N92 N123 N124 N126 N178 N179 N180 k j0 v0 v2 v3 v4 v12 v14 v16 v17 s13 Kt)) else (N178 v0 v17 fun r14 r15 => (bif (!r15) then (Kt ([] : BY) false) else (N179 v2 v3 v4 (i64.wrap ((i64.wrap ((i64.wrap ((60 : Int) * v12)) + v14)) - r14)) fun r16 r17 => (bif (!r17) then (Kt ([] : BY) false) else ((cat r16 ([58] : BY)).bind fun s18 => (N180 v16 fun r19 => ((cat s18 r19).bind fun s20 => (bif (!(v18 == ([] : BY))) then ((cat s20 ([46] : BY)).bind fun s21 => ((cat s21 v18).bind fun s22 => (p5_127 C N92 N123 N124 N126 N178 N179 N180 k s22 Kt))) else (p5_127 C N92 N123 N124 N126 N178 N179 N180 k s20 Kt))))))))))) else (N178 v0 v17 fun r23 r24 => (bif (!r24) then (Kt ([] : BY) false) else (N179 v2 v3 v4 (i64.wrap ((i64.wrap ((i64.wrap ((60 : Int) * v12)) + v14)) - r23)) fun r25 r26 => (bif (!r26) then (Kt ([] : BY) false) else ((cat r25 ([58] : BY)).bind fun s27 => (N180 v16 fun r28 => ((cat s27 r28).bind fun s29 => (bif (!(v18 == ([] : BY))) then ((cat s29 ([46] : BY)).bind fun s30 => ((cat s30 v18).bind fun s31 => (p5_127 C N92 N123 N124 N126 N178 N179 N180 k s31 Kt))) else (p5_127 C N92 N123 N124 N126 N178 N179 N180 k s29 Kt)))))))))) := (hC _ _ _).trans (by kernel_rfl)
theorem p5_127_eq (hC : Cv C) (k : Nat) (v23 : BY) (Kt : Tk127) : p5_127 C N92 N123 N124 N126 N178 N179 N180 k v23 Kt =
 ((cat v23 ([90] : BY)).bind fun s32 => (Kt s32 true)) := (hC _ _ _).trans (by kernel_rfl)
end
theorem as127 {G : World → Prop} {ng : Nat} (S : Stays Tryz.prog G ng) {N92 : Ty92} {N123 : Ty123} {N124 : Ty124} {N126 : Ty126} {N178 : Ty178} {N179 : Ty179} {N180 : Ty180} (h92 : FnIs Tryz.prog G ng 92 (adp92 N92)) (h123 : FnIs Tryz.prog G ng 123 (adp123 N123)) (h124 : FnIs Tryz.prog G ng 124 (adp124 N124)) (h126 : FnIs Tryz.prog G ng 126 (adp126 N126)) (h178 : FnIs Tryz.prog G ng 178 (adp178 N178)) (h179 : FnIs Tryz.prog G ng 179 (adp179 N179)) (h180 : FnIs Tryz.prog G ng 180 (adp180 N180)) {A : Ty127} (hA : ∀ (a0 : BY) (a1 : Int) (a2 : Int) (a3 : Int) (a4 : Int) (Kt : Tk127) (r : Out), A a0 a1 a2 a3 a4 Kt = some r → run127 cut0 N92 N123 N124 N126 N178 N179 N180 big a0 a1 a2 a3 a4 Kt = some r) : FnIs Tryz.prog G ng 127 (adp127 A) := by
 refine spec_run cut0_eq S (l := gam127 N92 N123 N124 N126 N178 N179 N180) (by intro p hp; simp only [gam127, List.mem_cons, List.not_mem_nil, or_false] at hp; rcases hp with rfl | rfl | rfl | rfl | rfl | rfl | rfl <;> assumption) Tryz.func127 (by kernel_rfl) (nn := 12) (Lv := lvs127) (k := big) fun rc cs K r h => ?_
 unfold adp127 at h
 split at h
 ·exact ⟨_, hA _ _ _ _ _ _ _ h, fun p hp => by unfold tok127 at hp; split at hp; exact hp; cases hp⟩
 ·cases h
def lvs178 : Nat → Option (List (Nat × Co))
 | 450 => some [(0, .k), (1, .k), (43, .k)]
 | 642 => some [(0, .k), (1, .k), (6, .k), (7, .k), (55, .k)]
 | 962 => some [(0, .k), (1, .k), (6, .k), (9, .k), (73, .k)]
 | 1090 => some [(0, .k), (1, .k), (6, .k), (8, .k)]
 | 1000259 => some [(0, .k), (1, .k)]
 | _ => none
section
variable (C : Nat → Env → (Env → Option Out) → Option Out) (N124 : Ty124)
def gam178 : List (Nat × Fn1) := [(124, adp124 N124)]
def bod178 : Code := Tryz.f178.body.getD .skip
def run178 (k : Nat) (a0 : BY) (a1 : Int) (Kt : Tk178) : Option Out := runK Tryz.prog (lookG (gam178 N124)) 6 lvs178 C k Tryz.f178 none [.s (.str a0), .s (.int .i64 a1)] (tok178 Kt)
def l1_178 (k j0 : Nat) (v0 : BY) (v1 : Int) (Kt : Tk178) : Option Out := C 1000259 ([.c (.s (.str v0)), .c (.s (.int .i64 v1))] ++ us 85) fun e => headK Tryz.prog (lookG (gam178 N124)) 6 lvs178 C k j0 bod178 [1, 1, 0, 0] e (fin Tryz.prog Tryz.f178 none (tok178 Kt))
def p2_178 (k : Nat) (v0 : BY) (v1 : Int) (v43 : Bool) (Kt : Tk178) : Option Out := C 450 ([.c (.s (.str v0)), .c (.s (.int .i64 v1))] ++ us 41 ++ [.c (.s (.bool v43))] ++ us 43) fun e => atK Tryz.prog (lookG (gam178 N124)) 6 lvs178 C k bod178 [1, 1, 1, 0, 1] e (fin Tryz.prog Tryz.f178 none (tok178 Kt))
def p3_178 (k : Nat) (v0 : BY) (v1 v6 v7 : Int) (v55 : Bool) (Kt : Tk178) : Option Out := C 642 ([.c (.s (.str v0)), .c (.s (.int .i64 v1)), .u, .u, .u, .u, .c (.s (.int .i64 v6)), .c (.s (.int .i64 v7))] ++ us 47 ++ [.c (.s (.bool v55))] ++ us 31) fun e => atK Tryz.prog (lookG (gam178 N124)) 6 lvs178 C k bod178 [1, 1, 1, 1, 1, 0, 1] e (fin Tryz.prog Tryz.f178 none (tok178 Kt))
def p4_178 (k : Nat) (v0 : BY) (v1 v6 v9 : Int) (v73 : Bool) (Kt : Tk178) : Option Out := C 962 ([.c (.s (.str v0)), .c (.s (.int .i64 v1)), .u, .u, .u, .u, .c (.s (.int .i64 v6)), .u, .u, .c (.s (.int .i64 v9))] ++ us 63 ++ [.c (.s (.bool v73))] ++ us 13) fun e => atK Tryz.prog (lookG (gam178 N124)) 6 lvs178 C k bod178 [1, 1, 1, 1, 1, 1, 1, 0, 1, 0, 1, 0, 1] e (fin Tryz.prog Tryz.f178 none (tok178 Kt))
def p5_178 (k : Nat) (v0 : BY) (v1 v6 v8 : Int) (Kt : Tk178) : Option Out := C 1090 ([.c (.s (.str v0)), .c (.s (.int .i64 v1)), .u, .u, .u, .u, .c (.s (.int .i64 v6)), .u, .c (.s (.int .i64 v8))] ++ us 78) fun e => atK Tryz.prog (lookG (gam178 N124)) 6 lvs178 C k bod178 [1, 1, 1, 1, 1, 1, 1, 1] e (fin Tryz.prog Tryz.f178 none (tok178 Kt))
theorem run178_eq (k : Nat) (a0 : BY) (a1 : Int) (Kt : Tk178) : run178 C N124 k a0 a1 Kt =
 (bif (a1 == (a0.length : Int)) then (Kt 0 true) else (l1_178 C N124 k k a0 a1 Kt)) := by kernel_rfl
theorem l1_178_eq (hC : Cv C) (k j0 : Nat) (v0 : BY) (v1 : Int) (Kt : Tk178) : l1_178 C N124 k (j0 + 1) v0 v1 Kt =
 (bif (decide (v1 < (v0.length : Int))) then ((at? v0 v1).bind fun b1 => (bif ((b1.toNat : Int) == 32) then (l1_178 C N124 k j0 v0 (i64.wrap (v1 + 1)) Kt) else ((at? v0 v1).bind fun b2 => (bif ((b2.toNat : Int) == 9) then (l1_178 C N124 k j0 v0 (i64.wrap (v1 + 1)) Kt) else (bif ((i64.wrap (v1 + 1)) == (v0.length : Int)) then ((at? v0 v1).bind fun b3 => (p2_178 C N124 k v0 v1 ((b3.toNat : Int) == 90) Kt)) else (p2_178 C N124 k v0 v1 false Kt)))))) else (bif ((i64.wrap (v1 + 1)) == (v0.length : Int)) then ((at? v0 v1).bind fun b4 => (p2_178 C N124 k v0 v1 ((b4.toNat : Int) == 90) Kt)) else (p2_178 C N124 k v0 v1 false Kt))) := (hC _ _ _).trans (by kernel_rfl)
theorem p2_178_eq (hC : Cv C) (k : Nat) (v0 : BY) (v1 : Int) (v43 : Bool) (Kt : Tk178) : p2_178 C N124 k v0 v1 v43 Kt =
 (bif v43 then (Kt 0 true) else (N124 v0 v1 ([43, 45] : BY) 1 2 fun r5 r6 => (bif (decide (r6 < 0)) then (p3_178 C N124 k v0 v1 r5 r6 true Kt) else (p3_178 C N124 k v0 v1 r5 r6 (decide (r5 > 23)) Kt)))) := (hC _ _ _).trans (by kernel_rfl)
theorem p3_178_eq (hC : Cv C) (k : Nat) (v0 : BY) (v1 v6 v7 : Int) (v55 : Bool) (Kt : Tk178) : p3_178 C N124 k v0 v1 v6 v7 v55 Kt =
 (bif v55 then (Kt 0 false) else (bif (decide (v7 < (v0.length : Int))) then (N124 v0 v7 ([58] : BY) 2 2 fun r7 r8 => (bif (r8 != (v0.length : Int)) then (p4_178 C N124 k v0 v1 v6 r7 true Kt) else (p4_178 C N124 k v0 v1 v6 r7 (decide (r7 > 59)) Kt))) else (p5_178 C N124 k v0 v1 v6 0 Kt))) := (hC _ _ _).trans (by kernel_rfl)
theorem p4_178_eq (hC : Cv C) (k : Nat) (v0 : BY) (v1 v6 v9 : Int) (v73 : Bool) (Kt : Tk178) : p4_178 C N124 k v0 v1 v6 v9 v73 Kt =
 (bif v73 then (Kt 0 false) else (p5_178 C N124 k v0 v1 v6 v9 Kt)) := (hC _ _ _).trans (by kernel_rfl)
theorem p5_178_eq (hC : Cv C) (k : Nat) (v0 : BY) (v1 v6 v8 : Int) (Kt : Tk178) : p5_178 C N124 k v0 v1 v6 v8 Kt =
 ((at? v0 v1).bind fun b9 => (bif ((b9.toNat : Int) == 45) then (Kt (i64.wrap ((i64.wrap (((-60) : Int) * v6)) - v8)) true) else (Kt (i64.wrap ((i64.wrap ((60 : Int) * v6)) + v8)) true))) := (hC _ _ _).trans (by kernel_rfl)
end
theorem as178 {G : World → Prop} {ng : Nat} (S : Stays Tryz.prog G ng) {N124 : Ty124} (h124 : FnIs Tryz.prog G ng 124 (adp124 N124)) {A : Ty178} (hA : ∀ (a0 : BY) (a1 : Int) (Kt : Tk178) (r : Out), A a0 a1 Kt = some r → run178 cut0 N124 big a0 a1 Kt = some r) : FnIs Tryz.prog G ng 178 (adp178 A) := by
 refine spec_run cut0_eq S (l := gam178 N124) (by intro p hp; simp only [gam178, List.mem_cons, List.not_mem_nil, or_false] at hp; rcases hp with rfl <;> assumption) Tryz.func178 (by kernel_rfl) (nn := 6) (Lv := lvs178) (k := big) fun rc cs K r h => ?_
 unfold adp178 at h
 split at h
 ·exact ⟨_, hA _ _ _ _ h, fun p hp => by unfold tok178 at hp; split at hp; exact hp; cases hp⟩
 ·cases h
def lvs179 : Nat → Option (List (Nat × Co))
 | 258 => some [(0, .k), (1, .k), (2, .k), (3, .k)]
 | 386 => some [(0, .k), (1, .k), (2, .k), (3, .k)]
 | 640 => some [(0, .k), (1, .k), (3, .k)]
 | 1026 => some [(0, .k), (1, .k), (2, .k), (3, .k)]
 | 1090 => some [(0, .k), (1, .k), (2, .k), (3, .k), (49, .k)]
 | _ => none
section
variable (C : Nat → Env → (Env → Option Out) → Option Out) (N125 : Ty125) (N180 : Ty180) (N219 : Ty219)
def gam179 : List (Nat × Fn1) := [(125, adp125 N125), (180, adp180 N180), (219, adp219 N219)]
def bod179 : Code := Tryz.f179.body.getD .skip
def run179 (k : Nat) (a0 a1 a2 a3 : Int) (Kt : Tk179) : Option Out := runK Tryz.prog (lookG (gam179 N125 N180 N219)) 10 lvs179 C k Tryz.f179 none [.s (.int .i64 a0), .s (.int .i64 a1), .s (.int .i64 a2), .s (.int .i64 a3)] (tok179 Kt)
def p1_179 (k : Nat) (v0 v1 v2 v3 : Int) (Kt : Tk179) : Option Out := C 258 ([.c (.s (.int .i64 v0)), .c (.s (.int .i64 v1)), .c (.s (.int .i64 v2)), .c (.s (.int .i64 v3))] ++ us 60) fun e => atK Tryz.prog (lookG (gam179 N125 N180 N219)) 10 lvs179 C k bod179 [1, 1] e (fin Tryz.prog Tryz.f179 none (tok179 Kt))
def p2_179 (k : Nat) (v0 v1 v2 v3 : Int) (Kt : Tk179) : Option Out := C 386 ([.c (.s (.int .i64 v0)), .c (.s (.int .i64 v1)), .c (.s (.int .i64 v2)), .c (.s (.int .i64 v3))] ++ us 60) fun e => atK Tryz.prog (lookG (gam179 N125 N180 N219)) 10 lvs179 C k bod179 [1, 1, 1] e (fin Tryz.prog Tryz.f179 none (tok179 Kt))
def p3_179 (k : Nat) (v0 v1 v3 : Int) (Kt : Tk179) : Option Out := C 640 ([.c (.s (.int .i64 v0)), .c (.s (.int .i64 v1)), .u, .c (.s (.int .i64 v3))] ++ us 60) fun e => atK Tryz.prog (lookG (gam179 N125 N180 N219)) 10 lvs179 C k bod179 [1, 1, 1, 0, 1, 0, 1, 1] e (fin Tryz.prog Tryz.f179 none (tok179 Kt))
def p4_179 (k : Nat) (v0 v1 v2 v3 : Int) (Kt : Tk179) : Option Out := C 1026 ([.c (.s (.int .i64 v0)), .c (.s (.int .i64 v1)), .c (.s (.int .i64 v2)), .c (.s (.int .i64 v3))] ++ us 60) fun e => atK Tryz.prog (lookG (gam179 N125 N180 N219)) 10 lvs179 C k bod179 [1, 1, 1, 1] e (fin Tryz.prog Tryz.f179 none (tok179 Kt))
def p5_179 (k : Nat) (v0 v1 v2 v3 : Int) (v49 : Bool) (Kt : Tk179) : Option Out := C 1090 ([.c (.s (.int .i64 v0)), .c (.s (.int .i64 v1)), .c (.s (.int .i64 v2)), .c (.s (.int .i64 v3))] ++ us 45 ++ [.c (.s (.bool v49))] ++ us 14) fun e => atK Tryz.prog (lookG (gam179 N125 N180 N219)) 10 lvs179 C k bod179 [1, 1, 1, 1, 0, 1] e (fin Tryz.prog Tryz.f179 none (tok179 Kt))
theorem run179_eq (k : Nat) (a0 a1 a2 a3 : Int) (Kt : Tk179) : run179 C N125 N180 N219 k a0 a1 a2 a3 Kt =
 (bif (decide (a3 < 0)) then (p1_179 C N125 N180 N219 k a0 a1 (i64.wrap (a2 - 1)) (i64.wrap (a3 + 1440)) Kt) else (p1_179 C N125 N180 N219 k a0 a1 a2 a3 Kt)) := by kernel_rfl
theorem p1_179_eq (hC : Cv C) (k : Nat) (v0 v1 v2 v3 : Int) (Kt : Tk179) : p1_179 C N125 N180 N219 k v0 v1 v2 v3 Kt =
 (bif (decide (v3 ≥ 1440)) then (p2_179 C N125 N180 N219 k v0 v1 (i64.wrap (v2 + 1)) (i64.wrap (v3 - 1440)) Kt) else (p2_179 C N125 N180 N219 k v0 v1 v2 v3 Kt)) := (hC _ _ _).trans (by kernel_rfl)
theorem p2_179_eq (hC : Cv C) (k : Nat) (v0 v1 v2 v3 : Int) (Kt : Tk179) : p2_179 C N125 N180 N219 k v0 v1 v2 v3 Kt =
 (bif (decide (v2 < 1)) then (bif (decide ((i64.wrap (v1 - 1)) < 1)) then (p3_179 C N125 N180 N219 k (i64.wrap (v0 - 1)) 12 v3 Kt) else (p3_179 C N125 N180 N219 k v0 (i64.wrap (v1 - 1)) v3 Kt)) else (N125 v0 v1 fun r1 => (bif (decide (v2 > r1)) then (bif (decide ((i64.wrap (v1 + 1)) > 12)) then (p4_179 C N125 N180 N219 k (i64.wrap (v0 + 1)) 1 1 v3 Kt) else (p4_179 C N125 N180 N219 k v0 (i64.wrap (v1 + 1)) 1 v3 Kt)) else (p4_179 C N125 N180 N219 k v0 v1 v2 v3 Kt)))) := (hC _ _ _).trans (by kernel_rfl)
theorem p3_179_eq (hC : Cv C) (k : Nat) (v0 v1 v3 : Int) (Kt : Tk179) : p3_179 C N125 N180 N219 k v0 v1 v3 Kt =
 (N125 v0 v1 fun r2 => (p4_179 C N125 N180 N219 k v0 v1 r2 v3 Kt)) := (hC _ _ _).trans (by kernel_rfl)
theorem p4_179_eq (hC : Cv C) (k : Nat) (v0 v1 v2 v3 : Int) (Kt : Tk179) : p4_179 C N125 N180 N219 k v0 v1 v2 v3 Kt =
 (bif (decide (v0 < 0)) then (p5_179 C N125 N180 N219 k v0 v1 v2 v3 true Kt) else (p5_179 C N125 N180 N219 k v0 v1 v2 v3 (decide (v0 > 9999)) Kt)) := (hC _ _ _).trans (by kernel_rfl)
theorem p5_179_eq (hC : Cv C) (k : Nat) (v0 v1 v2 v3 : Int) (v49 : Bool) (Kt : Tk179) : p5_179 C N125 N180 N219 k v0 v1 v2 v3 v49 Kt =
 (bif v49 then (Kt ([] : BY) false) else (N219 v0 v1 v2 fun r3 => ((cat r3 ([84] : BY)).bind fun s4 => (N180 (i64.wrap (v3.tdiv 60)) fun r5 => ((cat s4 r5).bind fun s6 => ((cat s6 ([58] : BY)).bind fun s7 => (N180 (v3.tmod 60) fun r8 => ((cat s7 r8).bind fun s9 => (Kt s9 true))))))))) := (hC _ _ _).trans (by kernel_rfl)
end
theorem as179 {G : World → Prop} {ng : Nat} (S : Stays Tryz.prog G ng) {N125 : Ty125} {N180 : Ty180} {N219 : Ty219} (h125 : FnIs Tryz.prog G ng 125 (adp125 N125)) (h180 : FnIs Tryz.prog G ng 180 (adp180 N180)) (h219 : FnIs Tryz.prog G ng 219 (adp219 N219)) {A : Ty179} (hA : ∀ (a0 : Int) (a1 : Int) (a2 : Int) (a3 : Int) (Kt : Tk179) (r : Out), A a0 a1 a2 a3 Kt = some r → run179 cut0 N125 N180 N219 big a0 a1 a2 a3 Kt = some r) : FnIs Tryz.prog G ng 179 (adp179 A) := by
 refine spec_run cut0_eq S (l := gam179 N125 N180 N219) (by intro p hp; simp only [gam179, List.mem_cons, List.not_mem_nil, or_false] at hp; rcases hp with rfl | rfl | rfl <;> assumption) Tryz.func179 (by kernel_rfl) (nn := 10) (Lv := lvs179) (k := big) fun rc cs K r h => ?_
 unfold adp179 at h
 split at h
 ·exact ⟨_, hA _ _ _ _ _ _ h, fun p hp => by unfold tok179 at hp; split at hp; exact hp; cases hp⟩
 ·cases h
def lvs180 : Nat → Option (List (Nat × Co))
 | _ => none
section
variable (C : Nat → Env → (Env → Option Out) → Option Out) (N20 : Ty20)
def gam180 : List (Nat × Fn1) := [(20, adp20 N20)]
def run180 (k : Nat) (a0 : Int) (Kt : Tk180) : Option Out := runK Tryz.prog (lookG (gam180 N20)) 3 lvs180 C k Tryz.f180 none [.s (.int .i64 a0)] (tok180 Kt)
theorem run180_eq (k : Nat) (a0 : Int) (Kt : Tk180) : run180 C N20 k a0 Kt =
 (N20 (i64.wrap (a0.tdiv 10)) fun r1 => (N20 (a0.tmod 10) fun r2 => ((cat r1 r2).bind fun s3 => (Kt s3)))) := by kernel_rfl
end
theorem as180 {G : World → Prop} {ng : Nat} (S : Stays Tryz.prog G ng) {N20 : Ty20} (h20 : FnIs Tryz.prog G ng 20 (adp20 N20)) {A : Ty180} (hA : ∀ (a0 : Int) (Kt : Tk180) (r : Out), A a0 Kt = some r → run180 cut0 N20 big a0 Kt = some r) : FnIs Tryz.prog G ng 180 (adp180 A) := by
 refine spec_run cut0_eq S (l := gam180 N20) (by intro p hp; simp only [gam180, List.mem_cons, List.not_mem_nil, or_false] at hp; rcases hp with rfl <;> assumption) Tryz.func180 (by kernel_rfl) (nn := 3) (Lv := lvs180) (k := big) fun rc cs K r h => ?_
 unfold adp180 at h
 split at h
 ·exact ⟨_, hA _ _ _ h, fun p hp => by unfold tok180 at hp; split at hp; exact hp; cases hp⟩
 ·cases h
def lvs219 : Nat → Option (List (Nat × Co))
 | _ => none
section
variable (C : Nat → Env → (Env → Option Out) → Option Out) (N180 : Ty180)
def gam219 : List (Nat × Fn1) := [(180, adp180 N180)]
def run219 (k : Nat) (a0 a1 a2 : Int) (Kt : Tk219) : Option Out := runK Tryz.prog (lookG (gam219 N180)) 7 lvs219 C k Tryz.f219 none [.s (.int .i64 a0), .s (.int .i64 a1), .s (.int .i64 a2)] (tok219 Kt)
theorem run219_eq (k : Nat) (a0 a1 a2 : Int) (Kt : Tk219) : run219 C N180 k a0 a1 a2 Kt =
 (N180 (i64.wrap (a0.tdiv 100)) fun r1 => (N180 (a0.tmod 100) fun r2 => ((cat r1 r2).bind fun s3 => ((cat s3 ([45] : BY)).bind fun s4 => (N180 a1 fun r5 => ((cat s4 r5).bind fun s6 => ((cat s6 ([45] : BY)).bind fun s7 => (N180 a2 fun r8 => ((cat s7 r8).bind fun s9 => (Kt s9)))))))))) := by kernel_rfl
end
theorem as219 {G : World → Prop} {ng : Nat} (S : Stays Tryz.prog G ng) {N180 : Ty180} (h180 : FnIs Tryz.prog G ng 180 (adp180 N180)) {A : Ty219} (hA : ∀ (a0 : Int) (a1 : Int) (a2 : Int) (Kt : Tk219) (r : Out), A a0 a1 a2 Kt = some r → run219 cut0 N180 big a0 a1 a2 Kt = some r) : FnIs Tryz.prog G ng 219 (adp219 A) := by
 refine spec_run cut0_eq S (l := gam219 N180) (by intro p hp; simp only [gam219, List.mem_cons, List.not_mem_nil, or_false] at hp; rcases hp with rfl <;> assumption) Tryz.func219 (by kernel_rfl) (nn := 7) (Lv := lvs219) (k := big) fun rc cs K r h => ?_
 unfold adp219 at h
 split at h
 ·exact ⟨_, hA _ _ _ _ _ h, fun p hp => by unfold tok219 at hp; split at hp; exact hp; cases hp⟩
 ·cases h
def lvs92 : Nat → Option (List (Nat × Co))
 | _ => none
section
variable (C : Nat → Env → (Env → Option Out) → Option Out)
def gam92 : List (Nat × Fn1) := []
def run92 (k : Nat) (a0 : Int) (Kt : Tk92) : Option Out := runK Tryz.prog (lookG (gam92)) 3 lvs92 C k Tryz.f92 none [.s (.int .u8 a0)] (tok92 Kt)
theorem run92_eq (k : Nat) (a0 : Int) (Kt : Tk92) : run92 C k a0 Kt =
 (bif (decide (a0 ≥ 48)) then (Kt (decide (a0 ≤ 57))) else (Kt false)) := by kernel_rfl
end
theorem as92 {G : World → Prop} {ng : Nat} (S : Stays Tryz.prog G ng) {A : Ty92} (hA : ∀ (a0 : Int) (Kt : Tk92) (r : Out), A a0 Kt = some r → run92 cut0 big a0 Kt = some r) : FnIs Tryz.prog G ng 92 (adp92 A) := by
 refine spec_run cut0_eq S (l := gam92) (by intro p hp; cases hp) Tryz.func92 (by kernel_rfl) (nn := 3) (Lv := lvs92) (k := big) fun rc cs K r h => ?_
 unfold adp92 at h
 split at h
 ·exact ⟨_, hA _ _ _ h, fun p hp => by unfold tok92 at hp; split at hp; exact hp; cases hp⟩
 ·cases h
def lvs20 : Nat → Option (List (Nat × Co))
 | 1000195 => some [(0, .k), (3, .k)]
 | _ => none
section
variable (C : Nat → Env → (Env → Option Out) → Option Out)
def gam20 : List (Nat × Fn1) := []
def bod20 : Code := Tryz.f20.body.getD .skip
def run20 (k : Nat) (a0 : Int) (Kt : Tk20) : Option Out := runK Tryz.prog (lookG (gam20)) 4 lvs20 C k Tryz.f20 none [.s (.int .i64 a0)] (tok20 Kt)
def l1_20 (k j0 : Nat) (v0 : Int) (v3 : BY) (Kt : Tk20) : Option Out := C 1000195 ([.c (.s (.int .i64 v0)), .u, .u, .c (.s (.str v3))] ++ us 13) fun e => headK Tryz.prog (lookG (gam20)) 4 lvs20 C k j0 bod20 [1, 1, 0] e (fin Tryz.prog Tryz.f20 none (tok20 Kt))
theorem run20_eq (k : Nat) (a0 : Int) (Kt : Tk20) : run20 C k a0 Kt =
 (l1_20 C k k a0 ([] : BY) Kt) := by kernel_rfl
theorem l1_20_eq (hC : Cv C) (k j0 : Nat) (v0 : Int) (v3 : BY) (Kt : Tk20) : l1_20 C k (j0 + 1) v0 v3 Kt =
 ((cat (([(u8.wrap (i64.wrap ((48 : Int) + (v0.tmod 10))))] : List Int).map fun n => UInt8.ofNat n.toNat) v3).bind fun s1 => (bif ((i64.wrap (v0.tdiv 10)) == 0) then (Kt s1) else (l1_20 C k j0 (i64.wrap (v0.tdiv 10)) s1 Kt))) := (hC _ _ _).trans (by kernel_rfl)
end
theorem as20 {G : World → Prop} {ng : Nat} (S : Stays Tryz.prog G ng) {A : Ty20} (hA : ∀ (a0 : Int) (Kt : Tk20) (r : Out), A a0 Kt = some r → run20 cut0 big a0 Kt = some r) : FnIs Tryz.prog G ng 20 (adp20 A) := by
 refine spec_run cut0_eq S (l := gam20) (by intro p hp; cases hp) Tryz.func20 (by kernel_rfl) (nn := 4) (Lv := lvs20) (k := big) fun rc cs K r h => ?_
 unfold adp20 at h
 split at h
 ·exact ⟨_, hA _ _ _ h, fun p hp => by unfold tok20 at hp; split at hp; exact hp; cases hp⟩
 ·cases h
end
end Go.Proofs.YtffmgholjdfcnaaGreatDoor
set_option maxRecDepth 100000
set_option linter.unusedVariables false
namespace Go.Proofs.YtffmgholjdfcnaaGreatDoor
open Go Go.Proofs AM
open Go.IntKind (i64 u8)
noncomputable section
def lvs40 : Nat → Option (List (Nat × Co))
 | 1730 => some [(0, .k), (6, .k)]
 | 1858 => some [(6, .k)]
 | 1921 => some []
 | 5000129 => some [(0, .k), (6, .k), (7, .k), (8, .k)]
 | 5000193 => some [(0, .k), (6, .k), (7, .k), (17, .k)]
 | 5000257 => some [(6, .k), (7, .k), (26, .k)]
 | 5000321 => some [(6, .k), (30, .k)]
 | _ => none
section
variable (C : Nat → Env → (Env → Option Out) → Option Out)
def gam40 : List (Nat × Fn1) := []
def bod40 : Code := Tryz.f40.body.getD .skip
def run40 (k : Nat) (a0 : Int) (a1 : BY) (Kt : Tk40) : Option Out := runK Tryz.prog (lookG (gam40)) 7 lvs40 C k Tryz.f40 none [.s (.int .i64 a0), .s (.str a1)] (tok40 Kt)
def p1_40 (k : Nat) (v0 : Int) (v6 : Bool) (v7 : BY) (v8 : Bool) (Kt : Tk40) : Option Out := C 5000129 ([.c (.s (.int .i64 v0)), .u, .u, .u, .u, .u, .c (.s (.bool v6)), .c (.s (.str v7)), .c (.s (.bool v8))] ++ us 33) fun e => atK Tryz.prog (lookG (gam40)) 7 lvs40 C k bod40 [1, 1, 0, 1, 0, 0, 0, 0, 0, 0, 0, 0, 0, 0, 0, 1] e (fin Tryz.prog Tryz.f40 none (tok40 Kt))
def p2_40 (k : Nat) (v0 : Int) (v6 : Bool) (Kt : Tk40) : Option Out := C 1730 ([.c (.s (.int .i64 v0)), .u, .u, .u, .u, .u, .c (.s (.bool v6))] ++ us 35) fun e => atK Tryz.prog (lookG (gam40)) 7 lvs40 C k bod40 [1, 1, 0, 1, 0, 0, 0, 0, 0, 1] e (fin Tryz.prog Tryz.f40 none (tok40 Kt))
def p3_40 (k : Nat) (v0 : Int) (v6 : Bool) (v7 : BY) (v17 : Bool) (Kt : Tk40) : Option Out := C 5000193 ([.c (.s (.int .i64 v0)), .u, .u, .u, .u, .u, .c (.s (.bool v6)), .c (.s (.str v7))] ++ us 9 ++ [.c (.s (.bool v17))] ++ us 24) fun e => atK Tryz.prog (lookG (gam40)) 7 lvs40 C k bod40 [1, 1, 0, 1, 0, 0, 0, 0, 0, 0, 0, 0, 0, 0, 1, 0, 1] e (fin Tryz.prog Tryz.f40 none (tok40 Kt))
def p4_40 (k : Nat) (v6 : Bool) (v7 : BY) (v26 : Bool) (Kt : Tk40) : Option Out := C 5000257 (us 6 ++ [.c (.s (.bool v6)), .c (.s (.str v7))] ++ us 18 ++ [.c (.s (.bool v26))] ++ us 15) fun e => atK Tryz.prog (lookG (gam40)) 7 lvs40 C k bod40 [1, 1, 0, 1, 0, 0, 0, 0, 0, 0, 0, 0, 0, 0, 1, 1, 0, 1] e (fin Tryz.prog Tryz.f40 none (tok40 Kt))
def p5_40 (k : Nat) (v6 : Bool) (Kt : Tk40) : Option Out := C 1858 (us 6 ++ [.c (.s (.bool v6))] ++ us 35) fun e => atK Tryz.prog (lookG (gam40)) 7 lvs40 C k bod40 [1, 1, 0, 1, 0, 1] e (fin Tryz.prog Tryz.f40 none (tok40 Kt))
def p6_40 (k : Nat) (v6 v30 : Bool) (Kt : Tk40) : Option Out := C 5000321 (us 6 ++ [.c (.s (.bool v6))] ++ us 23 ++ [.c (.s (.bool v30))] ++ us 11) fun e => atK Tryz.prog (lookG (gam40)) 7 lvs40 C k bod40 [1, 1, 0, 1, 0, 0, 0, 0, 0, 0, 0, 0, 0, 0, 1, 1, 1, 1] e (fin Tryz.prog Tryz.f40 none (tok40 Kt))
def p7_40 (k : Nat) (Kt : Tk40) : Option Out := C 1921 (us 42) fun e => atK Tryz.prog (lookG (gam40)) 7 lvs40 C k bod40 [1, 1, 1] e (fin Tryz.prog Tryz.f40 none (tok40 Kt))
theorem run40_eq (k : Nat) (a0 : Int) (a1 : BY) (Kt : Tk40) : run40 C k a0 a1 Kt =
 (bif (a1 == ([121] : BY)) then (p1_40 C k a0 false a1 (a1 == ([121] : BY)) Kt) else (bif (a1 == ([89] : BY)) then (p1_40 C k a0 false a1 (a1 == ([89] : BY)) Kt) else (bif (a1 == ([121, 101, 115] : BY)) then (p1_40 C k a0 false a1 (a1 == ([121, 101, 115] : BY)) Kt) else (bif (a1 == ([89, 101, 115] : BY)) then (p1_40 C k a0 false a1 (a1 == ([89, 101, 115] : BY)) Kt) else (bif (a1 == ([89, 69, 83] : BY)) then (p1_40 C k a0 false a1 (a1 == ([89, 69, 83] : BY)) Kt) else (bif (a1 == ([111, 110] : BY)) then (p1_40 C k a0 false a1 (a1 == ([111, 110] : BY)) Kt) else (bif (a1 == ([79, 110] : BY)) then (p1_40 C k a0 false a1 (a1 == ([79, 110] : BY)) Kt) else (p1_40 C k a0 false a1 (a1 == ([79, 78] : BY)) Kt)))))))) := by kernel_rfl
theorem p1_40_eq (hC : Cv C) (k : Nat) (v0 : Int) (v6 : Bool) (v7 : BY) (v8 : Bool) (Kt : Tk40) : p1_40 C k v0 v6 v7 v8 Kt =
 (bif v8 then (p2_40 C k v0 true Kt) else (bif (v7 == ([110] : BY)) then (p3_40 C k v0 v6 v7 (v7 == ([110] : BY)) Kt) else (bif (v7 == ([78] : BY)) then (p3_40 C k v0 v6 v7 (v7 == ([78] : BY)) Kt) else (bif (v7 == ([110, 111] : BY)) then (p3_40 C k v0 v6 v7 (v7 == ([110, 111] : BY)) Kt) else (bif (v7 == ([78, 111] : BY)) then (p3_40 C k v0 v6 v7 (v7 == ([78, 111] : BY)) Kt) else (bif (v7 == ([78, 79] : BY)) then (p3_40 C k v0 v6 v7 (v7 == ([78, 79] : BY)) Kt) else (bif (v7 == ([111, 102, 102] : BY)) then (p3_40 C k v0 v6 v7 (v7 == ([111, 102, 102] : BY)) Kt) else (bif (v7 == ([79, 102, 102] : BY)) then (p3_40 C k v0 v6 v7 (v7 == ([79, 102, 102] : BY)) Kt) else (p3_40 C k v0 v6 v7 (v7 == ([79, 70, 70] : BY)) Kt))))))))) := (hC _ _ _).trans (by kernel_rfl)
theorem p2_40_eq (hC : Cv C) (k : Nat) (v0 : Int) (v6 : Bool) (Kt : Tk40) : p2_40 C k v0 v6 Kt =
 (bif v6 then (Kt (v0 == 11) (v0 == 11)) else (Kt false (v0 == 11))) := (hC _ _ _).trans (by kernel_rfl)
theorem p3_40_eq (hC : Cv C) (k : Nat) (v0 : Int) (v6 : Bool) (v7 : BY) (v17 : Bool) (Kt : Tk40) : p3_40 C k v0 v6 v7 v17 Kt =
 (bif v17 then (p2_40 C k v0 v6 Kt) else (bif (v7 == ([116, 114, 117, 101] : BY)) then (p4_40 C k v6 v7 (v7 == ([116, 114, 117, 101] : BY)) Kt) else (bif (v7 == ([84, 114, 117, 101] : BY)) then (p4_40 C k v6 v7 (v7 == ([84, 114, 117, 101] : BY)) Kt) else (p4_40 C k v6 v7 (v7 == ([84, 82, 85, 69] : BY)) Kt)))) := (hC _ _ _).trans (by kernel_rfl)
theorem p4_40_eq (hC : Cv C) (k : Nat) (v6 : Bool) (v7 : BY) (v26 : Bool) (Kt : Tk40) : p4_40 C k v6 v7 v26 Kt =
 (bif v26 then (p5_40 C k true Kt) else (bif (v7 == ([102, 97, 108, 115, 101] : BY)) then (p6_40 C k v6 (v7 == ([102, 97, 108, 115, 101] : BY)) Kt) else (bif (v7 == ([70, 97, 108, 115, 101] : BY)) then (p6_40 C k v6 (v7 == ([70, 97, 108, 115, 101] : BY)) Kt) else (p6_40 C k v6 (v7 == ([70, 65, 76, 83, 69] : BY)) Kt)))) := (hC _ _ _).trans (by kernel_rfl)
theorem p5_40_eq (hC : Cv C) (k : Nat) (v6 : Bool) (Kt : Tk40) : p5_40 C k v6 Kt =
 (Kt v6 true) := (hC _ _ _).trans (by kernel_rfl)
theorem p6_40_eq (hC : Cv C) (k : Nat) (v6 v30 : Bool) (Kt : Tk40) : p6_40 C k v6 v30 Kt =
 (bif v30 then (p5_40 C k v6 Kt) else (p7_40 C k Kt)) := (hC _ _ _).trans (by kernel_rfl)
theorem p7_40_eq (hC : Cv C) (k : Nat) (Kt : Tk40) : p7_40 C k Kt =
 (Kt false false) := (hC _ _ _).trans (by kernel_rfl)
end
theorem as40 {G : World → Prop} {ng : Nat} (S : Stays Tryz.prog G ng) {A : Ty40} (hA : ∀ (a0 : Int) (a1 : BY) (Kt : Tk40) (r : Out), A a0 a1 Kt = some r → run40 cut0 big a0 a1 Kt = some r) : FnIs Tryz.prog G ng 40 (adp40 A) := by
 refine spec_run cut0_eq S (l := gam40) (by intro p hp; cases hp) Tryz.func40 (by kernel_rfl) (nn := 7) (Lv := lvs40) (k := big) fun rc cs K r h => ?_
 unfold adp40 at h
 split at h
 ·exact ⟨_, hA _ _ _ _ h, fun p hp => by unfold tok40 at hp; split at hp; exact hp; cases hp⟩
 ·cases h
def lvs42 : Nat → Option (List (Nat × Co))
 | 514 => some [(4, .k)]
 | _ => none
section
variable (C : Nat → Env → (Env → Option Out) → Option Out)
def gam42 : List (Nat × Fn1) := []
def bod42 : Code := Tryz.f42.body.getD .skip
def run42 (k : Nat) (a0 : BY) (Kt : Tk42) : Option Out := runK Tryz.prog (lookG (gam42)) 3 lvs42 C k Tryz.f42 none [.s (.str a0)] (tok42 Kt)
def p1_42 (k : Nat) (v4 : Bool) (Kt : Tk42) : Option Out := C 514 [.u, .u, .u, .u, .c (.s (.bool v4)), .u, .u, .u, .u, .u] fun e => atK Tryz.prog (lookG (gam42)) 3 lvs42 C k bod42 [1, 0, 1, 0, 1] e (fin Tryz.prog Tryz.f42 none (tok42 Kt))
theorem run42_eq (k : Nat) (a0 : BY) (Kt : Tk42) : run42 C k a0 Kt =
 (bif (a0 == ([] : BY)) then (p1_42 C k (a0 == ([] : BY)) Kt) else (bif (a0 == ([126] : BY)) then (p1_42 C k (a0 == ([126] : BY)) Kt) else (bif (a0 == ([110, 117, 108, 108] : BY)) then (p1_42 C k (a0 == ([110, 117, 108, 108] : BY)) Kt) else (bif (a0 == ([78, 117, 108, 108] : BY)) then (p1_42 C k (a0 == ([78, 117, 108, 108] : BY)) Kt) else (p1_42 C k (a0 == ([78, 85, 76, 76] : BY)) Kt))))) := by kernel_rfl
theorem p1_42_eq (hC : Cv C) (k : Nat) (v4 : Bool) (Kt : Tk42) : p1_42 C k v4 Kt =
 (bif v4 then (Kt true) else (Kt false)) := (hC _ _ _).trans (by kernel_rfl)
end
theorem as42 {G : World → Prop} {ng : Nat} (S : Stays Tryz.prog G ng) {A : Ty42} (hA : ∀ (a0 : BY) (Kt : Tk42) (r : Out), A a0 Kt = some r → run42 cut0 big a0 Kt = some r) : FnIs Tryz.prog G ng 42 (adp42 A) := by
 refine spec_run cut0_eq S (l := gam42) (by intro p hp; cases hp) Tryz.func42 (by kernel_rfl) (nn := 3) (Lv := lvs42) (k := big) fun rc cs K r h => ?_
 unfold adp42 at h
 split at h
 ·exact ⟨_, hA _ _ _ h, fun p hp => by unfold tok42 at hp; split at hp; exact hp; cases hp⟩
 ·cases h
def lvs16 : Nat → Option (List (Nat × Co))
 | 450 => some [(1, .k), (4, .k), (6, .k), (7, .k), (8, .k), (25, .k)]
 | _ => none
section
variable (C : Nat → Env → (Env → Option Out) → Option Out) (N40 : Ty40) (N41 : Ty41) (N42 : Ty42) (N43 : Ty43)
def gam16 : List (Nat × Fn1) := [(40, adp40 N40), (41, adp41 N41), (42, adp42 N42), (43, adp43 N43)]
def bod16 : Code := Tryz.f16.body.getD .skip
def run16 (k : Nat) (a0 : Int) (a1 : BY) (Kt : Tk16) : Option Out := runK Tryz.prog (lookG (gam16 N40 N41 N42 N43)) 9 lvs16 C k Tryz.f16 none [.s (.int .i64 a0), .s (.str a1)] (tok16 Kt)
def p1_16 (k : Nat) (v1 v4_0 v4_1 : BY) (v6 : Bool) (v7_0 v7_1 : BY) (v8 v25 : Bool) (Kt : Tk16) : Option Out := C 450 ([.u, .c (.s (.str v1)), .u, .u, .box 27 (.ss [.str v4_0, .str v4_1]), .u, .c (.s (.bool v6)), .box 27 (.ss [.str v7_0, .str v7_1]), .c (.s (.bool v8))] ++ us 16 ++ [.c (.s (.bool v25))] ++ us 14) fun e => atK Tryz.prog (lookG (gam16 N40 N41 N42 N43)) 9 lvs16 C k bod16 [1, 1, 1, 0, 0, 1, 1, 1] e (fin Tryz.prog Tryz.f16 none (tok16 Kt))
theorem run16_eq (k : Nat) (a0 : Int) (a1 : BY) (Kt : Tk16) : run16 C N40 N41 N42 N43 k a0 a1 Kt =
 (N40 a0 a1 fun r1 r2 => (N41 a0 a1 fun r3 r4 r5 => (N42 a1 fun r6 => (bif r6 then (Kt ([116, 97, 103, 58, 121, 97, 109, 108, 46, 111, 114, 103, 44, 50, 48, 48, 50, 58, 110, 117, 108, 108] : BY) ([] : BY)) else (bif r2 then (p1_16 C N40 N41 N42 N43 k a1 ([] : BY) ([] : BY) r2 r3 r4 r5 r1 Kt) else (p1_16 C N40 N41 N42 N43 k a1 ([] : BY) ([] : BY) r2 r3 r4 r5 false Kt)))))) := by kernel_rfl
theorem p1_16_eq (hC : Cv C) (k : Nat) (v1 v4_0 v4_1 : BY) (v6 : Bool) (v7_0 v7_1 : BY) (v8 v25 : Bool) (Kt : Tk16) : p1_16 C N40 N41 N42 N43 k v1 v4_0 v4_1 v6 v7_0 v7_1 v8 v25 Kt =
 (bif v25 then (Kt ([116, 97, 103, 58, 121, 97, 109, 108, 46, 111, 114, 103, 44, 50, 48, 48, 50, 58, 98, 111, 111, 108] : BY) ([116, 114, 117, 101] : BY)) else (bif v6 then (Kt ([116, 97, 103, 58, 121, 97, 109, 108, 46, 111, 114, 103, 44, 50, 48, 48, 50, 58, 98, 111, 111, 108] : BY) ([102, 97, 108, 115, 101] : BY)) else (bif v8 then (Kt v7_0 v7_1) else (N43 v1 fun r7 => (Kt ([116, 97, 103, 58, 121, 97, 109, 108, 46, 111, 114, 103, 44, 50, 48, 48, 50, 58, 115, 116, 114] : BY) r7))))) := (hC _ _ _).trans (by kernel_rfl)
end
theorem as16 {G : World → Prop} {ng : Nat} (S : Stays Tryz.prog G ng) {N40 : Ty40} {N41 : Ty41} {N42 : Ty42} {N43 : Ty43} (h40 : FnIs Tryz.prog G ng 40 (adp40 N40)) (h41 : FnIs Tryz.prog G ng 41 (adp41 N41)) (h42 : FnIs Tryz.prog G ng 42 (adp42 N42)) (h43 : FnIs Tryz.prog G ng 43 (adp43 N43)) {A : Ty16} (hA : ∀ (a0 : Int) (a1 : BY) (Kt : Tk16) (r : Out), A a0 a1 Kt = some r → run16 cut0 N40 N41 N42 N43 big a0 a1 Kt = some r) : FnIs Tryz.prog G ng 16 (adp16 A) := by
 refine spec_run cut0_eq S (l := gam16 N40 N41 N42 N43) (by intro p hp; simp only [gam16, List.mem_cons, List.not_mem_nil, or_false] at hp; rcases hp with rfl | rfl | rfl | rfl <;> assumption) Tryz.func16 (by kernel_rfl) (nn := 9) (Lv := lvs16) (k := big) fun rc cs K r h => ?_
 unfold adp16 at h
 split at h
 ·exact ⟨_, hA _ _ _ _ h, fun p hp => by unfold tok16 at hp; split at hp; exact hp; cases hp⟩
 ·cases h
def lvs41 : Nat → Option (List (Nat × Co))
 | 834 => some [(4, .k), (12, .k), (44, .k)]
 | _ => none
section
variable (C : Nat → Env → (Env → Option Out) → Option Out) (N62 : Ty62) (N63 : Ty63) (N64 : Ty64) (N65 : Ty65) (N66 : Ty66) (N67 : Ty67)
def gam41 : List (Nat × Fn1) := [(62, adp62 N62), (63, adp63 N63), (64, adp64 N64), (65, adp65 N65), (66, adp66 N66), (67, adp67 N67)]
def bod41 : Code := Tryz.f41.body.getD .skip
def run41 (k : Nat) (a0 : Int) (a1 : BY) (Kt : Tk41) : Option Out := runK Tryz.prog (lookG (gam41 N62 N63 N64 N65 N66 N67)) 14 lvs41 C k Tryz.f41 none [.s (.int .i64 a0), .s (.str a1)] (tok41 Kt)
def p1_41 (k : Nat) (v4_0 v4_1 v12 : BY) (v44 : Bool) (Kt : Tk41) : Option Out := C 834 ([.u, .u, .u, .u, .box 27 (.ss [.str v4_0, .str v4_1])] ++ us 7 ++ [.c (.s (.str v12))] ++ us 31 ++ [.c (.s (.bool v44)), .u, .u, .u]) fun e => atK Tryz.prog (lookG (gam41 N62 N63 N64 N65 N66 N67)) 14 lvs41 C k bod41 [1, 1, 1, 1, 1, 0, 1, 1] e (fin Tryz.prog Tryz.f41 none (tok41 Kt))
theorem run41_eq (k : Nat) (a0 : Int) (a1 : BY) (Kt : Tk41) : run41 C N62 N63 N64 N65 N66 N67 k a0 a1 Kt =
 (bif (a0 == 11) then (N64 a1 fun r1 r2 => (bif r2 then (Kt ([116, 97, 103, 58, 121, 97, 109, 108, 46, 111, 114, 103, 44, 50, 48, 48, 50, 58, 105, 110, 116] : BY) r1 true) else (N65 a1 fun r3 r4 r5 r6 r7 => (bif r7 then (N66 r3 r4 r5 r6 fun r8 => (Kt ([116, 97, 103, 58, 121, 97, 109, 108, 46, 111, 114, 103, 44, 50, 48, 48, 50, 58, 102, 108, 111, 97, 116] : BY) r8 true)) else (N67 a1 fun r9 r10 => (bif (a0 == 11) then (p1_41 C N62 N63 N64 N65 N66 N67 k ([] : BY) ([] : BY) r9 r10 Kt) else (p1_41 C N62 N63 N64 N65 N66 N67 k ([] : BY) ([] : BY) r9 false Kt))))))) else (N62 a1 fun r11 r12 => (bif r12 then (Kt ([116, 97, 103, 58, 121, 97, 109, 108, 46, 111, 114, 103, 44, 50, 48, 48, 50, 58, 105, 110, 116] : BY) r11 true) else (N63 a1 fun r13 r14 r15 r16 r17 => (bif r17 then (N66 r13 r14 r15 r16 fun r18 => (Kt ([116, 97, 103, 58, 121, 97, 109, 108, 46, 111, 114, 103, 44, 50, 48, 48, 50, 58, 102, 108, 111, 97, 116] : BY) r18 true)) else (N67 a1 fun r19 r20 => (bif (a0 == 11) then (p1_41 C N62 N63 N64 N65 N66 N67 k ([] : BY) ([] : BY) r19 r20 Kt) else (p1_41 C N62 N63 N64 N65 N66 N67 k ([] : BY) ([] : BY) r19 false Kt)))))))) := by kernel_rfl
theorem p1_41_eq (hC : Cv C) (k : Nat) (v4_0 v4_1 v12 : BY) (v44 : Bool) (Kt : Tk41) : p1_41 C N62 N63 N64 N65 N66 N67 k v4_0 v4_1 v12 v44 Kt =
 (bif v44 then (Kt ([116, 97, 103, 58, 121, 97, 109, 108, 46, 111, 114, 103, 44, 50, 48, 48, 50, 58, 116, 105, 109, 101, 115, 116, 97, 109, 112] : BY) v12 true) else (Kt ([] : BY) ([] : BY) false)) := (hC _ _ _).trans (by kernel_rfl)
end
theorem as41 {G : World → Prop} {ng : Nat} (S : Stays Tryz.prog G ng) {N62 : Ty62} {N63 : Ty63} {N64 : Ty64} {N65 : Ty65} {N66 : Ty66} {N67 : Ty67} (h62 : FnIs Tryz.prog G ng 62 (adp62 N62)) (h63 : FnIs Tryz.prog G ng 63 (adp63 N63)) (h64 : FnIs Tryz.prog G ng 64 (adp64 N64)) (h65 : FnIs Tryz.prog G ng 65 (adp65 N65)) (h66 : FnIs Tryz.prog G ng 66 (adp66 N66)) (h67 : FnIs Tryz.prog G ng 67 (adp67 N67)) {A : Ty41} (hA : ∀ (a0 : Int) (a1 : BY) (Kt : Tk41) (r : Out), A a0 a1 Kt = some r → run41 cut0 N62 N63 N64 N65 N66 N67 big a0 a1 Kt = some r) : FnIs Tryz.prog G ng 41 (adp41 A) := by
 refine spec_run cut0_eq S (l := gam41 N62 N63 N64 N65 N66 N67) (by intro p hp; simp only [gam41, List.mem_cons, List.not_mem_nil, or_false] at hp; rcases hp with rfl | rfl | rfl | rfl | rfl | rfl <;> assumption) Tryz.func41 (by kernel_rfl) (nn := 14) (Lv := lvs41) (k := big) fun rc cs K r h => ?_
 unfold adp41 at h
 split at h
 ·exact ⟨_, hA _ _ _ _ h, fun p hp => by unfold tok41 at hp; split at hp; exact hp; cases hp⟩
 ·cases h
section
variable (C : Nat → Env → (Env → Option Out) → Option Out) (N16 : Ty16)
end
def lvs62 : Nat → Option (List (Nat × Co))
 | 577 => some [(4, .k)]
 | _ => none
section
variable (C : Nat → Env → (Env → Option Out) → Option Out) (N93 : Ty93) (N94 : Ty94) (N95 : Ty95) (N96 : Ty96)
def gam62 : List (Nat × Fn1) := [(93, adp93 N93), (94, adp94 N94), (95, adp95 N95), (96, adp96 N96)]
def bod62 : Code := Tryz.f62.body.getD .skip
def run62 (k : Nat) (a0 : BY) (Kt : Tk62) : Option Out := runK Tryz.prog (lookG (gam62 N93 N94 N95 N96)) 7 lvs62 C k Tryz.f62 none [.s (.str a0)] (tok62 Kt)
def p1_62 (k : Nat) (v4 : BY) (Kt : Tk62) : Option Out := C 577 ([.u, .u, .u, .u, .c (.s (.str v4))] ++ us 26) fun e => atK Tryz.prog (lookG (gam62 N93 N94 N95 N96)) 7 lvs62 C k bod62 [1, 1, 1, 1] e (fin Tryz.prog Tryz.f62 none (tok62 Kt))
theorem run62_eq (k : Nat) (a0 : BY) (Kt : Tk62) : run62 C N93 N94 N95 N96 k a0 Kt =
 (N93 a0 fun r1 r2 => (N94 a0 ([48, 111] : BY) fun r3 => (bif r3 then ((cut a0 (some (2 : Int)) none).bind fun s4 => (N95 s4 8 fun r5 => (p1_62 C N93 N94 N95 N96 k r5 Kt))) else (N94 a0 ([48, 120] : BY) fun r6 => (bif r6 then ((cut a0 (some (2 : Int)) none).bind fun s7 => (N95 s7 16 fun r8 => (p1_62 C N93 N94 N95 N96 k r8 Kt))) else (N96 (r1 == ([45] : BY)) r2 fun r9 => (p1_62 C N93 N94 N95 N96 k r9 Kt))))))) := by kernel_rfl
theorem p1_62_eq (hC : Cv C) (k : Nat) (v4 : BY) (Kt : Tk62) : p1_62 C N93 N94 N95 N96 k v4 Kt =
 (Kt v4 (!(v4 == ([] : BY)))) := (hC _ _ _).trans (by kernel_rfl)
end
theorem as62 {G : World → Prop} {ng : Nat} (S : Stays Tryz.prog G ng) {N93 : Ty93} {N94 : Ty94} {N95 : Ty95} {N96 : Ty96} (h93 : FnIs Tryz.prog G ng 93 (adp93 N93)) (h94 : FnIs Tryz.prog G ng 94 (adp94 N94)) (h95 : FnIs Tryz.prog G ng 95 (adp95 N95)) (h96 : FnIs Tryz.prog G ng 96 (adp96 N96)) {A : Ty62} (hA : ∀ (a0 : BY) (Kt : Tk62) (r : Out), A a0 Kt = some r → run62 cut0 N93 N94 N95 N96 big a0 Kt = some r) : FnIs Tryz.prog G ng 62 (adp62 A) := by
 refine spec_run cut0_eq S (l := gam62 N93 N94 N95 N96) (by intro p hp; simp only [gam62, List.mem_cons, List.not_mem_nil, or_false] at hp; rcases hp with rfl | rfl | rfl | rfl <;> assumption) Tryz.func62 (by kernel_rfl) (nn := 7) (Lv := lvs62) (k := big) fun rc cs K r h => ?_
 unfold adp62 at h
 split at h
 ·exact ⟨_, hA _ _ _ h, fun p hp => by unfold tok62 at hp; split at hp; exact hp; cases hp⟩
 ·cases h
def lvs63 : Nat → Option (List (Nat × Co))
 | 3000000 => some [(2, .k)]
 | 3000001 => some [(2, .k), (4, .k), (5, .k), (6, .k), (7, .k), (8, .k)]
 | 3000002 => some [(2, .k), (4, .k), (6, .k), (7, .k), (8, .k)]
 | _ => none
section
variable (C : Nat → Env → (Env → Option Out) → Option Out) (N62 : Ty62) (N93 : Ty93) (N94 : Ty94) (N96 : Ty96) (N97 : Ty97) (N98 : Ty98) (N99 : Ty99)
def gam63 : List (Nat × Fn1) := [(62, adp62 N62), (93, adp93 N93), (94, adp94 N94), (96, adp96 N96), (97, adp97 N97), (98, adp98 N98), (99, adp99 N99)]
def bod63 : Code := Tryz.f63.body.getD .skip
def run63 (k : Nat) (a0 : BY) (Kt : Tk63) : Option Out := runK Tryz.prog (lookG (gam63 N62 N93 N94 N96 N97 N98 N99)) 4 lvs63 C k Tryz.f63 none [.s (.str a0)] (tok63 Kt)
def g1_63 (k j0 : Nat) (v2_0 : Int) (v2_1 : Bool) (v2_2 v2_3 : BY) (Kt : Tk63) : Option Out := C 3000000 ([.u, .u, .box 91 (.ss [.int .i64 v2_0, .bool v2_1, .str v2_2, .str v2_3])] ++ us 79) fun e => jumpK Tryz.prog (lookG (gam63 N62 N93 N94 N96 N97 N98 N99)) 4 lvs63 C k j0 0 bod63 [1] e (fin Tryz.prog Tryz.f63 none (tok63 Kt))
def g2_63 (k j0 : Nat) (v2_0 : Int) (v2_1 : Bool) (v2_2 v2_3 v4 v5 v6 v7 v8 : BY) (Kt : Tk63) : Option Out := C 3000001 ([.u, .u, .box 91 (.ss [.int .i64 v2_0, .bool v2_1, .str v2_2, .str v2_3]), .u, .c (.s (.str v4)), .c (.s (.str v5)), .c (.s (.str v6)), .c (.s (.str v7)), .c (.s (.str v8))] ++ us 73) fun e => jumpK Tryz.prog (lookG (gam63 N62 N93 N94 N96 N97 N98 N99)) 4 lvs63 C k j0 1 bod63 [1] e (fin Tryz.prog Tryz.f63 none (tok63 Kt))
def g3_63 (k j0 : Nat) (v2_0 : Int) (v2_1 : Bool) (v2_2 v2_3 v4 v6 v7 v8 : BY) (Kt : Tk63) : Option Out := C 3000002 ([.u, .u, .box 91 (.ss [.int .i64 v2_0, .bool v2_1, .str v2_2, .str v2_3]), .u, .c (.s (.str v4)), .u, .c (.s (.str v6)), .c (.s (.str v7)), .c (.s (.str v8))] ++ us 73) fun e => jumpK Tryz.prog (lookG (gam63 N62 N93 N94 N96 N97 N98 N99)) 4 lvs63 C k j0 2 bod63 [1] e (fin Tryz.prog Tryz.f63 none (tok63 Kt))
theorem run63_eq (k : Nat) (a0 : BY) (Kt : Tk63) : run63 C N62 N93 N94 N96 N97 N98 N99 k a0 Kt =
 (N93 a0 fun r1 r2 => (N97 r1 r2 fun r3 r4 r5 r6 r7 => (bif r7 then (Kt r3 r4 r5 r6 true) else (N62 a0 fun r8 r9 => (bif r9 then (g1_63 C N62 N93 N94 N96 N97 N98 N99 k k 0 false ([] : BY) ([] : BY) Kt) else (N98 r2 fun r10 r11 => (N94 r11 ([46] : BY) fun r12 => (bif (!r12) then (g2_63 C N62 N93 N94 N96 N97 N98 N99 k k 0 false ([] : BY) ([] : BY) r1 r11 r10 ([] : BY) ([48] : BY) Kt) else ((cut r11 (some (1 : Int)) none).bind fun s13 => (N98 s13 fun r14 r15 => ((cat r10 r14).bind fun s16 => (bif (s16 == ([] : BY)) then (g1_63 C N62 N93 N94 N96 N97 N98 N99 k k 0 false ([] : BY) ([] : BY) Kt) else (bif (r15 == ([] : BY)) then (g3_63 C N62 N93 N94 N96 N97 N98 N99 k k 0 false ([] : BY) ([] : BY) r1 r10 r14 ([48] : BY) Kt) else ((at? r15 0).bind fun b17 => (bif ((b17.toNat : Int) != 101) then ((at? r15 0).bind fun b18 => (bif ((b18.toNat : Int) != 69) then (g1_63 C N62 N93 N94 N96 N97 N98 N99 k k 0 false ([] : BY) ([] : BY) Kt) else ((cut r15 (some (1 : Int)) none).bind fun s19 => (N93 s19 fun r20 r21 => (N96 (r20 == ([45] : BY)) r21 fun r22 => (bif (r22 == ([] : BY)) then (g1_63 C N62 N93 N94 N96 N97 N98 N99 k k 0 false ([] : BY) ([] : BY) Kt) else (N99 (r1 == ([45] : BY)) r10 r14 r22 fun r23 r24 r25 r26 r27 => (Kt r23 r24 r25 r26 r27)))))))) else ((cut r15 (some (1 : Int)) none).bind fun s28 => (N93 s28 fun r29 r30 => (N96 (r29 == ([45] : BY)) r30 fun r31 => (bif (r31 == ([] : BY)) then (g1_63 C N62 N93 N94 N96 N97 N98 N99 k k 0 false ([] : BY) ([] : BY) Kt) else (N99 (r1 == ([45] : BY)) r10 r14 r31 fun r32 r33 r34 r35 r36 => (Kt r32 r33 r34 r35 r36))))))))))))))))))))) := by kernel_rfl
theorem g1_63_eq (hC : Cv C) (k j0 : Nat) (v2_0 : Int) (v2_1 : Bool) (v2_2 v2_3 : BY) (Kt : Tk63) : g1_63 C N62 N93 N94 N96 N97 N98 N99 k (j0 + 1) v2_0 v2_1 v2_2 v2_3 Kt =
 (Kt 0 false ([] : BY) ([] : BY) false) := (hC _ _ _).trans (by kernel_rfl)
theorem g2_63_eq (hC : Cv C) (k j0 : Nat) (v2_0 : Int) (v2_1 : Bool) (v2_2 v2_3 v4 v5 v6 v7 v8 : BY) (Kt : Tk63) : g2_63 C N62 N93 N94 N96 N97 N98 N99 k (j0 + 1) v2_0 v2_1 v2_2 v2_3 v4 v5 v6 v7 v8 Kt =
 ((cat v6 v7).bind fun s37 => (bif (s37 == ([] : BY)) then (g1_63 C N62 N93 N94 N96 N97 N98 N99 k j0 v2_0 v2_1 v2_2 v2_3 Kt) else (bif (v5 == ([] : BY)) then (g3_63 C N62 N93 N94 N96 N97 N98 N99 k j0 v2_0 v2_1 v2_2 v2_3 v4 v6 v7 v8 Kt) else ((at? v5 0).bind fun b38 => (bif ((b38.toNat : Int) != 101) then ((at? v5 0).bind fun b39 => (bif ((b39.toNat : Int) != 69) then (g1_63 C N62 N93 N94 N96 N97 N98 N99 k j0 v2_0 v2_1 v2_2 v2_3 Kt) else ((cut v5 (some (1 : Int)) none).bind fun s40 => (N93 s40 fun r41 r42 => (N96 (r41 == ([45] : BY)) r42 fun r43 => (bif (r43 == ([] : BY)) then (g1_63 C N62 N93 N94 N96 N97 N98 N99 k j0 v2_0 v2_1 v2_2 v2_3 Kt) else (N99 (v4 == ([45] : BY)) v6 v7 r43 fun r44 r45 r46 r47 r48 => (Kt r44 r45 r46 r47 r48)))))))) else ((cut v5 (some (1 : Int)) none).bind fun s49 => (N93 s49 fun r50 r51 => (N96 (r50 == ([45] : BY)) r51 fun r52 => (bif (r52 == ([] : BY)) then (g1_63 C N62 N93 N94 N96 N97 N98 N99 k j0 v2_0 v2_1 v2_2 v2_3 Kt) else (N99 (v4 == ([45] : BY)) v6 v7 r52 fun r53 r54 r55 r56 r57 => (Kt r53 r54 r55 r56 r57))))))))))) := (hC _ _ _).trans (by kernel_rfl)
theorem g3_63_eq (hC : Cv C) (k j0 : Nat) (v2_0 : Int) (v2_1 : Bool) (v2_2 v2_3 v4 v6 v7 v8 : BY) (Kt : Tk63) : g3_63 C N62 N93 N94 N96 N97 N98 N99 k (j0 + 1) v2_0 v2_1 v2_2 v2_3 v4 v6 v7 v8 Kt =
 (N99 (v4 == ([45] : BY)) v6 v7 v8 fun r58 r59 r60 r61 r62 => (Kt r58 r59 r60 r61 r62)) := (hC _ _ _).trans (by kernel_rfl)
end
theorem as63 {G : World → Prop} {ng : Nat} (S : Stays Tryz.prog G ng) {N62 : Ty62} {N93 : Ty93} {N94 : Ty94} {N96 : Ty96} {N97 : Ty97} {N98 : Ty98} {N99 : Ty99} (h62 : FnIs Tryz.prog G ng 62 (adp62 N62)) (h93 : FnIs Tryz.prog G ng 93 (adp93 N93)) (h94 : FnIs Tryz.prog G ng 94 (adp94 N94)) (h96 : FnIs Tryz.prog G ng 96 (adp96 N96)) (h97 : FnIs Tryz.prog G ng 97 (adp97 N97)) (h98 : FnIs Tryz.prog G ng 98 (adp98 N98)) (h99 : FnIs Tryz.prog G ng 99 (adp99 N99)) {A : Ty63} (hA : ∀ (a0 : BY) (Kt : Tk63) (r : Out), A a0 Kt = some r → run63 cut0 N62 N93 N94 N96 N97 N98 N99 big a0 Kt = some r) : FnIs Tryz.prog G ng 63 (adp63 A) := by
 refine spec_run cut0_eq S (l := gam63 N62 N93 N94 N96 N97 N98 N99) (by intro p hp; simp only [gam63, List.mem_cons, List.not_mem_nil, or_false] at hp; rcases hp with rfl | rfl | rfl | rfl | rfl | rfl | rfl <;> assumption) Tryz.func63 (by kernel_rfl) (nn := 4) (Lv := lvs63) (k := big) fun rc cs K r h => ?_
 unfold adp63 at h
 split at h
 ·exact ⟨_, hA _ _ _ h, fun p hp => by unfold tok63 at hp; split at hp; exact hp; cases hp⟩
 ·cases h
def lvs93 : Nat → Option (List (Nat × Co))
 | 194 => some [(0, .k), (15, .k)]
 | _ => none
section
variable (C : Nat → Env → (Env → Option Out) → Option Out)
def gam93 : List (Nat × Fn1) := []
def bod93 : Code := Tryz.f93.body.getD .skip
def run93 (k : Nat) (a0 : BY) (Kt : Tk93) : Option Out := runK Tryz.prog (lookG (gam93)) 4 lvs93 C k Tryz.f93 none [.s (.str a0)] (tok93 Kt)
def p1_93 (k : Nat) (v0 : BY) (v15 : Bool) (Kt : Tk93) : Option Out := C 194 ([.c (.s (.str v0))] ++ us 14 ++ [.c (.s (.bool v15)), .u, .u, .u, .u, .u]) fun e => atK Tryz.prog (lookG (gam93)) 4 lvs93 C k bod93 [1, 0, 1] e (fin Tryz.prog Tryz.f93 none (tok93 Kt))
theorem run93_eq (k : Nat) (a0 : BY) (Kt : Tk93) : run93 C k a0 Kt =
 (bif (!(a0 == ([] : BY))) then ((at? a0 0).bind fun b1 => (bif ((b1.toNat : Int) == 43) then (p1_93 C k a0 true Kt) else ((at? a0 0).bind fun b2 => (p1_93 C k a0 ((b2.toNat : Int) == 45) Kt)))) else (p1_93 C k a0 false Kt)) := by kernel_rfl
theorem p1_93_eq (hC : Cv C) (k : Nat) (v0 : BY) (v15 : Bool) (Kt : Tk93) : p1_93 C k v0 v15 Kt =
 (bif v15 then ((cut v0 none (some (1 : Int))).bind fun s3 => ((cut v0 (some (1 : Int)) none).bind fun s4 => (Kt s3 s4))) else (Kt ([] : BY) v0)) := (hC _ _ _).trans (by kernel_rfl)
end
theorem as93 {G : World → Prop} {ng : Nat} (S : Stays Tryz.prog G ng) {A : Ty93} (hA : ∀ (a0 : BY) (Kt : Tk93) (r : Out), A a0 Kt = some r → run93 cut0 big a0 Kt = some r) : FnIs Tryz.prog G ng 93 (adp93 A) := by
 refine spec_run cut0_eq S (l := gam93) (by intro p hp; cases hp) Tryz.func93 (by kernel_rfl) (nn := 4) (Lv := lvs93) (k := big) fun rc cs K r h => ?_
 unfold adp93 at h
 split at h
 ·exact ⟨_, hA _ _ _ h, fun p hp => by unfold tok93 at hp; split at hp; exact hp; cases hp⟩
 ·cases h
def lvs97 : Nat → Option (List (Nat × Co))
 | 386 => some [(0, .k), (4, .k), (6, .k), (7, .k)]
 | 642 => some [(0, .k), (4, .k), (14, .k)]
 | _ => none
section
variable (C : Nat → Env → (Env → Option Out) → Option Out)
def gam97 : List (Nat × Fn1) := []
def bod97 : Code := Tryz.f97.body.getD .skip
def run97 (k : Nat) (a0 a1 : BY) (Kt : Tk97) : Option Out := runK Tryz.prog (lookG (gam97)) 6 lvs97 C k Tryz.f97 none [.s (.str a0), .s (.str a1)] (tok97 Kt)
def p1_97 (k : Nat) (v0 : BY) (v4_0 : Int) (v4_1 : Bool) (v4_2 v4_3 v6 : BY) (v7 : Bool) (Kt : Tk97) : Option Out := C 386 ([.c (.s (.str v0)), .u, .u, .u, .box 91 (.ss [.int .i64 v4_0, .bool v4_1, .str v4_2, .str v4_3]), .u, .c (.s (.str v6)), .c (.s (.bool v7))] ++ us 14) fun e => atK Tryz.prog (lookG (gam97)) 6 lvs97 C k bod97 [1, 0, 1, 0, 1] e (fin Tryz.prog Tryz.f97 none (tok97 Kt))
def p2_97 (k : Nat) (v0 : BY) (v4_0 : Int) (v4_1 : Bool) (v4_2 v4_3 : BY) (v14 : Bool) (Kt : Tk97) : Option Out := C 642 ([.c (.s (.str v0)), .u, .u, .u, .box 91 (.ss [.int .i64 v4_0, .bool v4_1, .str v4_2, .str v4_3])] ++ us 9 ++ [.c (.s (.bool v14))] ++ us 7) fun e => atK Tryz.prog (lookG (gam97)) 6 lvs97 C k bod97 [1, 0, 1, 0, 1, 1, 1] e (fin Tryz.prog Tryz.f97 none (tok97 Kt))
theorem run97_eq (k : Nat) (a0 a1 : BY) (Kt : Tk97) : run97 C k a0 a1 Kt =
 (bif (a1 == ([46, 105, 110, 102] : BY)) then (p1_97 C k a0 0 false ([] : BY) ([] : BY) a1 (a1 == ([46, 105, 110, 102] : BY)) Kt) else (bif (a1 == ([46, 73, 110, 102] : BY)) then (p1_97 C k a0 0 false ([] : BY) ([] : BY) a1 (a1 == ([46, 73, 110, 102] : BY)) Kt) else (p1_97 C k a0 0 false ([] : BY) ([] : BY) a1 (a1 == ([46, 73, 78, 70] : BY)) Kt))) := by kernel_rfl
theorem p1_97_eq (hC : Cv C) (k : Nat) (v0 : BY) (v4_0 : Int) (v4_1 : Bool) (v4_2 v4_3 v6 : BY) (v7 : Bool) (Kt : Tk97) : p1_97 C k v0 v4_0 v4_1 v4_2 v4_3 v6 v7 Kt =
 (bif v7 then (Kt 1 (v0 == ([45] : BY)) ([] : BY) ([] : BY) true) else (bif (v6 == ([46, 110, 97, 110] : BY)) then (p2_97 C k v0 v4_0 v4_1 v4_2 v4_3 (v6 == ([46, 110, 97, 110] : BY)) Kt) else (bif (v6 == ([46, 78, 97, 78] : BY)) then (p2_97 C k v0 v4_0 v4_1 v4_2 v4_3 (v6 == ([46, 78, 97, 78] : BY)) Kt) else (p2_97 C k v0 v4_0 v4_1 v4_2 v4_3 (v6 == ([46, 78, 65, 78] : BY)) Kt)))) := (hC _ _ _).trans (by kernel_rfl)
theorem p2_97_eq (hC : Cv C) (k : Nat) (v0 : BY) (v4_0 : Int) (v4_1 : Bool) (v4_2 v4_3 : BY) (v14 : Bool) (Kt : Tk97) : p2_97 C k v0 v4_0 v4_1 v4_2 v4_3 v14 Kt =
 (bif v14 then (Kt 2 false ([] : BY) ([] : BY) (v0 == ([] : BY))) else (Kt 0 false ([] : BY) ([] : BY) false)) := (hC _ _ _).trans (by kernel_rfl)
end
theorem as97 {G : World → Prop} {ng : Nat} (S : Stays Tryz.prog G ng) {A : Ty97} (hA : ∀ (a0 : BY) (a1 : BY) (Kt : Tk97) (r : Out), A a0 a1 Kt = some r → run97 cut0 big a0 a1 Kt = some r) : FnIs Tryz.prog G ng 97 (adp97 A) := by
 refine spec_run cut0_eq S (l := gam97) (by intro p hp; cases hp) Tryz.func97 (by kernel_rfl) (nn := 6) (Lv := lvs97) (k := big) fun rc cs K r h => ?_
 unfold adp97 at h
 split at h
 ·exact ⟨_, hA _ _ _ _ h, fun p hp => by unfold tok97 at hp; split at hp; exact hp; cases hp⟩
 ·cases h
def lvs98 : Nat → Option (List (Nat × Co))
 | _ => none
section
variable (C : Nat → Env → (Env → Option Out) → Option Out) (N148 : Ty148)
def gam98 : List (Nat × Fn1) := [(148, adp148 N148)]
def run98 (k : Nat) (a0 : BY) (Kt : Tk98) : Option Out := runK Tryz.prog (lookG (gam98 N148)) 5 lvs98 C k Tryz.f98 none [.s (.str a0)] (tok98 Kt)
theorem run98_eq (k : Nat) (a0 : BY) (Kt : Tk98) : run98 C N148 k a0 Kt =
 (N148 a0 ([48, 49, 50, 51, 52, 53, 54, 55, 56, 57] : BY) fun r1 => ((cut a0 none (some (i64.wrap ((a0.length : Int) - (r1.length : Int))))).bind fun s2 => (Kt s2 r1))) := by kernel_rfl
end
theorem as98 {G : World → Prop} {ng : Nat} (S : Stays Tryz.prog G ng) {N148 : Ty148} (h148 : FnIs Tryz.prog G ng 148 (adp148 N148)) {A : Ty98} (hA : ∀ (a0 : BY) (Kt : Tk98) (r : Out), A a0 Kt = some r → run98 cut0 N148 big a0 Kt = some r) : FnIs Tryz.prog G ng 98 (adp98 A) := by
 refine spec_run cut0_eq S (l := gam98 N148) (by intro p hp; simp only [gam98, List.mem_cons, List.not_mem_nil, or_false] at hp; rcases hp with rfl <;> assumption) Tryz.func98 (by kernel_rfl) (nn := 5) (Lv := lvs98) (k := big) fun rc cs K r h => ?_
 unfold adp98 at h
 split at h
 ·exact ⟨_, hA _ _ _ h, fun p hp => by unfold tok98 at hp; split at hp; exact hp; cases hp⟩
 ·cases h
end
end Go.Proofs.YtffmgholjdfcnaaGreatDoor
set_option maxRecDepth 100000
set_option linter.unusedVariables false
namespace Go.Proofs.YtffmgholjdfcnaaGreatDoor
open Go Go.Proofs AM
open Go.IntKind (i64 u8)
noncomputable section
def lvs95 : Nat → Option (List (Nat × Co))
 | 194 => some [(0, .k), (1, .k), (21, .k)]
 | 1000386 => some [(0, .k), (1, .k), (5, .k), (23, .k), (24, .k)]
 | _ => none
section
variable (C : Nat → Env → (Env → Option Out) → Option Out) (N145 : Ty145) (N146 : Ty146)
def gam95 : List (Nat × Fn1) := [(145, adp145 N145), (146, adp146 N146)]
def bod95 : Code := Tryz.f95.body.getD .skip
def run95 (k : Nat) (a0 : BY) (a1 : Int) (Kt : Tk95) : Option Out := runK Tryz.prog (lookG (gam95 N145 N146)) 8 lvs95 C k Tryz.f95 none [.s (.str a0), .s (.int .i64 a1)] (tok95 Kt)
def p1_95 (k : Nat) (v0 : BY) (v1 : Int) (v21 : Bool) (Kt : Tk95) : Option Out := C 194 ([.c (.s (.str v0)), .c (.s (.int .i64 v1))] ++ us 19 ++ [.c (.s (.bool v21))] ++ us 18) fun e => atK Tryz.prog (lookG (gam95 N145 N146)) 8 lvs95 C k bod95 [1, 0, 1] e (fin Tryz.prog Tryz.f95 none (tok95 Kt))
def l2_95 (k j0 : Nat) (v0 : BY) (v1 : Int) (v5 : BY) (v23 v24 : Int) (Kt : Tk95) : Option Out := C 1000386 ([.c (.s (.str v0)), .c (.s (.int .i64 v1)), .u, .u, .u, .c (.s (.str v5))] ++ us 17 ++ [.c (.s (.int .i64 v23)), .c (.s (.int .i64 v24))] ++ us 15) fun e => headK Tryz.prog (lookG (gam95 N145 N146)) 8 lvs95 C k j0 bod95 [1, 1, 1, 0, 1, 0] e (fin Tryz.prog Tryz.f95 none (tok95 Kt))
theorem run95_eq (k : Nat) (a0 : BY) (a1 : Int) (Kt : Tk95) : run95 C N145 N146 k a0 a1 Kt =
 (bif (a1 != 2) then (bif (a1 != 8) then (bif (a1 != 16) then (p1_95 C N145 N146 k a0 a1 true Kt) else (p1_95 C N145 N146 k a0 a1 (a0 == ([] : BY)) Kt)) else (p1_95 C N145 N146 k a0 a1 (a0 == ([] : BY)) Kt)) else (p1_95 C N145 N146 k a0 a1 (a0 == ([] : BY)) Kt)) := by kernel_rfl
theorem p1_95_eq (hC : Cv C) (k : Nat) (v0 : BY) (v1 : Int) (v21 : Bool) (Kt : Tk95) : p1_95 C N145 N146 k v0 v1 v21 Kt =
 (bif v21 then (Kt ([] : BY)) else (l2_95 C N145 N146 k k v0 v1 ([48] : BY) (v0.length : Int) 0 Kt)) := (hC _ _ _).trans (by kernel_rfl)
theorem l2_95_eq (hC : Cv C) (k j0 : Nat) (v0 : BY) (v1 : Int) (v5 : BY) (v23 v24 : Int) (Kt : Tk95) : l2_95 C N145 N146 k (j0 + 1) v0 v1 v5 v23 v24 Kt =
 (bif (decide (v24 < v23)) then ((at? v0 v24).bind fun b1 => (N145 (b1.toNat : Int) fun r2 => (bif (decide (r2 ≥ v1)) then (Kt ([] : BY)) else (N146 v5 v1 r2 fun r3 => (l2_95 C N145 N146 k j0 v0 v1 r3 v23 (i64.wrap (v24 + 1)) Kt))))) else (Kt v5)) := (hC _ _ _).trans (by kernel_rfl)
end
theorem as95 {G : World → Prop} {ng : Nat} (S : Stays Tryz.prog G ng) {N145 : Ty145} {N146 : Ty146} (h145 : FnIs Tryz.prog G ng 145 (adp145 N145)) (h146 : FnIs Tryz.prog G ng 146 (adp146 N146)) {A : Ty95} (hA : ∀ (a0 : BY) (a1 : Int) (Kt : Tk95) (r : Out), A a0 a1 Kt = some r → run95 cut0 N145 N146 big a0 a1 Kt = some r) : FnIs Tryz.prog G ng 95 (adp95 A) := by
 refine spec_run cut0_eq S (l := gam95 N145 N146) (by intro p hp; simp only [gam95, List.mem_cons, List.not_mem_nil, or_false] at hp; rcases hp with rfl | rfl <;> assumption) Tryz.func95 (by kernel_rfl) (nn := 8) (Lv := lvs95) (k := big) fun rc cs K r h => ?_
 unfold adp95 at h
 split at h
 ·exact ⟨_, hA _ _ _ _ h, fun p hp => by unfold tok95 at hp; split at hp; exact hp; cases hp⟩
 ·cases h
def lvs96 : Nat → Option (List (Nat × Co))
 | _ => none
section
variable (C : Nat → Env → (Env → Option Out) → Option Out) (N43 : Ty43) (N147 : Ty147) (N148 : Ty148)
def gam96 : List (Nat × Fn1) := [(43, adp43 N43), (147, adp147 N147), (148, adp148 N148)]
def run96 (k : Nat) (a0 : Bool) (a1 : BY) (Kt : Tk96) : Option Out := runK Tryz.prog (lookG (gam96 N43 N147 N148)) 5 lvs96 C k Tryz.f96 none [.s (.bool a0), .s (.str a1)] (tok96 Kt)
theorem run96_eq (k : Nat) (a0 : Bool) (a1 : BY) (Kt : Tk96) : run96 C N43 N147 N148 k a0 a1 Kt =
 (N147 a1 fun r1 => (bif (!r1) then (Kt ([] : BY)) else (N148 a1 ([48] : BY) fun r2 => (bif (r2 == ([] : BY)) then (Kt ([48] : BY)) else (bif a0 then ((cat ([45] : BY) r2).bind fun s3 => (Kt s3)) else (N43 r2 fun r4 => (Kt r4))))))) := by kernel_rfl
end
theorem as96 {G : World → Prop} {ng : Nat} (S : Stays Tryz.prog G ng) {N43 : Ty43} {N147 : Ty147} {N148 : Ty148} (h43 : FnIs Tryz.prog G ng 43 (adp43 N43)) (h147 : FnIs Tryz.prog G ng 147 (adp147 N147)) (h148 : FnIs Tryz.prog G ng 148 (adp148 N148)) {A : Ty96} (hA : ∀ (a0 : Bool) (a1 : BY) (Kt : Tk96) (r : Out), A a0 a1 Kt = some r → run96 cut0 N43 N147 N148 big a0 a1 Kt = some r) : FnIs Tryz.prog G ng 96 (adp96 A) := by
 refine spec_run cut0_eq S (l := gam96 N43 N147 N148) (by intro p hp; simp only [gam96, List.mem_cons, List.not_mem_nil, or_false] at hp; rcases hp with rfl | rfl | rfl <;> assumption) Tryz.func96 (by kernel_rfl) (nn := 5) (Lv := lvs96) (k := big) fun rc cs K r h => ?_
 unfold adp96 at h
 split at h
 ·exact ⟨_, hA _ _ _ _ h, fun p hp => by unfold tok96 at hp; split at hp; exact hp; cases hp⟩
 ·cases h
def lvs104 : Nat → Option (List (Nat × Co))
 | 194 => some [(0, .k), (1, .k), (2, .k), (24, .k)]
 | _ => none
section
variable (C : Nat → Env → (Env → Option Out) → Option Out) (N146 : Ty146) (N150 : Ty150) (N158 : Ty158)
def gam104 : List (Nat × Fn1) := [(146, adp146 N146), (150, adp150 N150), (158, adp158 N158)]
def bod104 : Code := Tryz.f104.body.getD .skip
def run104 (k : Nat) (a0 : BY) (a1 a2 : Int) (Kt : Tk104) : Option Out := runK Tryz.prog (lookG (gam104 N146 N150 N158)) 7 lvs104 C k Tryz.f104 none [.s (.str a0), .s (.int .i64 a1), .s (.int .i64 a2)] (tok104 Kt)
def p1_104 (k : Nat) (v0 : BY) (v1 v2 : Int) (v24 : Bool) (Kt : Tk104) : Option Out := C 194 ([.c (.s (.str v0)), .c (.s (.int .i64 v1)), .c (.s (.int .i64 v2))] ++ us 21 ++ [.c (.s (.bool v24)), .u, .u, .u, .u]) fun e => atK Tryz.prog (lookG (gam104 N146 N150 N158)) 7 lvs104 C k bod104 [1, 0, 1] e (fin Tryz.prog Tryz.f104 none (tok104 Kt))
theorem run104_eq (k : Nat) (a0 : BY) (a1 a2 : Int) (Kt : Tk104) : run104 C N146 N150 N158 k a0 a1 a2 Kt =
 (N150 a0 fun r1 => (bif (!r1) then (p1_104 C N146 N150 N158 k a0 a1 a2 true Kt) else ((at? a0 0).bind fun b2 => (bif ((b2.toNat : Int) == 45) then (p1_104 C N146 N150 N158 k a0 a1 a2 true Kt) else (N158 a1 fun r3 => (bif (!r3) then (p1_104 C N146 N150 N158 k a0 a1 a2 true Kt) else (N158 a2 fun r4 => (p1_104 C N146 N150 N158 k a0 a1 a2 (!r4) Kt)))))))) := by kernel_rfl
theorem p1_104_eq (hC : Cv C) (k : Nat) (v0 : BY) (v1 v2 : Int) (v24 : Bool) (Kt : Tk104) : p1_104 C N146 N150 N158 k v0 v1 v2 v24 Kt =
 (bif v24 then (Kt ([] : BY)) else (N146 v0 v1 v2 fun r5 => (Kt r5))) := (hC _ _ _).trans (by kernel_rfl)
end
theorem as104 {G : World → Prop} {ng : Nat} (S : Stays Tryz.prog G ng) {N146 : Ty146} {N150 : Ty150} {N158 : Ty158} (h146 : FnIs Tryz.prog G ng 146 (adp146 N146)) (h150 : FnIs Tryz.prog G ng 150 (adp150 N150)) (h158 : FnIs Tryz.prog G ng 158 (adp158 N158)) {A : Ty104} (hA : ∀ (a0 : BY) (a1 : Int) (a2 : Int) (Kt : Tk104) (r : Out), A a0 a1 a2 Kt = some r → run104 cut0 N146 N150 N158 big a0 a1 a2 Kt = some r) : FnIs Tryz.prog G ng 104 (adp104 A) := by
 refine spec_run cut0_eq S (l := gam104 N146 N150 N158) (by intro p hp; simp only [gam104, List.mem_cons, List.not_mem_nil, or_false] at hp; rcases hp with rfl | rfl | rfl <;> assumption) Tryz.func104 (by kernel_rfl) (nn := 7) (Lv := lvs104) (k := big) fun rc cs K r h => ?_
 unfold adp104 at h
 split at h
 ·exact ⟨_, hA _ _ _ _ _ h, fun p hp => by unfold tok104 at hp; split at hp; exact hp; cases hp⟩
 ·cases h
def lvs145 : Nat → Option (List (Nat × Co))
 | 194 => some [(0, .k), (3, .k)]
 | 322 => some [(0, .k), (13, .k)]
 | 450 => some [(0, .k), (24, .k)]
 | _ => none
section
variable (C : Nat → Env → (Env → Option Out) → Option Out)
def gam145 : List (Nat × Fn1) := []
def bod145 : Code := Tryz.f145.body.getD .skip
def run145 (k : Nat) (a0 : Int) (Kt : Tk145) : Option Out := runK Tryz.prog (lookG (gam145)) 3 lvs145 C k Tryz.f145 none [.s (.int .u8 a0)] (tok145 Kt)
def p1_145 (k : Nat) (v0 : Int) (v3 : Bool) (Kt : Tk145) : Option Out := C 194 ([.c (.s (.int .u8 v0)), .u, .u, .c (.s (.bool v3))] ++ us 31) fun e => atK Tryz.prog (lookG (gam145)) 3 lvs145 C k bod145 [1, 0, 0, 1] e (fin Tryz.prog Tryz.f145 none (tok145 Kt))
def p2_145 (k : Nat) (v0 : Int) (v13 : Bool) (Kt : Tk145) : Option Out := C 322 ([.c (.s (.int .u8 v0))] ++ us 12 ++ [.c (.s (.bool v13))] ++ us 21) fun e => atK Tryz.prog (lookG (gam145)) 3 lvs145 C k bod145 [1, 0, 0, 1, 1, 1] e (fin Tryz.prog Tryz.f145 none (tok145 Kt))
def p3_145 (k : Nat) (v0 : Int) (v24 : Bool) (Kt : Tk145) : Option Out := C 450 ([.c (.s (.int .u8 v0))] ++ us 23 ++ [.c (.s (.bool v24))] ++ us 10) fun e => atK Tryz.prog (lookG (gam145)) 3 lvs145 C k bod145 [1, 0, 0, 1, 1, 1, 1, 1] e (fin Tryz.prog Tryz.f145 none (tok145 Kt))
theorem run145_eq (k : Nat) (a0 : Int) (Kt : Tk145) : run145 C k a0 Kt =
 (bif (decide (a0 ≥ 48)) then (p1_145 C k a0 (decide (a0 ≤ 57)) Kt) else (p1_145 C k a0 false Kt)) := by kernel_rfl
theorem p1_145_eq (hC : Cv C) (k : Nat) (v0 : Int) (v3 : Bool) (Kt : Tk145) : p1_145 C k v0 v3 Kt =
 (bif v3 then (Kt (i64.wrap (u8.wrap (v0 - 48)))) else (bif (decide (v0 ≥ 97)) then (p2_145 C k v0 (decide (v0 ≤ 102)) Kt) else (p2_145 C k v0 false Kt))) := (hC _ _ _).trans (by kernel_rfl)
theorem p2_145_eq (hC : Cv C) (k : Nat) (v0 : Int) (v13 : Bool) (Kt : Tk145) : p2_145 C k v0 v13 Kt =
 (bif v13 then (Kt (i64.wrap ((i64.wrap (u8.wrap (v0 - 97))) + 10))) else (bif (decide (v0 ≥ 65)) then (p3_145 C k v0 (decide (v0 ≤ 70)) Kt) else (p3_145 C k v0 false Kt))) := (hC _ _ _).trans (by kernel_rfl)
theorem p3_145_eq (hC : Cv C) (k : Nat) (v0 : Int) (v24 : Bool) (Kt : Tk145) : p3_145 C k v0 v24 Kt =
 (bif v24 then (Kt (i64.wrap ((i64.wrap (u8.wrap (v0 - 65))) + 10))) else (Kt 16)) := (hC _ _ _).trans (by kernel_rfl)
end
theorem as145 {G : World → Prop} {ng : Nat} (S : Stays Tryz.prog G ng) {A : Ty145} (hA : ∀ (a0 : Int) (Kt : Tk145) (r : Out), A a0 Kt = some r → run145 cut0 big a0 Kt = some r) : FnIs Tryz.prog G ng 145 (adp145 A) := by
 refine spec_run cut0_eq S (l := gam145) (by intro p hp; cases hp) Tryz.func145 (by kernel_rfl) (nn := 3) (Lv := lvs145) (k := big) fun rc cs K r h => ?_
 unfold adp145 at h
 split at h
 ·exact ⟨_, hA _ _ _ h, fun p hp => by unfold tok145 at hp; split at hp; exact hp; cases hp⟩
 ·cases h
def lvs147 : Nat → Option (List (Nat × Co))
 | 1000194 => some [(0, .k), (5, .k), (6, .k)]
 | _ => none
section
variable (C : Nat → Env → (Env → Option Out) → Option Out)
def gam147 : List (Nat × Fn1) := []
def bod147 : Code := Tryz.f147.body.getD .skip
def run147 (k : Nat) (a0 : BY) (Kt : Tk147) : Option Out := runK Tryz.prog (lookG (gam147)) 4 lvs147 C k Tryz.f147 none [.s (.str a0)] (tok147 Kt)
def l1_147 (k j0 : Nat) (v0 : BY) (v5 v6 : Int) (Kt : Tk147) : Option Out := C 1000194 ([.c (.s (.str v0)), .u, .u, .u, .u, .c (.s (.int .i64 v5)), .c (.s (.int .i64 v6))] ++ us 15) fun e => headK Tryz.prog (lookG (gam147)) 4 lvs147 C k j0 bod147 [1, 0, 1, 0] e (fin Tryz.prog Tryz.f147 none (tok147 Kt))
theorem run147_eq (k : Nat) (a0 : BY) (Kt : Tk147) : run147 C k a0 Kt =
 (l1_147 C k k a0 (a0.length : Int) 0 Kt) := by kernel_rfl
theorem l1_147_eq (hC : Cv C) (k j0 : Nat) (v0 : BY) (v5 v6 : Int) (Kt : Tk147) : l1_147 C k (j0 + 1) v0 v5 v6 Kt =
 (bif (decide (v6 < v5)) then ((at? v0 v6).bind fun b1 => (bif (decide ((b1.toNat : Int) < 48)) then (Kt false) else ((at? v0 v6).bind fun b2 => (bif (decide ((b2.toNat : Int) > 57)) then (Kt false) else (l1_147 C k j0 v0 v5 (i64.wrap (v6 + 1)) Kt))))) else (Kt (!(v0 == ([] : BY))))) := (hC _ _ _).trans (by kernel_rfl)
end
theorem as147 {G : World → Prop} {ng : Nat} (S : Stays Tryz.prog G ng) {A : Ty147} (hA : ∀ (a0 : BY) (Kt : Tk147) (r : Out), A a0 Kt = some r → run147 cut0 big a0 Kt = some r) : FnIs Tryz.prog G ng 147 (adp147 A) := by
 refine spec_run cut0_eq S (l := gam147) (by intro p hp; cases hp) Tryz.func147 (by kernel_rfl) (nn := 4) (Lv := lvs147) (k := big) fun rc cs K r h => ?_
 unfold adp147 at h
 split at h
 ·exact ⟨_, hA _ _ _ h, fun p hp => by unfold tok147 at hp; split at hp; exact hp; cases hp⟩
 ·cases h
def lvs150 : Nat → Option (List (Nat × Co))
 | _ => none
section
variable (C : Nat → Env → (Env → Option Out) → Option Out) (N147 : Ty147) (N202 : Ty202)
def gam150 : List (Nat × Fn1) := [(147, adp147 N147), (202, adp202 N202)]
def run150 (k : Nat) (a0 : BY) (Kt : Tk150) : Option Out := runK Tryz.prog (lookG (gam150 N147 N202)) 5 lvs150 C k Tryz.f150 none [.s (.str a0)] (tok150 Kt)
theorem run150_eq (k : Nat) (a0 : BY) (Kt : Tk150) : run150 C N147 N202 k a0 Kt =
 (N202 a0 fun r1 r2 => (N147 r2 fun r3 => (bif r3 then ((at? r2 0).bind fun b4 => (bif ((b4.toNat : Int) != 48) then (Kt true) else (bif (r2 == ([48] : BY)) then (Kt (!r1)) else (Kt false)))) else (Kt false)))) := by kernel_rfl
end
theorem as150 {G : World → Prop} {ng : Nat} (S : Stays Tryz.prog G ng) {N147 : Ty147} {N202 : Ty202} (h147 : FnIs Tryz.prog G ng 147 (adp147 N147)) (h202 : FnIs Tryz.prog G ng 202 (adp202 N202)) {A : Ty150} (hA : ∀ (a0 : BY) (Kt : Tk150) (r : Out), A a0 Kt = some r → run150 cut0 N147 N202 big a0 Kt = some r) : FnIs Tryz.prog G ng 150 (adp150 A) := by
 refine spec_run cut0_eq S (l := gam150 N147 N202) (by intro p hp; simp only [gam150, List.mem_cons, List.not_mem_nil, or_false] at hp; rcases hp with rfl | rfl <;> assumption) Tryz.func150 (by kernel_rfl) (nn := 5) (Lv := lvs150) (k := big) fun rc cs K r h => ?_
 unfold adp150 at h
 split at h
 ·exact ⟨_, hA _ _ _ h, fun p hp => by unfold tok150 at hp; split at hp; exact hp; cases hp⟩
 ·cases h
def lvs152 : Nat → Option (List (Nat × Co))
 | 194 => some [(0, .k), (1, .k), (18, .k)]
 | 450 => some [(1, .k), (5, .k), (6, .k)]
 | _ => none
section
variable (C : Nat → Env → (Env → Option Out) → Option Out) (N96 : Ty96) (N146 : Ty146) (N150 : Ty150) (N171 : Ty171) (N202 : Ty202) (N206 : Ty206) (N207 : Ty207)
def gam152 : List (Nat × Fn1) := [(96, adp96 N96), (146, adp146 N146), (150, adp150 N150), (171, adp171 N171), (202, adp202 N202), (206, adp206 N206), (207, adp207 N207)]
def bod152 : Code := Tryz.f152.body.getD .skip
def run152 (k : Nat) (a0 : BY) (a1 : Int) (Kt : Tk152) : Option Out := runK Tryz.prog (lookG (gam152 N96 N146 N150 N171 N202 N206 N207)) 8 lvs152 C k Tryz.f152 none [.s (.str a0), .s (.int .i64 a1)] (tok152 Kt)
def p1_152 (k : Nat) (v0 : BY) (v1 : Int) (v18 : Bool) (Kt : Tk152) : Option Out := C 194 ([.c (.s (.str v0)), .c (.s (.int .i64 v1))] ++ us 16 ++ [.c (.s (.bool v18))] ++ us 33) fun e => atK Tryz.prog (lookG (gam152 N96 N146 N150 N171 N202 N206 N207)) 8 lvs152 C k bod152 [1, 0, 1] e (fin Tryz.prog Tryz.f152 none (tok152 Kt))
def p2_152 (k : Nat) (v1 : Int) (v5 : Bool) (v6 : BY) (Kt : Tk152) : Option Out := C 450 ([.u, .c (.s (.int .i64 v1)), .u, .u, .u, .c (.s (.bool v5)), .c (.s (.str v6))] ++ us 45) fun e => atK Tryz.prog (lookG (gam152 N96 N146 N150 N171 N202 N206 N207)) 8 lvs152 C k bod152 [1, 1, 1, 1] e (fin Tryz.prog Tryz.f152 none (tok152 Kt))
theorem run152_eq (k : Nat) (a0 : BY) (a1 : Int) (Kt : Tk152) : run152 C N96 N146 N150 N171 N202 N206 N207 k a0 a1 Kt =
 (N150 a0 fun r1 => (bif (!r1) then (p1_152 C N96 N146 N150 N171 N202 N206 N207 k a0 a1 true Kt) else (bif (decide (a1 > 1099511627776)) then (p1_152 C N96 N146 N150 N171 N202 N206 N207 k a0 a1 true Kt) else (p1_152 C N96 N146 N150 N171 N202 N206 N207 k a0 a1 (decide (a1 < (-1099511627776))) Kt)))) := by kernel_rfl
theorem p1_152_eq (hC : Cv C) (k : Nat) (v0 : BY) (v1 : Int) (v18 : Bool) (Kt : Tk152) : p1_152 C N96 N146 N150 N171 N202 N206 N207 k v0 v1 v18 Kt =
 (bif v18 then (Kt ([] : BY)) else (N202 v0 fun r2 r3 => (bif r2 then (p2_152 C N96 N146 N150 N171 N202 N206 N207 k (i64.wrap (0 - v1)) r2 r3 Kt) else (p2_152 C N96 N146 N150 N171 N202 N206 N207 k v1 r2 r3 Kt)))) := (hC _ _ _).trans (by kernel_rfl)
theorem p2_152_eq (hC : Cv C) (k : Nat) (v1 : Int) (v5 : Bool) (v6 : BY) (Kt : Tk152) : p2_152 C N96 N146 N150 N171 N202 N206 N207 k v1 v5 v6 Kt =
 (bif (decide (v1 ≥ 0)) then (N146 v6 1 v1 fun r4 => (N96 v5 r4 fun r5 => (Kt r5))) else (N171 (i64.wrap (0 - v1)) fun r6 => (N206 v6 r6 fun r7 => (bif (decide (r7 < 0)) then (N207 r6 v6 fun r8 => (N96 (!v5) r8 fun r9 => (Kt r9))) else (N207 v6 r6 fun r10 => (N96 v5 r10 fun r11 => (Kt r11))))))) := (hC _ _ _).trans (by kernel_rfl)
end
theorem as152 {G : World → Prop} {ng : Nat} (S : Stays Tryz.prog G ng) {N96 : Ty96} {N146 : Ty146} {N150 : Ty150} {N171 : Ty171} {N202 : Ty202} {N206 : Ty206} {N207 : Ty207} (h96 : FnIs Tryz.prog G ng 96 (adp96 N96)) (h146 : FnIs Tryz.prog G ng 146 (adp146 N146)) (h150 : FnIs Tryz.prog G ng 150 (adp150 N150)) (h171 : FnIs Tryz.prog G ng 171 (adp171 N171)) (h202 : FnIs Tryz.prog G ng 202 (adp202 N202)) (h206 : FnIs Tryz.prog G ng 206 (adp206 N206)) (h207 : FnIs Tryz.prog G ng 207 (adp207 N207)) {A : Ty152} (hA : ∀ (a0 : BY) (a1 : Int) (Kt : Tk152) (r : Out), A a0 a1 Kt = some r → run152 cut0 N96 N146 N150 N171 N202 N206 N207 big a0 a1 Kt = some r) : FnIs Tryz.prog G ng 152 (adp152 A) := by
 refine spec_run cut0_eq S (l := gam152 N96 N146 N150 N171 N202 N206 N207) (by intro p hp; simp only [gam152, List.mem_cons, List.not_mem_nil, or_false] at hp; rcases hp with rfl | rfl | rfl | rfl | rfl | rfl | rfl <;> assumption) Tryz.func152 (by kernel_rfl) (nn := 8) (Lv := lvs152) (k := big) fun rc cs K r h => ?_
 unfold adp152 at h
 split at h
 ·exact ⟨_, hA _ _ _ _ h, fun p hp => by unfold tok152 at hp; split at hp; exact hp; cases hp⟩
 ·cases h
def lvs158 : Nat → Option (List (Nat × Co))
 | _ => none
section
variable (C : Nat → Env → (Env → Option Out) → Option Out)
def gam158 : List (Nat × Fn1) := []
def run158 (k : Nat) (a0 : Int) (Kt : Tk158) : Option Out := runK Tryz.prog (lookG (gam158)) 3 lvs158 C k Tryz.f158 none [.s (.int .i64 a0)] (tok158 Kt)
theorem run158_eq (k : Nat) (a0 : Int) (Kt : Tk158) : run158 C k a0 Kt =
 (bif (decide (a0 ≥ 0)) then (Kt (decide (a0 ≤ 1099511627776))) else (Kt false)) := by kernel_rfl
end
theorem as158 {G : World → Prop} {ng : Nat} (S : Stays Tryz.prog G ng) {A : Ty158} (hA : ∀ (a0 : Int) (Kt : Tk158) (r : Out), A a0 Kt = some r → run158 cut0 big a0 Kt = some r) : FnIs Tryz.prog G ng 158 (adp158 A) := by
 refine spec_run cut0_eq S (l := gam158) (by intro p hp; cases hp) Tryz.func158 (by kernel_rfl) (nn := 3) (Lv := lvs158) (k := big) fun rc cs K r h => ?_
 unfold adp158 at h
 split at h
 ·exact ⟨_, hA _ _ _ h, fun p hp => by unfold tok158 at hp; split at hp; exact hp; cases hp⟩
 ·cases h
def lvs202 : Nat → Option (List (Nat × Co))
 | _ => none
section
variable (C : Nat → Env → (Env → Option Out) → Option Out) (N230 : Ty230)
def gam202 : List (Nat × Fn1) := [(230, adp230 N230)]
def run202 (k : Nat) (a0 : BY) (Kt : Tk202) : Option Out := runK Tryz.prog (lookG (gam202 N230)) 6 lvs202 C k Tryz.f202 none [.s (.str a0)] (tok202 Kt)
theorem run202_eq (k : Nat) (a0 : BY) (Kt : Tk202) : run202 C N230 k a0 Kt =
 (N230 a0 ([45] : BY) fun r1 r2 => (Kt r2 r1)) := by kernel_rfl
end
theorem as202 {G : World → Prop} {ng : Nat} (S : Stays Tryz.prog G ng) {N230 : Ty230} (h230 : FnIs Tryz.prog G ng 230 (adp230 N230)) {A : Ty202} (hA : ∀ (a0 : BY) (Kt : Tk202) (r : Out), A a0 Kt = some r → run202 cut0 N230 big a0 Kt = some r) : FnIs Tryz.prog G ng 202 (adp202 A) := by
 refine spec_run cut0_eq S (l := gam202 N230) (by intro p hp; simp only [gam202, List.mem_cons, List.not_mem_nil, or_false] at hp; rcases hp with rfl <;> assumption) Tryz.func202 (by kernel_rfl) (nn := 6) (Lv := lvs202) (k := big) fun rc cs K r h => ?_
 unfold adp202 at h
 split at h
 ·exact ⟨_, hA _ _ _ h, fun p hp => by unfold tok202 at hp; split at hp; exact hp; cases hp⟩
 ·cases h
def lvs206 : Nat → Option (List (Nat × Co))
 | _ => none
section
variable (C : Nat → Env → (Env → Option Out) → Option Out) (N232 : Ty232)
def gam206 : List (Nat × Fn1) := [(232, adp232 N232)]
def run206 (k : Nat) (a0 a1 : BY) (Kt : Tk206) : Option Out := runK Tryz.prog (lookG (gam206 N232)) 5 lvs206 C k Tryz.f206 none [.s (.str a0), .s (.str a1)] (tok206 Kt)
theorem run206_eq (k : Nat) (a0 a1 : BY) (Kt : Tk206) : run206 C N232 k a0 a1 Kt =
 (bif ((a0.length : Int) != (a1.length : Int)) then (bif (decide ((a0.length : Int) < (a1.length : Int))) then (Kt (-1)) else (Kt 1)) else (N232 a0 a1 fun r1 => (Kt r1))) := by kernel_rfl
end
theorem as206 {G : World → Prop} {ng : Nat} (S : Stays Tryz.prog G ng) {N232 : Ty232} (h232 : FnIs Tryz.prog G ng 232 (adp232 N232)) {A : Ty206} (hA : ∀ (a0 : BY) (a1 : BY) (Kt : Tk206) (r : Out), A a0 a1 Kt = some r → run206 cut0 N232 big a0 a1 Kt = some r) : FnIs Tryz.prog G ng 206 (adp206 A) := by
 refine spec_run cut0_eq S (l := gam206 N232) (by intro p hp; simp only [gam206, List.mem_cons, List.not_mem_nil, or_false] at hp; rcases hp with rfl <;> assumption) Tryz.func206 (by kernel_rfl) (nn := 5) (Lv := lvs206) (k := big) fun rc cs K r h => ?_
 unfold adp206 at h
 split at h
 ·exact ⟨_, hA _ _ _ _ h, fun p hp => by unfold tok206 at hp; split at hp; exact hp; cases hp⟩
 ·cases h
def lvs207 : Nat → Option (List (Nat × Co))
 | 448 => some [(0, .k), (1, .k), (5, .k), (6, .k), (7, .k)]
 | 705 => some [(0, .k), (1, .k), (5, .k), (6, .k), (7, .k)]
 | 1000387 => some [(0, .k), (1, .k), (5, .k), (6, .k), (7, .k)]
 | _ => none
section
variable (C : Nat → Env → (Env → Option Out) → Option Out)
def gam207 : List (Nat × Fn1) := []
def bod207 : Code := Tryz.f207.body.getD .skip
def run207 (k : Nat) (a0 a1 : BY) (Kt : Tk207) : Option Out := runK Tryz.prog (lookG (gam207)) 5 lvs207 C k Tryz.f207 none [.s (.str a0), .s (.str a1)] (tok207 Kt)
def l1_207 (k j0 : Nat) (v0 v1 : BY) (v5 : List Int) (v6 v7 : Int) (Kt : Tk207) : Option Out := C 1000387 ([.c (.s (.str v0)), .c (.s (.str v1)), .u, .u, .u, .c (.own (.ints .u8 v5)), .c (.s (.int .u8 v6)), .c (.s (.int .i64 v7))] ++ us 58) fun e => headK Tryz.prog (lookG (gam207)) 5 lvs207 C k j0 bod207 [1, 1, 1, 1, 0, 1, 0] e (fin Tryz.prog Tryz.f207 none (tok207 Kt))
def p2_207 (k j0 : Nat) (v0 v1 : BY) (v5 : List Int) (v6 v7 : Int) (Kt : Tk207) : Option Out := C 705 ([.c (.s (.str v0)), .c (.s (.str v1)), .u, .u, .u, .c (.own (.ints .u8 v5)), .c (.s (.int .u8 v6)), .c (.s (.int .i64 v7))] ++ us 58) fun e => atK Tryz.prog (lookG (gam207)) 5 lvs207 C k bod207 [1, 1, 1, 1, 0, 1, 0, j0, 1, 0, 0, 1, 1] e (fin Tryz.prog Tryz.f207 none (tok207 Kt))
def p3_207 (k j0 : Nat) (v0 v1 : BY) (v5 : List Int) (v6 v7 : Int) (Kt : Tk207) : Option Out := C 448 ([.c (.s (.str v0)), .c (.s (.str v1)), .u, .u, .u, .c (.own (.ints .u8 v5)), .c (.s (.int .u8 v6)), .c (.s (.int .i64 v7))] ++ us 58) fun e => atK Tryz.prog (lookG (gam207)) 5 lvs207 C k bod207 [1, 1, 1, 1, 0, 1, 0, j0, 1, 1] e (fin Tryz.prog Tryz.f207 none (tok207 Kt))
theorem run207_eq (k : Nat) (a0 a1 : BY) (Kt : Tk207) : run207 C k a0 a1 Kt =
 (bif (decide (0 ≤ (a0.length : Int)) && decide ((a0.length : Int) ≤ (a0.length : Int)) && decide ((a0.length : Int) ≤ 1099511627776)) then (l1_207 C k k a0 a1 ((List.replicate (a0.length : Int).toNat (0 : Int)).take 0 ++ (a0.map fun c => (c.toNat : Int)).take (min (a0.map fun c => (c.toNat : Int)).length (List.replicate (a0.length : Int).toNat (0 : Int)).length) ++ (List.replicate (a0.length : Int).toNat (0 : Int)).drop (0 + (min (a0.map fun c => (c.toNat : Int)).length (List.replicate (a0.length : Int).toNat (0 : Int)).length))) 0 (i64.wrap ((a0.length : Int) - 1)) Kt) else none) := by kernel_rfl
theorem l1_207_eq (hC : Cv C) (k j0 : Nat) (v0 v1 : BY) (v5 : List Int) (v6 v7 : Int) (Kt : Tk207) : l1_207 C k (j0 + 1) v0 v1 v5 v6 v7 Kt =
 (bif (decide (v7 ≥ 0)) then (bif (decide ((i64.wrap (v7 - (i64.wrap ((v0.length : Int) - (v1.length : Int))))) ≥ 0)) then ((at? v1 (i64.wrap (v7 - (i64.wrap ((v0.length : Int) - (v1.length : Int)))))).bind fun b1 => (p2_207 C k j0 v0 v1 v5 (u8.wrap (v6 + (u8.wrap ((b1.toNat : Int) - 48)))) v7 Kt)) else (p2_207 C k j0 v0 v1 v5 v6 v7 Kt)) else (Kt (v5.map fun n => UInt8.ofNat n.toNat))) := (hC _ _ _).trans (by kernel_rfl)
theorem p2_207_eq (hC : Cv C) (k j0 : Nat) (v0 v1 : BY) (v5 : List Int) (v6 v7 : Int) (Kt : Tk207) : p2_207 C k j0 v0 v1 v5 v6 v7 Kt =
 (bif (decide (0 ≤ v7) && decide (v7 < (v5.length : Int))) then ((v5[v7.toNat]?).bind fun x2 => (bif (decide (x2 < (u8.wrap ((48 : Int) + v6)))) then (bif (decide (0 ≤ v7) && decide (v7 < (v5.length : Int))) then ((v5[v7.toNat]?).bind fun x3 => (bif (decide (0 ≤ v7) && decide (v7 < (v5.length : Int))) then (bif decide (v7.toNat < v5.length) then (bif (decide (0 ≤ v7) && decide (v7 < ((v5.set v7.toNat (u8.wrap (x3 + 10))).length : Int))) then (((v5.set v7.toNat (u8.wrap (x3 + 10)))[v7.toNat]?).bind fun x4 => (bif (decide (0 ≤ v7) && decide (v7 < ((v5.set v7.toNat (u8.wrap (x3 + 10))).length : Int))) then (bif decide (v7.toNat < (v5.set v7.toNat (u8.wrap (x3 + 10))).length) then (p3_207 C k j0 v0 v1 ((v5.set v7.toNat (u8.wrap (x3 + 10))).set v7.toNat (u8.wrap (x4 - v6))) 1 v7 Kt) else none) else none)) else none) else none) else none)) else none) else (bif (decide (0 ≤ v7) && decide (v7 < (v5.length : Int))) then ((v5[v7.toNat]?).bind fun x5 => (bif (decide (0 ≤ v7) && decide (v7 < (v5.length : Int))) then (bif decide (v7.toNat < v5.length) then (p3_207 C k j0 v0 v1 (v5.set v7.toNat (u8.wrap (x5 - v6))) 0 v7 Kt) else none) else none)) else none))) else none) := (hC _ _ _).trans (by kernel_rfl)
theorem p3_207_eq (hC : Cv C) (k j0 : Nat) (v0 v1 : BY) (v5 : List Int) (v6 v7 : Int) (Kt : Tk207) : p3_207 C k j0 v0 v1 v5 v6 v7 Kt =
 (l1_207 C k j0 v0 v1 v5 v6 (i64.wrap (v7 - 1)) Kt) := (hC _ _ _).trans (by kernel_rfl)
end
theorem as207 {G : World → Prop} {ng : Nat} (S : Stays Tryz.prog G ng) {A : Ty207} (hA : ∀ (a0 : BY) (a1 : BY) (Kt : Tk207) (r : Out), A a0 a1 Kt = some r → run207 cut0 big a0 a1 Kt = some r) : FnIs Tryz.prog G ng 207 (adp207 A) := by
 refine spec_run cut0_eq S (l := gam207) (by intro p hp; cases hp) Tryz.func207 (by kernel_rfl) (nn := 5) (Lv := lvs207) (k := big) fun rc cs K r h => ?_
 unfold adp207 at h
 split at h
 ·exact ⟨_, hA _ _ _ _ h, fun p hp => by unfold tok207 at hp; split at hp; exact hp; cases hp⟩
 ·cases h
def lvs146 : Nat → Option (List (Nat × Co))
 | 1000387 => some [(0, .k), (1, .k), (2, .k), (7, .k), (8, .k), (9, .k), (10, .k)]
 | _ => none
section
variable (C : Nat → Env → (Env → Option Out) → Option Out) (N96 : Ty96) (O197 : TyO197)
def gam146 : List (Nat × Fn1) := [(96, adp96 N96)]
def gamo146 : List (Nat × Fn1) := [(197, adO197 O197)]
def bod146 : Code := Tryz.f146.body.getD .skip
def run146 (k : Nat) (a0 : BY) (a1 a2 : Int) (Kt : Tk146) : Option Out := runK Tryz.prog (lookO (gamo146 O197) (gam146 N96)) 12 lvs146 C k Tryz.f146 none [.s (.str a0), .s (.int .i64 a1), .s (.int .i64 a2)] (tok146 Kt)
def l1_146 (k j0 : Nat) (v0 : BY) (v1 v2 : Int) (v7 v8 : List Int) (v9 v10 : Int) (Kt : Tk146) : Option Out := C 1000387 ([.c (.s (.str v0)), .c (.s (.int .i64 v1)), .c (.s (.int .i64 v2)), .u, .u, .u, .u, .box 185 (.ints .u8 v7), .c (.own (.ints .u8 v8)), .c (.s (.int .i64 v9)), .c (.s (.int .i64 v10))] ++ us 53) fun e => headK Tryz.prog (lookO (gamo146 O197) (gam146 N96)) 12 lvs146 C k j0 bod146 [1, 1, 1, 1, 0, 1, 0] e (fin Tryz.prog Tryz.f146 none (tok146 Kt))
theorem run146_eq (k : Nat) (a0 : BY) (a1 a2 : Int) (Kt : Tk146) : run146 C N96 O197 k a0 a1 a2 Kt =
 (bif (decide (0 ≤ (i64.wrap ((a0.length : Int) + 16))) && decide ((i64.wrap ((a0.length : Int) + 16)) ≤ (i64.wrap ((a0.length : Int) + 16))) && decide ((i64.wrap ((a0.length : Int) + 16)) ≤ 1099511627776)) then (l1_146 C N96 O197 k k a0 a1 a2 (List.replicate 16 (0 : Int)) (List.replicate (i64.wrap ((a0.length : Int) + 16)).toNat (0 : Int)) ((List.replicate (i64.wrap ((a0.length : Int) + 16)).toNat (0 : Int)).length : Int) (i64.wrap ((a0.length : Int) - 1)) Kt) else none) := by kernel_rfl
theorem l1_146_eq (hC : Cv C) (k j0 : Nat) (v0 : BY) (v1 v2 : Int) (v7 v8 : List Int) (v9 v10 : Int) (Kt : Tk146) : l1_146 C N96 O197 k (j0 + 1) v0 v1 v2 v7 v8 v9 v10 Kt =
 (bif (decide (v10 ≥ 0)) then ((at? v0 v10).bind fun b1 => (bif (decide (0 ≤ (i64.wrap (v9 - 1))) && decide ((i64.wrap (v9 - 1)) < (v8.length : Int))) then (bif decide ((i64.wrap (v9 - 1)).toNat < v8.length) then (l1_146 C N96 O197 k j0 v0 v1 (i64.wrap ((i64.wrap (v2 + (i64.wrap ((i64.wrap (u8.wrap ((b1.toNat : Int) - 48))) * v1)))).tdiv 10)) v7 (v8.set (i64.wrap (v9 - 1)).toNat (u8.wrap (i64.wrap ((48 : Int) + ((i64.wrap (v2 + (i64.wrap ((i64.wrap (u8.wrap ((b1.toNat : Int) - 48))) * v1)))).tmod 10))))) (i64.wrap (v9 - 1)) (i64.wrap (v10 - 1)) Kt) else none) else none)) else (bif decide (16 ≤ v7.length) then (O197 ((v7.drop 0).take 0) v2 10 fun r2 => ((cutN v8.length (some (i64.wrap (v9 - (r2.length : Int)))) (some v9)).bind fun p3 => ((cutN (v8.take p3.1 ++ r2.take (min r2.length p3.2) ++ v8.drop (p3.1 + (min r2.length p3.2))).length (some (i64.wrap (v9 - (((min r2.length p3.2) : Nat) : Int)))) none).bind fun p4 => (N96 false ((((v8.take p3.1 ++ r2.take (min r2.length p3.2) ++ v8.drop (p3.1 + (min r2.length p3.2))).drop p4.1).take p4.2).map fun n => UInt8.ofNat n.toNat) fun r5 => (Kt r5))))) else none)) := (hC _ _ _).trans (by kernel_rfl)
end
theorem as146 {G : World → Prop} {ng : Nat} (S : Stays Tryz.prog G ng) {N96 : Ty96} {O197 : TyO197} (h96 : FnIs Tryz.prog G ng 96 (adp96 N96)) (ho197 : OwnIs Tryz.prog G ng 197 (adO197 O197)) {A : Ty146} (hA : ∀ (a0 : BY) (a1 : Int) (a2 : Int) (Kt : Tk146) (r : Out), A a0 a1 a2 Kt = some r → run146 cut0 N96 O197 big a0 a1 a2 Kt = some r) : FnIs Tryz.prog G ng 146 (adp146 A) := by
 refine spec_runO cut0_eq S (lo := gamo146 O197) (by intro p hp; simp only [gamo146, List.mem_cons, List.not_mem_nil, or_false] at hp; rcases hp with rfl <;> assumption) (l := gam146 N96) (by intro p hp; simp only [gam146, List.mem_cons, List.not_mem_nil, or_false] at hp; rcases hp with rfl <;> assumption) Tryz.func146 (by kernel_rfl) (nn := 12) (Lv := lvs146) (k := big) fun rc cs K r h => ?_
 unfold adp146 at h
 split at h
 ·exact ⟨_, hA _ _ _ _ _ h, fun p hp => by unfold tok146 at hp; split at hp; exact hp; cases hp⟩
 ·cases h
def lvsO245 : Nat → Option (List (Nat × Co))
 | _ => none
section
variable (C : Nat → Env → (Env → Option Out) → Option Out) (N241 : Ty241) (N242 : Ty242) (N244 : Ty244) (O243 : TyO243)
def gamO245 : List (Nat × Fn1) := [(241, adp241 N241), (242, adp242 N242), (244, adp244 N244)]
def gamoO245 : List (Nat × Fn1) := [(243, adO243 O243)]
def runO245 (k : Nat) (a0 : List Int) (a1 a2 : Int) (Kt : TkO245) : Option Out := runK Tryz.prog (lookO (gamoO245 O243) (gamO245 N241 N242 N244)) 9 lvsO245 C k Tryz.f245 none [.own (.ints .u8 a0), .s (.int .u64 a1), .s (.int .i64 a2)] (tokO245 Kt)
theorem runO245_eq (k : Nat) (a0 : List Int) (a1 a2 : Int) (Kt : TkO245) : runO245 C N241 N242 N244 O243 k a0 a1 a2 Kt =
 (bif (a2 == 10) then (bif (decide (a1 < 100)) then (N241 (i64.wrap a1) fun r1 => (bif decide ((a0 ++ (r1.map fun c => (c.toNat : Int))).length ≤ 1099511627776) then (Kt (a0 ++ (r1.map fun c => (c.toNat : Int)))) else none)) else (N242 a1 fun r2 => (bif decide (24 ≤ (List.replicate 24 (0 : Int)).length) then ((cutN 24 none (some r2)).bind fun p3 => (O243 (((List.replicate 24 (0 : Int)).drop 0).take p3.2) a1 fun r4 => (bif decide (24 ≤ ((List.replicate 24 (0 : Int)).take 0 ++ r4.take p3.2 ++ (List.replicate 24 (0 : Int)).drop (0 + p3.2)).length) then ((cutN 24 none (some r2)).bind fun p5 => (bif decide ((a0 ++ ((((List.replicate 24 (0 : Int)).take 0 ++ r4.take p3.2 ++ (List.replicate 24 (0 : Int)).drop (0 + p3.2)).drop 0).take p5.2)).length ≤ 1099511627776) then (Kt (a0 ++ ((((List.replicate 24 (0 : Int)).take 0 ++ r4.take p3.2 ++ (List.replicate 24 (0 : Int)).drop (0 + p3.2)).drop 0).take p5.2))) else none)) else none))) else none))) else (N244 a0 a1 a2 false true fun r6 r7 => (Kt r6))) := by kernel_rfl
end
theorem asO245 {G : World → Prop} {ng : Nat} (S : Stays Tryz.prog G ng) {N241 : Ty241} {N242 : Ty242} {N244 : Ty244} {O243 : TyO243} (h241 : FnIs Tryz.prog G ng 241 (adp241 N241)) (h242 : FnIs Tryz.prog G ng 242 (adp242 N242)) (h244 : FnIs Tryz.prog G ng 244 (adp244 N244)) (ho243 : OwnIs Tryz.prog G ng 243 (adO243 O243)) {A : TyO245} (hA : ∀ (a0 : List Int) (a1 : Int) (a2 : Int) (Kt : TkO245) (r : Out), A a0 a1 a2 Kt = some r → runO245 cut0 N241 N242 N244 O243 big a0 a1 a2 Kt = some r) : OwnIs Tryz.prog G ng 245 (adO245 A) := by
 refine spec_own cut0_eq S (lo := gamoO245 O243) (by intro p hp; simp only [gamoO245, List.mem_cons, List.not_mem_nil, or_false] at hp; rcases hp with rfl <;> assumption) (l := gamO245 N241 N242 N244) (by intro p hp; simp only [gamO245, List.mem_cons, List.not_mem_nil, or_false] at hp; rcases hp with rfl | rfl | rfl <;> assumption) Tryz.func245 (by kernel_rfl) (nn := 9) (Lv := lvsO245) (k := big) fun rc cs K r hrc hcs h => ?_
 unfold adO245 at h
 split at h
 ·exact ⟨_, hA _ _ _ _ _ h, fun p hp => by unfold tokO245 at hp; split at hp; exact hp; cases hp⟩
 ·cases h
end
end Go.Proofs.YtffmgholjdfcnaaGreatDoor
