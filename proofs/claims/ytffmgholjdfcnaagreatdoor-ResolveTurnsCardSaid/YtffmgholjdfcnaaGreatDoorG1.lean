/- Pieces of the program's functions, printed by gen.py (a program of this session's own), and the equations that the kernel finds. -/
import Derived.Test.YtffmgholjdfcnaaGreatDoorGW
import Derived.Test.YtffmgholjdfcnaaGreatDoorProg
set_option maxRecDepth 100000
set_option linter.unusedVariables false
namespace Go.Proofs.YtffmgholjdfcnaaGreatDoor
open Go Go.Proofs AM
/-! targum/stamp.read -/
def lvs110 : Nat → Option (List (Nat × Co))
  | 770 => some [(2, .k), (5, .k), (6, .k), (8, .k)]
  | 1474 => some [(2, .k), (5, .k), (6, .k), (8, .k)]
  | 1922 => some [(2, .k), (5, .k), (6, .k), (8, .k)]
  | 3000000 => some [(2, .k), (5, .k), (6, .k), (8, .k)]
  | 3000001 => some [(2, .k), (5, .k), (6, .k), (8, .k)]
  | _ => none
section
variable (C : Nat → Env → (Env → Option Out) → Option Out) (N151 : Ty151) (N164 : Ty164) (N165 : Ty165) (N166 : Ty166) (N167 : Ty167) (N168 : Ty168) (N169 : Ty169)
def gam110 : List (Nat × Fn1) := [(151, adp151 N151), (164, adp164 N164), (165, adp165 N165), (166, adp166 N166), (167, adp167 N167), (168, adp168 N168), (169, adp169 N169)]
noncomputable def bod110 : Code := Tryz.f110.body.getD .skip
noncomputable def run110 (k : Nat) (a0 : BY) (Kt : Tk110) : Option Out := runK Tryz.prog (lookG (gam110 N151 N164 N165 N166 N167 N168 N169)) 5 lvs110 C k Tryz.f110 none [.s (.str a0)] (tok110 Kt)
noncomputable def p1_110 (k : Nat) (j0 : Nat) (v2_0 : Int) (v2_1 : Int) (v2_2 : Int) (v2_3 : Int) (v2_4 : Int) (v2_5 : Int) (v2_6 : BY) (v2_7 : Int) (v5_0 : Int) (v5_1 : Int) (v5_2 : Int) (v5_3 : Int) (v5_4 : Int) (v5_5 : Int) (v5_6 : BY) (v5_7 : Int) (v6 : Bool) (v8_0 : BY) (v8_1 : Bool) (Kt : Tk110) : Option Out := C 770 ([.u, .u, .box 123 (.ss [.int .i64 v2_0, .int .i64 v2_1, .int .i64 v2_2, .int .i64 v2_3, .int .i64 v2_4, .int .i64 v2_5, .str v2_6, .int .i64 v2_7]), .u, .u, .box 123 (.ss [.int .i64 v5_0, .int .i64 v5_1, .int .i64 v5_2, .int .i64 v5_3, .int .i64 v5_4, .int .i64 v5_5, .str v5_6, .int .i64 v5_7]), .c (.s (.bool v6)), .u, .box 164 (.ss [.str v8_0, .bool v8_1])] ++ us 107) fun e => atK Tryz.prog (lookG (gam110 N151 N164 N165 N166 N167 N168 N169)) 5 lvs110 C k bod110 [1, j0, 1, 1, 1, 1, 1, 1, 1, 1, 1, 1] e (fin Tryz.prog Tryz.f110 none (tok110 Kt))
noncomputable def g2_110 (k : Nat) (j0 : Nat) (v2_0 : Int) (v2_1 : Int) (v2_2 : Int) (v2_3 : Int) (v2_4 : Int) (v2_5 : Int) (v2_6 : BY) (v2_7 : Int) (v5_0 : Int) (v5_1 : Int) (v5_2 : Int) (v5_3 : Int) (v5_4 : Int) (v5_5 : Int) (v5_6 : BY) (v5_7 : Int) (v6 : Bool) (v8_0 : BY) (v8_1 : Bool) (Kt : Tk110) : Option Out := C 3000000 ([.u, .u, .box 123 (.ss [.int .i64 v2_0, .int .i64 v2_1, .int .i64 v2_2, .int .i64 v2_3, .int .i64 v2_4, .int .i64 v2_5, .str v2_6, .int .i64 v2_7]), .u, .u, .box 123 (.ss [.int .i64 v5_0, .int .i64 v5_1, .int .i64 v5_2, .int .i64 v5_3, .int .i64 v5_4, .int .i64 v5_5, .str v5_6, .int .i64 v5_7]), .c (.s (.bool v6)), .u, .box 164 (.ss [.str v8_0, .bool v8_1])] ++ us 107) fun e => jumpK Tryz.prog (lookG (gam110 N151 N164 N165 N166 N167 N168 N169)) 5 lvs110 C k j0 0 bod110 [1] e (fin Tryz.prog Tryz.f110 none (tok110 Kt))
noncomputable def g3_110 (k : Nat) (j0 : Nat) (v2_0 : Int) (v2_1 : Int) (v2_2 : Int) (v2_3 : Int) (v2_4 : Int) (v2_5 : Int) (v2_6 : BY) (v2_7 : Int) (v5_0 : Int) (v5_1 : Int) (v5_2 : Int) (v5_3 : Int) (v5_4 : Int) (v5_5 : Int) (v5_6 : BY) (v5_7 : Int) (v6 : Bool) (v8_0 : BY) (v8_1 : Bool) (Kt : Tk110) : Option Out := C 3000001 ([.u, .u, .box 123 (.ss [.int .i64 v2_0, .int .i64 v2_1, .int .i64 v2_2, .int .i64 v2_3, .int .i64 v2_4, .int .i64 v2_5, .str v2_6, .int .i64 v2_7]), .u, .u, .box 123 (.ss [.int .i64 v5_0, .int .i64 v5_1, .int .i64 v5_2, .int .i64 v5_3, .int .i64 v5_4, .int .i64 v5_5, .str v5_6, .int .i64 v5_7]), .c (.s (.bool v6)), .u, .box 164 (.ss [.str v8_0, .bool v8_1])] ++ us 107) fun e => jumpK Tryz.prog (lookG (gam110 N151 N164 N165 N166 N167 N168 N169)) 5 lvs110 C k j0 1 bod110 [1] e (fin Tryz.prog Tryz.f110 none (tok110 Kt))
noncomputable def p4_110 (k : Nat) (j0 : Nat) (v2_0 : Int) (v2_1 : Int) (v2_2 : Int) (v2_3 : Int) (v2_4 : Int) (v2_5 : Int) (v2_6 : BY) (v2_7 : Int) (v5_0 : Int) (v5_1 : Int) (v5_2 : Int) (v5_3 : Int) (v5_4 : Int) (v5_5 : Int) (v5_6 : BY) (v5_7 : Int) (v6 : Bool) (v8_0 : BY) (v8_1 : Bool) (Kt : Tk110) : Option Out := C 1474 ([.u, .u, .box 123 (.ss [.int .i64 v2_0, .int .i64 v2_1, .int .i64 v2_2, .int .i64 v2_3, .int .i64 v2_4, .int .i64 v2_5, .str v2_6, .int .i64 v2_7]), .u, .u, .box 123 (.ss [.int .i64 v5_0, .int .i64 v5_1, .int .i64 v5_2, .int .i64 v5_3, .int .i64 v5_4, .int .i64 v5_5, .str v5_6, .int .i64 v5_7]), .c (.s (.bool v6)), .u, .box 164 (.ss [.str v8_0, .bool v8_1])] ++ us 107) fun e => atK Tryz.prog (lookG (gam110 N151 N164 N165 N166 N167 N168 N169)) 5 lvs110 C k bod110 [1, j0, 1, 1, 1, 1, 1, 1, 1, 1, 1, 1, 1, 1, 1, 1, 1, 1, 1, 1, 1, 1] e (fin Tryz.prog Tryz.f110 none (tok110 Kt))
noncomputable def p5_110 (k : Nat) (j0 : Nat) (v2_0 : Int) (v2_1 : Int) (v2_2 : Int) (v2_3 : Int) (v2_4 : Int) (v2_5 : Int) (v2_6 : BY) (v2_7 : Int) (v5_0 : Int) (v5_1 : Int) (v5_2 : Int) (v5_3 : Int) (v5_4 : Int) (v5_5 : Int) (v5_6 : BY) (v5_7 : Int) (v6 : Bool) (v8_0 : BY) (v8_1 : Bool) (Kt : Tk110) : Option Out := C 1922 ([.u, .u, .box 123 (.ss [.int .i64 v2_0, .int .i64 v2_1, .int .i64 v2_2, .int .i64 v2_3, .int .i64 v2_4, .int .i64 v2_5, .str v2_6, .int .i64 v2_7]), .u, .u, .box 123 (.ss [.int .i64 v5_0, .int .i64 v5_1, .int .i64 v5_2, .int .i64 v5_3, .int .i64 v5_4, .int .i64 v5_5, .str v5_6, .int .i64 v5_7]), .c (.s (.bool v6)), .u, .box 164 (.ss [.str v8_0, .bool v8_1])] ++ us 107) fun e => atK Tryz.prog (lookG (gam110 N151 N164 N165 N166 N167 N168 N169)) 5 lvs110 C k bod110 [1, j0, 1, 1, 1, 1, 1, 1, 1, 1, 1, 1, 1, 1, 1, 1, 1, 1, 1, 1, 1, 1, 1, 1, 1, 1, 1, 1] e (fin Tryz.prog Tryz.f110 none (tok110 Kt))
theorem run110_eq (k : Nat) (a0 : BY) (Kt : Tk110) : run110 C N151 N164 N165 N166 N167 N168 N169 k a0 Kt =
  (N164 a0 false 4 4 fun r1 r2 r3 => (N165 r2 r3 ([45] : BY) fun r4 r5 r6 => (N164 r5 r6 1 2 fun r7 r8 r9 => (N165 r8 r9 ([45] : BY) fun r10 r11 r12 => (N164 r11 r12 1 2 fun r13 r14 r15 => (bif (r14 == ([] : BY)) then (p1_110 C N151 N164 N165 N166 N167 N168 N169 k k 0 0 0 0 0 0 ([] : BY) 0 r1 r7 r13 0 0 0 ([] : BY) 0 ((r5.length : Int) == 5) r14 r15 Kt) else (p1_110 C N151 N164 N165 N166 N167 N168 N169 k k 0 0 0 0 0 0 ([] : BY) 0 r1 r7 r13 0 0 0 ([] : BY) 0 false r14 r15 Kt))))))) := by kernel_rfl
theorem p1_110_eq (hC : ∀ key e t, C key e t = t e) (k : Nat) (j0 : Nat) (v2_0 : Int) (v2_1 : Int) (v2_2 : Int) (v2_3 : Int) (v2_4 : Int) (v2_5 : Int) (v2_6 : BY) (v2_7 : Int) (v5_0 : Int) (v5_1 : Int) (v5_2 : Int) (v5_3 : Int) (v5_4 : Int) (v5_5 : Int) (v5_6 : BY) (v5_7 : Int) (v6 : Bool) (v8_0 : BY) (v8_1 : Bool) (Kt : Tk110) : p1_110 C N151 N164 N165 N166 N167 N168 N169 k j0 v2_0 v2_1 v2_2 v2_3 v2_4 v2_5 v2_6 v2_7 v5_0 v5_1 v5_2 v5_3 v5_4 v5_5 v5_6 v5_7 v6 v8_0 v8_1 Kt =
  (bif v8_1 then (g2_110 C N151 N164 N165 N166 N167 N168 N169 k j0 v2_0 v2_1 v2_2 v2_3 v2_4 v2_5 v2_6 v2_7 v5_0 v5_1 v5_2 v5_3 v5_4 v5_5 v5_6 v5_7 v6 v8_0 v8_1 Kt) else (bif v6 then (g2_110 C N151 N164 N165 N166 N167 N168 N169 k j0 v2_0 v2_1 v2_2 v2_3 v2_4 v2_5 v2_6 v2_7 v5_0 v5_1 v5_2 v5_3 v5_4 v5_5 v5_6 v5_7 v6 v8_0 v8_1 Kt) else (N166 v8_0 v8_1 ([84, 116] : BY) fun r16 r17 r18 => (bif (r16 != 0) then (g3_110 C N151 N164 N165 N166 N167 N168 N169 k j0 v2_0 v2_1 v2_2 v2_3 v2_4 v2_5 v2_6 v2_7 v5_0 v5_1 v5_2 v5_3 v5_4 v5_5 v5_6 v5_7 v6 r17 r18 Kt) else (N167 r17 r18 ([32, 9] : BY) fun r19 r20 r21 => (bif (r19 == ([] : BY)) then (g2_110 C N151 N164 N165 N166 N167 N168 N169 k j0 v2_0 v2_1 v2_2 v2_3 v2_4 v2_5 v2_6 v2_7 v5_0 v5_1 v5_2 v5_3 v5_4 v5_5 v5_6 v5_7 v6 r20 true Kt) else (N164 r20 r21 1 2 fun r22 r23 r24 => (N165 r23 r24 ([58] : BY) fun r25 r26 r27 => (N164 r26 r27 2 2 fun r28 r29 r30 => (N165 r29 r30 ([58] : BY) fun r31 r32 r33 => (N164 r32 r33 2 2 fun r34 r35 r36 => (N166 r35 r36 ([46] : BY) fun r37 r38 r39 => (bif (r37 != 0) then (N167 r38 r39 ([48, 49, 50, 51, 52, 53, 54, 55, 56, 57] : BY) fun r40 r41 r42 => (N151 r40 ([48] : BY) fun r43 => (p4_110 C N151 N164 N165 N166 N167 N168 N169 k j0 v2_0 v2_1 v2_2 v2_3 v2_4 v2_5 v2_6 v2_7 v5_0 v5_1 v5_2 r22 r28 r34 r43 v5_7 v6 r41 r42 Kt))) else (p4_110 C N151 N164 N165 N166 N167 N168 N169 k j0 v2_0 v2_1 v2_2 v2_3 v2_4 v2_5 v2_6 v2_7 v5_0 v5_1 v5_2 r22 r28 r34 v5_6 v5_7 v6 r38 r39 Kt)))))))))))))) := (hC _ _ _).trans (by kernel_rfl)
theorem g2_110_eq (hC : ∀ key e t, C key e t = t e) (k : Nat) (j0 : Nat) (v2_0 : Int) (v2_1 : Int) (v2_2 : Int) (v2_3 : Int) (v2_4 : Int) (v2_5 : Int) (v2_6 : BY) (v2_7 : Int) (v5_0 : Int) (v5_1 : Int) (v5_2 : Int) (v5_3 : Int) (v5_4 : Int) (v5_5 : Int) (v5_6 : BY) (v5_7 : Int) (v6 : Bool) (v8_0 : BY) (v8_1 : Bool) (Kt : Tk110) : g2_110 C N151 N164 N165 N166 N167 N168 N169 k (j0 + 1) v2_0 v2_1 v2_2 v2_3 v2_4 v2_5 v2_6 v2_7 v5_0 v5_1 v5_2 v5_3 v5_4 v5_5 v5_6 v5_7 v6 v8_0 v8_1 Kt =
  (bif (!v8_1) then (bif (v8_0 == ([] : BY)) then (N169 v5_0 v5_1 v5_2 v5_3 v5_4 v5_5 v5_6 v5_7 fun r44 => (Kt v5_0 v5_1 v5_2 v5_3 v5_4 v5_5 v5_6 v5_7 v6 r44)) else (Kt v5_0 v5_1 v5_2 v5_3 v5_4 v5_5 v5_6 v5_7 v6 false)) else (Kt v5_0 v5_1 v5_2 v5_3 v5_4 v5_5 v5_6 v5_7 v6 false)) := (hC _ _ _).trans (by kernel_rfl)
theorem g3_110_eq (hC : ∀ key e t, C key e t = t e) (k : Nat) (j0 : Nat) (v2_0 : Int) (v2_1 : Int) (v2_2 : Int) (v2_3 : Int) (v2_4 : Int) (v2_5 : Int) (v2_6 : BY) (v2_7 : Int) (v5_0 : Int) (v5_1 : Int) (v5_2 : Int) (v5_3 : Int) (v5_4 : Int) (v5_5 : Int) (v5_6 : BY) (v5_7 : Int) (v6 : Bool) (v8_0 : BY) (v8_1 : Bool) (Kt : Tk110) : g3_110 C N151 N164 N165 N166 N167 N168 N169 k (j0 + 1) v2_0 v2_1 v2_2 v2_3 v2_4 v2_5 v2_6 v2_7 v5_0 v5_1 v5_2 v5_3 v5_4 v5_5 v5_6 v5_7 v6 v8_0 v8_1 Kt =
  (N164 v8_0 v8_1 1 2 fun r45 r46 r47 => (N165 r46 r47 ([58] : BY) fun r48 r49 r50 => (N164 r49 r50 2 2 fun r51 r52 r53 => (N165 r52 r53 ([58] : BY) fun r54 r55 r56 => (N164 r55 r56 2 2 fun r57 r58 r59 => (N166 r58 r59 ([46] : BY) fun r60 r61 r62 => (bif (r60 != 0) then (N167 r61 r62 ([48, 49, 50, 51, 52, 53, 54, 55, 56, 57] : BY) fun r63 r64 r65 => (N151 r63 ([48] : BY) fun r66 => (p4_110 C N151 N164 N165 N166 N167 N168 N169 k j0 v2_0 v2_1 v2_2 v2_3 v2_4 v2_5 v2_6 v2_7 v5_0 v5_1 v5_2 r45 r51 r57 r66 v5_7 v6 r64 r65 Kt))) else (p4_110 C N151 N164 N165 N166 N167 N168 N169 k j0 v2_0 v2_1 v2_2 v2_3 v2_4 v2_5 v2_6 v2_7 v5_0 v5_1 v5_2 r45 r51 r57 v5_6 v5_7 v6 r61 r62 Kt)))))))) := (hC _ _ _).trans (by kernel_rfl)
theorem p4_110_eq (hC : ∀ key e t, C key e t = t e) (k : Nat) (j0 : Nat) (v2_0 : Int) (v2_1 : Int) (v2_2 : Int) (v2_3 : Int) (v2_4 : Int) (v2_5 : Int) (v2_6 : BY) (v2_7 : Int) (v5_0 : Int) (v5_1 : Int) (v5_2 : Int) (v5_3 : Int) (v5_4 : Int) (v5_5 : Int) (v5_6 : BY) (v5_7 : Int) (v6 : Bool) (v8_0 : BY) (v8_1 : Bool) (Kt : Tk110) : p4_110 C N151 N164 N165 N166 N167 N168 N169 k j0 v2_0 v2_1 v2_2 v2_3 v2_4 v2_5 v2_6 v2_7 v5_0 v5_1 v5_2 v5_3 v5_4 v5_5 v5_6 v5_7 v6 v8_0 v8_1 Kt =
  (bif (v8_0 == ([] : BY)) then (g2_110 C N151 N164 N165 N166 N167 N168 N169 k j0 v2_0 v2_1 v2_2 v2_3 v2_4 v2_5 v2_6 v2_7 v5_0 v5_1 v5_2 v5_3 v5_4 v5_5 v5_6 v5_7 v6 v8_0 v8_1 Kt) else (N167 v8_0 v8_1 ([32, 9] : BY) fun r67 r68 r69 => (N166 r68 r69 ([90] : BY) fun r70 r71 r72 => (bif (r70 != 0) then (g2_110 C N151 N164 N165 N166 N167 N168 N169 k j0 v2_0 v2_1 v2_2 v2_3 v2_4 v2_5 v2_6 v2_7 v5_0 v5_1 v5_2 v5_3 v5_4 v5_5 v5_6 v5_7 v6 r71 r72 Kt) else (N165 r71 r72 ([43, 45] : BY) fun r73 r74 r75 => (N168 r74 r75 fun r76 r77 r78 => (bif (r73 == 45) then (p5_110 C N151 N164 N165 N166 N167 N168 N169 k j0 v2_0 v2_1 v2_2 v2_3 v2_4 v2_5 v2_6 v2_7 v5_0 v5_1 v5_2 v5_3 v5_4 v5_5 v5_6 (IntKind.i64.wrap (0 - r76)) v6 r77 r78 Kt) else (p5_110 C N151 N164 N165 N166 N167 N168 N169 k j0 v2_0 v2_1 v2_2 v2_3 v2_4 v2_5 v2_6 v2_7 v5_0 v5_1 v5_2 v5_3 v5_4 v5_5 v5_6 r76 v6 r77 r78 Kt)))))))) := (hC _ _ _).trans (by kernel_rfl)
theorem p5_110_eq (hC : ∀ key e t, C key e t = t e) (k : Nat) (j0 : Nat) (v2_0 : Int) (v2_1 : Int) (v2_2 : Int) (v2_3 : Int) (v2_4 : Int) (v2_5 : Int) (v2_6 : BY) (v2_7 : Int) (v5_0 : Int) (v5_1 : Int) (v5_2 : Int) (v5_3 : Int) (v5_4 : Int) (v5_5 : Int) (v5_6 : BY) (v5_7 : Int) (v6 : Bool) (v8_0 : BY) (v8_1 : Bool) (Kt : Tk110) : p5_110 C N151 N164 N165 N166 N167 N168 N169 k j0 v2_0 v2_1 v2_2 v2_3 v2_4 v2_5 v2_6 v2_7 v5_0 v5_1 v5_2 v5_3 v5_4 v5_5 v5_6 v5_7 v6 v8_0 v8_1 Kt =
  (bif (!v8_1) then (bif (v8_0 == ([] : BY)) then (N169 v5_0 v5_1 v5_2 v5_3 v5_4 v5_5 v5_6 v5_7 fun r79 => (Kt v5_0 v5_1 v5_2 v5_3 v5_4 v5_5 v5_6 v5_7 v6 r79)) else (Kt v5_0 v5_1 v5_2 v5_3 v5_4 v5_5 v5_6 v5_7 v6 false)) else (Kt v5_0 v5_1 v5_2 v5_3 v5_4 v5_5 v5_6 v5_7 v6 false)) := (hC _ _ _).trans (by kernel_rfl)
end
theorem as110 {G : World → Prop} {ng : Nat} (S : Stays Tryz.prog G ng) {N151 : Ty151} {N164 : Ty164} {N165 : Ty165} {N166 : Ty166} {N167 : Ty167} {N168 : Ty168} {N169 : Ty169} (h151 : FnIs Tryz.prog G ng 151 (adp151 N151)) (h164 : FnIs Tryz.prog G ng 164 (adp164 N164)) (h165 : FnIs Tryz.prog G ng 165 (adp165 N165)) (h166 : FnIs Tryz.prog G ng 166 (adp166 N166)) (h167 : FnIs Tryz.prog G ng 167 (adp167 N167)) (h168 : FnIs Tryz.prog G ng 168 (adp168 N168)) (h169 : FnIs Tryz.prog G ng 169 (adp169 N169)) {A : Ty110} (hA : ∀ (a0 : BY) (Kt : Tk110) (r : Out), A a0 Kt = some r → run110 cut0 N151 N164 N165 N166 N167 N168 N169 big a0 Kt = some r) : FnIs Tryz.prog G ng 110 (adp110 A) := by
  refine spec_run cut0_eq S (l := gam110 N151 N164 N165 N166 N167 N168 N169) (by intro p hp; simp only [gam110, List.mem_cons, List.not_mem_nil, or_false] at hp; rcases hp with rfl | rfl | rfl | rfl | rfl | rfl | rfl <;> assumption) Tryz.func110 (by kernel_rfl) (nn := 5) (Lv := lvs110) (k := big) fun rc cs K r h => ?_
  unfold adp110 at h
  split at h
  · exact ⟨_, hA _ _ _ h, fun p hp => by unfold tok110 at hp; split at hp; exact hp; cases hp⟩
  · cases h

/-! (targum/stamp.moment).put -/
def lvs111 : Nat → Option (List (Nat × Co))
  | 577 => some [(1, .k), (2, .k), (4, .k)]
  | 834 => some [(1, .k), (2, .k)]
  | 1026 => some [(1, .k), (2, .k)]
  | 1344 => some [(1, .k), (2, .k)]
  | 1409 => some [(1, .k), (2, .k)]
  | _ => none
section
variable (C : Nat → Env → (Env → Option Out) → Option Out) (N170 : Ty170)
def gam111 : List (Nat × Fn1) := [(170, adp170 N170)]
noncomputable def bod111 : Code := Tryz.f111.body.getD .skip
noncomputable def run111 (k : Nat) (a0_year : Int) (a0_month : Int) (a0_day : Int) (a0_hour : Int) (a0_minute : Int) (a0_second : Int) (a0_frac : BY) (a0_zone : Int) (Kt : Tk111) : Option Out := runK Tryz.prog (lookG (gam111 N170)) 4 lvs111 C k Tryz.f111 none [.agg (.ss [.int .i64 a0_year, .int .i64 a0_month, .int .i64 a0_day, .int .i64 a0_hour, .int .i64 a0_minute, .int .i64 a0_second, .str a0_frac, .int .i64 a0_zone])] (tok111 Kt)
noncomputable def p1_111 (k : Nat) (v1_0 : Int) (v1_1 : Int) (v1_2 : Int) (v1_3 : Int) (v1_4 : Int) (v1_5 : Int) (v1_6 : BY) (v1_7 : Int) (v2_0 : Int) (v2_1 : Int) (v2_2 : Int) (v2_3 : Int) (v2_4 : Int) (v2_5 : Int) (v2_6 : BY) (v2_7 : Int) (v4 : Int) (Kt : Tk111) : Option Out := C 577 ([.u, .box 123 (.ss [.int .i64 v1_0, .int .i64 v1_1, .int .i64 v1_2, .int .i64 v1_3, .int .i64 v1_4, .int .i64 v1_5, .str v1_6, .int .i64 v1_7]), .box 123 (.ss [.int .i64 v2_0, .int .i64 v2_1, .int .i64 v2_2, .int .i64 v2_3, .int .i64 v2_4, .int .i64 v2_5, .str v2_6, .int .i64 v2_7]), .u, .c (.s (.int .i64 v4))] ++ us 84) fun e => atK Tryz.prog (lookG (gam111 N170)) 4 lvs111 C k bod111 [1, 1, 1] e (fin Tryz.prog Tryz.f111 none (tok111 Kt))
noncomputable def p2_111 (k : Nat) (v1_0 : Int) (v1_1 : Int) (v1_2 : Int) (v1_3 : Int) (v1_4 : Int) (v1_5 : Int) (v1_6 : BY) (v1_7 : Int) (v2_0 : Int) (v2_1 : Int) (v2_2 : Int) (v2_3 : Int) (v2_4 : Int) (v2_5 : Int) (v2_6 : BY) (v2_7 : Int) (Kt : Tk111) : Option Out := C 834 ([.u, .box 123 (.ss [.int .i64 v1_0, .int .i64 v1_1, .int .i64 v1_2, .int .i64 v1_3, .int .i64 v1_4, .int .i64 v1_5, .str v1_6, .int .i64 v1_7]), .box 123 (.ss [.int .i64 v2_0, .int .i64 v2_1, .int .i64 v2_2, .int .i64 v2_3, .int .i64 v2_4, .int .i64 v2_5, .str v2_6, .int .i64 v2_7])] ++ us 86) fun e => atK Tryz.prog (lookG (gam111 N170)) 4 lvs111 C k bod111 [1, 1, 1, 1, 1] e (fin Tryz.prog Tryz.f111 none (tok111 Kt))
noncomputable def p3_111 (k : Nat) (v1_0 : Int) (v1_1 : Int) (v1_2 : Int) (v1_3 : Int) (v1_4 : Int) (v1_5 : Int) (v1_6 : BY) (v1_7 : Int) (v2_0 : Int) (v2_1 : Int) (v2_2 : Int) (v2_3 : Int) (v2_4 : Int) (v2_5 : Int) (v2_6 : BY) (v2_7 : Int) (Kt : Tk111) : Option Out := C 1026 ([.u, .box 123 (.ss [.int .i64 v1_0, .int .i64 v1_1, .int .i64 v1_2, .int .i64 v1_3, .int .i64 v1_4, .int .i64 v1_5, .str v1_6, .int .i64 v1_7]), .box 123 (.ss [.int .i64 v2_0, .int .i64 v2_1, .int .i64 v2_2, .int .i64 v2_3, .int .i64 v2_4, .int .i64 v2_5, .str v2_6, .int .i64 v2_7])] ++ us 86) fun e => atK Tryz.prog (lookG (gam111 N170)) 4 lvs111 C k bod111 [1, 1, 1, 1, 1, 1] e (fin Tryz.prog Tryz.f111 none (tok111 Kt))
noncomputable def p4_111 (k : Nat) (v1_0 : Int) (v1_1 : Int) (v1_2 : Int) (v1_3 : Int) (v1_4 : Int) (v1_5 : Int) (v1_6 : BY) (v1_7 : Int) (v2_0 : Int) (v2_1 : Int) (v2_2 : Int) (v2_3 : Int) (v2_4 : Int) (v2_5 : Int) (v2_6 : BY) (v2_7 : Int) (Kt : Tk111) : Option Out := C 1344 ([.u, .box 123 (.ss [.int .i64 v1_0, .int .i64 v1_1, .int .i64 v1_2, .int .i64 v1_3, .int .i64 v1_4, .int .i64 v1_5, .str v1_6, .int .i64 v1_7]), .box 123 (.ss [.int .i64 v2_0, .int .i64 v2_1, .int .i64 v2_2, .int .i64 v2_3, .int .i64 v2_4, .int .i64 v2_5, .str v2_6, .int .i64 v2_7])] ++ us 86) fun e => atK Tryz.prog (lookG (gam111 N170)) 4 lvs111 C k bod111 [1, 1, 1, 1, 1, 1, 0, 1, 0, 1, 1] e (fin Tryz.prog Tryz.f111 none (tok111 Kt))
noncomputable def p5_111 (k : Nat) (v1_0 : Int) (v1_1 : Int) (v1_2 : Int) (v1_3 : Int) (v1_4 : Int) (v1_5 : Int) (v1_6 : BY) (v1_7 : Int) (v2_0 : Int) (v2_1 : Int) (v2_2 : Int) (v2_3 : Int) (v2_4 : Int) (v2_5 : Int) (v2_6 : BY) (v2_7 : Int) (Kt : Tk111) : Option Out := C 1409 ([.u, .box 123 (.ss [.int .i64 v1_0, .int .i64 v1_1, .int .i64 v1_2, .int .i64 v1_3, .int .i64 v1_4, .int .i64 v1_5, .str v1_6, .int .i64 v1_7]), .box 123 (.ss [.int .i64 v2_0, .int .i64 v2_1, .int .i64 v2_2, .int .i64 v2_3, .int .i64 v2_4, .int .i64 v2_5, .str v2_6, .int .i64 v2_7])] ++ us 86) fun e => atK Tryz.prog (lookG (gam111 N170)) 4 lvs111 C k bod111 [1, 1, 1, 1, 1, 1, 1] e (fin Tryz.prog Tryz.f111 none (tok111 Kt))
theorem run111_eq (k : Nat) (a0_year : Int) (a0_month : Int) (a0_day : Int) (a0_hour : Int) (a0_minute : Int) (a0_second : Int) (a0_frac : BY) (a0_zone : Int) (Kt : Tk111) : run111 C N170 k a0_year a0_month a0_day a0_hour a0_minute a0_second a0_frac a0_zone Kt =
  (bif (decide ((IntKind.i64.wrap ((IntKind.i64.wrap ((IntKind.i64.wrap ((60 : Int) * a0_hour)) + a0_minute)) - a0_zone)) < 0)) then (p1_111 C N170 k a0_year a0_month (IntKind.i64.wrap (a0_day - 1)) a0_hour a0_minute a0_second a0_frac a0_zone 0 0 0 0 0 0 ([] : BY) 0 (IntKind.i64.wrap ((IntKind.i64.wrap ((IntKind.i64.wrap ((IntKind.i64.wrap ((60 : Int) * a0_hour)) + a0_minute)) - a0_zone)) + 1440)) Kt) else (bif (decide ((IntKind.i64.wrap ((IntKind.i64.wrap ((IntKind.i64.wrap ((60 : Int) * a0_hour)) + a0_minute)) - a0_zone)) ≥ 1440)) then (p1_111 C N170 k a0_year a0_month (IntKind.i64.wrap (a0_day + 1)) a0_hour a0_minute a0_second a0_frac a0_zone 0 0 0 0 0 0 ([] : BY) 0 (IntKind.i64.wrap ((IntKind.i64.wrap ((IntKind.i64.wrap ((IntKind.i64.wrap ((60 : Int) * a0_hour)) + a0_minute)) - a0_zone)) - 1440)) Kt) else (p1_111 C N170 k a0_year a0_month a0_day a0_hour a0_minute a0_second a0_frac a0_zone 0 0 0 0 0 0 ([] : BY) 0 (IntKind.i64.wrap ((IntKind.i64.wrap ((IntKind.i64.wrap ((60 : Int) * a0_hour)) + a0_minute)) - a0_zone)) Kt))) := by kernel_rfl
theorem p1_111_eq (hC : ∀ key e t, C key e t = t e) (k : Nat) (v1_0 : Int) (v1_1 : Int) (v1_2 : Int) (v1_3 : Int) (v1_4 : Int) (v1_5 : Int) (v1_6 : BY) (v1_7 : Int) (v2_0 : Int) (v2_1 : Int) (v2_2 : Int) (v2_3 : Int) (v2_4 : Int) (v2_5 : Int) (v2_6 : BY) (v2_7 : Int) (v4 : Int) (Kt : Tk111) : p1_111 C N170 k v1_0 v1_1 v1_2 v1_3 v1_4 v1_5 v1_6 v1_7 v2_0 v2_1 v2_2 v2_3 v2_4 v2_5 v2_6 v2_7 v4 Kt =
  (N170 v1_0 v1_1 fun r1 => (bif (decide (v1_2 > r1)) then (p2_111 C N170 k v1_0 (IntKind.i64.wrap (v1_1 + 1)) 1 (IntKind.i64.wrap (v4.tdiv 60)) (v4.tmod 60) v1_5 v1_6 v1_7 v2_0 v2_1 v2_2 v2_3 v2_4 v2_5 v2_6 v2_7 Kt) else (p2_111 C N170 k v1_0 v1_1 v1_2 (IntKind.i64.wrap (v4.tdiv 60)) (v4.tmod 60) v1_5 v1_6 v1_7 v2_0 v2_1 v2_2 v2_3 v2_4 v2_5 v2_6 v2_7 Kt))) := (hC _ _ _).trans (by kernel_rfl)
theorem p2_111_eq (hC : ∀ key e t, C key e t = t e) (k : Nat) (v1_0 : Int) (v1_1 : Int) (v1_2 : Int) (v1_3 : Int) (v1_4 : Int) (v1_5 : Int) (v1_6 : BY) (v1_7 : Int) (v2_0 : Int) (v2_1 : Int) (v2_2 : Int) (v2_3 : Int) (v2_4 : Int) (v2_5 : Int) (v2_6 : BY) (v2_7 : Int) (Kt : Tk111) : p2_111 C N170 k v1_0 v1_1 v1_2 v1_3 v1_4 v1_5 v1_6 v1_7 v2_0 v2_1 v2_2 v2_3 v2_4 v2_5 v2_6 v2_7 Kt =
  (bif (decide (v1_1 > 12)) then (p3_111 C N170 k (IntKind.i64.wrap (v1_0 + 1)) 1 v1_2 v1_3 v1_4 v1_5 v1_6 v1_7 v2_0 v2_1 v2_2 v2_3 v2_4 v2_5 v2_6 v2_7 Kt) else (p3_111 C N170 k v1_0 v1_1 v1_2 v1_3 v1_4 v1_5 v1_6 v1_7 v2_0 v2_1 v2_2 v2_3 v2_4 v2_5 v2_6 v2_7 Kt)) := (hC _ _ _).trans (by kernel_rfl)
theorem p3_111_eq (hC : ∀ key e t, C key e t = t e) (k : Nat) (v1_0 : Int) (v1_1 : Int) (v1_2 : Int) (v1_3 : Int) (v1_4 : Int) (v1_5 : Int) (v1_6 : BY) (v1_7 : Int) (v2_0 : Int) (v2_1 : Int) (v2_2 : Int) (v2_3 : Int) (v2_4 : Int) (v2_5 : Int) (v2_6 : BY) (v2_7 : Int) (Kt : Tk111) : p3_111 C N170 k v1_0 v1_1 v1_2 v1_3 v1_4 v1_5 v1_6 v1_7 v2_0 v2_1 v2_2 v2_3 v2_4 v2_5 v2_6 v2_7 Kt =
  (bif (decide (v1_2 < 1)) then (bif (decide ((IntKind.i64.wrap (v1_1 - 1)) < 1)) then (p4_111 C N170 k (IntKind.i64.wrap (v1_0 - 1)) 12 v1_2 v1_3 v1_4 v1_5 v1_6 v1_7 v2_0 v2_1 v2_2 v2_3 v2_4 v2_5 v2_6 v2_7 Kt) else (p4_111 C N170 k v1_0 (IntKind.i64.wrap (v1_1 - 1)) v1_2 v1_3 v1_4 v1_5 v1_6 v1_7 v2_0 v2_1 v2_2 v2_3 v2_4 v2_5 v2_6 v2_7 Kt)) else (p5_111 C N170 k v1_0 v1_1 v1_2 v1_3 v1_4 v1_5 v1_6 v1_7 v2_0 v2_1 v2_2 v2_3 v2_4 v2_5 v2_6 v2_7 Kt)) := (hC _ _ _).trans (by kernel_rfl)
theorem p4_111_eq (hC : ∀ key e t, C key e t = t e) (k : Nat) (v1_0 : Int) (v1_1 : Int) (v1_2 : Int) (v1_3 : Int) (v1_4 : Int) (v1_5 : Int) (v1_6 : BY) (v1_7 : Int) (v2_0 : Int) (v2_1 : Int) (v2_2 : Int) (v2_3 : Int) (v2_4 : Int) (v2_5 : Int) (v2_6 : BY) (v2_7 : Int) (Kt : Tk111) : p4_111 C N170 k v1_0 v1_1 v1_2 v1_3 v1_4 v1_5 v1_6 v1_7 v2_0 v2_1 v2_2 v2_3 v2_4 v2_5 v2_6 v2_7 Kt =
  (N170 v1_0 v1_1 fun r2 => (p5_111 C N170 k v1_0 v1_1 r2 v1_3 v1_4 v1_5 v1_6 v1_7 v2_0 v2_1 v2_2 v2_3 v2_4 v2_5 v2_6 v2_7 Kt)) := (hC _ _ _).trans (by kernel_rfl)
theorem p5_111_eq (hC : ∀ key e t, C key e t = t e) (k : Nat) (v1_0 : Int) (v1_1 : Int) (v1_2 : Int) (v1_3 : Int) (v1_4 : Int) (v1_5 : Int) (v1_6 : BY) (v1_7 : Int) (v2_0 : Int) (v2_1 : Int) (v2_2 : Int) (v2_3 : Int) (v2_4 : Int) (v2_5 : Int) (v2_6 : BY) (v2_7 : Int) (Kt : Tk111) : p5_111 C N170 k v1_0 v1_1 v1_2 v1_3 v1_4 v1_5 v1_6 v1_7 v2_0 v2_1 v2_2 v2_3 v2_4 v2_5 v2_6 v2_7 Kt =
  (bif (decide (v1_0 ≥ 0)) then (Kt v1_0 v1_1 v1_2 v1_3 v1_4 v1_5 v1_6 v1_7 (decide (v1_0 ≤ 9999))) else (Kt v1_0 v1_1 v1_2 v1_3 v1_4 v1_5 v1_6 v1_7 false)) := (hC _ _ _).trans (by kernel_rfl)
end
theorem as111 {G : World → Prop} {ng : Nat} (S : Stays Tryz.prog G ng) {N170 : Ty170} (h170 : FnIs Tryz.prog G ng 170 (adp170 N170)) {A : Ty111} (hA : ∀ (a0_year : Int) (a0_month : Int) (a0_day : Int) (a0_hour : Int) (a0_minute : Int) (a0_second : Int) (a0_frac : BY) (a0_zone : Int) (Kt : Tk111) (r : Out), A a0_year a0_month a0_day a0_hour a0_minute a0_second a0_frac a0_zone Kt = some r → run111 cut0 N170 big a0_year a0_month a0_day a0_hour a0_minute a0_second a0_frac a0_zone Kt = some r) : FnIs Tryz.prog G ng 111 (adp111 A) := by
  refine spec_run cut0_eq S (l := gam111 N170) (by intro p hp; simp only [gam111, List.mem_cons, List.not_mem_nil, or_false] at hp; rcases hp with rfl <;> assumption) Tryz.func111 (by kernel_rfl) (nn := 4) (Lv := lvs111) (k := big) fun rc cs K r h => ?_
  unfold adp111 at h
  split at h
  · exact ⟨_, hA _ _ _ _ _ _ _ _ _ _ h, fun p hp => by unfold tok111 at hp; split at hp; exact hp; cases hp⟩
  · cases h

/-! targum/stamp.wide -/
def lvs112 : Nat → Option (List (Nat × Co))
  | _ => none
section
variable (C : Nat → Env → (Env → Option Out) → Option Out) (N171 : Ty171) (N172 : Ty172)
def gam112 : List (Nat × Fn1) := [(171, adp171 N171), (172, adp172 N172)]
noncomputable def bod112 : Code := Tryz.f112.body.getD .skip
noncomputable def run112 (k : Nat) (a0 : Int) (a1 : Int) (Kt : Tk112) : Option Out := runK Tryz.prog (lookG (gam112 N171 N172)) 6 lvs112 C k Tryz.f112 none [.s (.int .i64 a0), .s (.int .i64 a1)] (tok112 Kt)
theorem run112_eq (k : Nat) (a0 : Int) (a1 : Int) (Kt : Tk112) : run112 C N171 N172 k a0 a1 Kt =
  (N171 a0 fun r1 => (N172 ([48] : BY) (IntKind.i64.wrap (a1 - (r1.length : Int))) fun r2 => ((cat r2 r1).bind fun s3 => (Kt s3)))) := by kernel_rfl
end
theorem as112 {G : World → Prop} {ng : Nat} (S : Stays Tryz.prog G ng) {N171 : Ty171} {N172 : Ty172} (h171 : FnIs Tryz.prog G ng 171 (adp171 N171)) (h172 : FnIs Tryz.prog G ng 172 (adp172 N172)) {A : Ty112} (hA : ∀ (a0 : Int) (a1 : Int) (Kt : Tk112) (r : Out), A a0 a1 Kt = some r → run112 cut0 N171 N172 big a0 a1 Kt = some r) : FnIs Tryz.prog G ng 112 (adp112 A) := by
  refine spec_run cut0_eq S (l := gam112 N171 N172) (by intro p hp; simp only [gam112, List.mem_cons, List.not_mem_nil, or_false] at hp; rcases hp with rfl | rfl <;> assumption) Tryz.func112 (by kernel_rfl) (nn := 6) (Lv := lvs112) (k := big) fun rc cs K r h => ?_
  unfold adp112 at h
  split at h
  · exact ⟨_, hA _ _ _ _ h, fun p hp => by unfold tok112 at hp; split at hp; exact hp; cases hp⟩
  · cases h

/-! (*targum/stamp.text).digits -/
def lvs164 : Nat → Option (List (Nat × Co))
  | 513 => some [(0, .k), (1, .k), (7, .k), (8, .k)]
  | 577 => some [(0, .k), (7, .k)]
  | 1000195 => some [(0, .k), (1, .k), (2, .k), (7, .k), (8, .k)]
  | _ => none
section
variable (C : Nat → Env → (Env → Option Out) → Option Out) (N166 : Ty166)
def gam164 : List (Nat × Fn1) := [(166, adp166 N166)]
noncomputable def bod164 : Code := Tryz.f164.body.getD .skip
noncomputable def run164 (k : Nat) (q_s : BY) (q_bad : Bool) (a1 : Int) (a2 : Int) (Kt : Tk164) : Option Out := runK Tryz.prog (lookG (gam164 N166)) 10 lvs164 C k Tryz.f164 (some (164, (.ss [.str q_s, .bool q_bad]))) [.s (.int .i64 a1), .s (.int .i64 a2)] (tok164 Kt)
noncomputable def l1_164 (k : Nat) (j0 : Nat) (v0_0 : BY) (v0_1 : Bool) (v1 : Int) (v2 : Int) (v7 : Int) (v8 : Int) (Kt : Tk164) : Option Out := C 1000195 ([.box 164 (.ss [.str v0_0, .bool v0_1]), .c (.s (.int .i64 v1)), .c (.s (.int .i64 v2)), .u, .u, .u, .u, .c (.s (.int .i64 v7)), .c (.s (.int .i64 v8))] ++ us 29) fun e => headK Tryz.prog (lookG (gam164 N166)) 10 lvs164 C k j0 bod164 [1, 1, 0, 0] e (fin Tryz.prog Tryz.f164 (some 164) (tok164 Kt))
noncomputable def p2_164 (k : Nat) (v0_0 : BY) (v0_1 : Bool) (v1 : Int) (v7 : Int) (v8 : Int) (Kt : Tk164) : Option Out := C 513 ([.box 164 (.ss [.str v0_0, .bool v0_1]), .c (.s (.int .i64 v1)), .u, .u, .u, .u, .u, .c (.s (.int .i64 v7)), .c (.s (.int .i64 v8))] ++ us 29) fun e => atK Tryz.prog (lookG (gam164 N166)) 10 lvs164 C k bod164 [1, 1, 1] e (fin Tryz.prog Tryz.f164 (some 164) (tok164 Kt))
noncomputable def p3_164 (k : Nat) (v0_0 : BY) (v0_1 : Bool) (v7 : Int) (Kt : Tk164) : Option Out := C 577 ([.box 164 (.ss [.str v0_0, .bool v0_1])] ++ us 6 ++ [.c (.s (.int .i64 v7))] ++ us 30) fun e => atK Tryz.prog (lookG (gam164 N166)) 10 lvs164 C k bod164 [1, 1, 1, 1] e (fin Tryz.prog Tryz.f164 (some 164) (tok164 Kt))
theorem run164_eq (k : Nat) (q_s : BY) (q_bad : Bool) (a1 : Int) (a2 : Int) (Kt : Tk164) : run164 C N166 k q_s q_bad a1 a2 Kt =
  (l1_164 C N166 k k q_s q_bad a1 a2 0 0 Kt) := by kernel_rfl
theorem l1_164_eq (hC : ∀ key e t, C key e t = t e) (k : Nat) (j0 : Nat) (v0_0 : BY) (v0_1 : Bool) (v1 : Int) (v2 : Int) (v7 : Int) (v8 : Int) (Kt : Tk164) : l1_164 C N166 k (j0 + 1) v0_0 v0_1 v1 v2 v7 v8 Kt =
  (bif (decide (v8 < v2)) then (N166 v0_0 v0_1 ([48, 49, 50, 51, 52, 53, 54, 55, 56, 57] : BY) fun r1 r2 r3 => (bif (r1 == 0) then (p2_164 C N166 k r2 r3 v1 v7 v8 Kt) else (l1_164 C N166 k j0 r2 r3 v1 v2 (IntKind.i64.wrap ((IntKind.i64.wrap ((10 : Int) * v7)) + (IntKind.i64.wrap (IntKind.u8.wrap (r1 - 48))))) (IntKind.i64.wrap (v8 + 1)) Kt))) else (p2_164 C N166 k v0_0 v0_1 v1 v7 v8 Kt)) := (hC _ _ _).trans (by kernel_rfl)
theorem p2_164_eq (hC : ∀ key e t, C key e t = t e) (k : Nat) (v0_0 : BY) (v0_1 : Bool) (v1 : Int) (v7 : Int) (v8 : Int) (Kt : Tk164) : p2_164 C N166 k v0_0 v0_1 v1 v7 v8 Kt =
  (bif v0_1 then (p3_164 C N166 k v0_0 true v7 Kt) else (p3_164 C N166 k v0_0 (decide (v8 < v1)) v7 Kt)) := (hC _ _ _).trans (by kernel_rfl)
theorem p3_164_eq (hC : ∀ key e t, C key e t = t e) (k : Nat) (v0_0 : BY) (v0_1 : Bool) (v7 : Int) (Kt : Tk164) : p3_164 C N166 k v0_0 v0_1 v7 Kt =
  (Kt v7 v0_0 v0_1) := (hC _ _ _).trans (by kernel_rfl)
end
theorem as164 {G : World → Prop} {ng : Nat} (S : Stays Tryz.prog G ng) {N166 : Ty166} (h166 : FnIs Tryz.prog G ng 166 (adp166 N166)) {A : Ty164} (hA : ∀ (q_s : BY) (q_bad : Bool) (a1 : Int) (a2 : Int) (Kt : Tk164) (r : Out), A q_s q_bad a1 a2 Kt = some r → run164 cut0 N166 big q_s q_bad a1 a2 Kt = some r) : FnIs Tryz.prog G ng 164 (adp164 A) := by
  refine spec_run cut0_eq S (l := gam164 N166) (by intro p hp; simp only [gam164, List.mem_cons, List.not_mem_nil, or_false] at hp; rcases hp with rfl <;> assumption) Tryz.func164 (by kernel_rfl) (nn := 10) (Lv := lvs164) (k := big) fun rc cs K r h => ?_
  unfold adp164 at h
  split at h
  · exact ⟨_, hA _ _ _ _ _ _ h, fun p hp => by unfold tok164 at hp; split at hp; exact hp; cases hp⟩
  · cases h

/-! (*targum/stamp.text).must -/
def lvs165 : Nat → Option (List (Nat × Co))
  | 257 => some [(0, .k), (5, .k)]
  | _ => none
section
variable (C : Nat → Env → (Env → Option Out) → Option Out) (N166 : Ty166)
def gam165 : List (Nat × Fn1) := [(166, adp166 N166)]
noncomputable def bod165 : Code := Tryz.f165.body.getD .skip
noncomputable def run165 (k : Nat) (q_s : BY) (q_bad : Bool) (a1 : BY) (Kt : Tk165) : Option Out := runK Tryz.prog (lookG (gam165 N166)) 6 lvs165 C k Tryz.f165 (some (164, (.ss [.str q_s, .bool q_bad]))) [.s (.str a1)] (tok165 Kt)
noncomputable def p1_165 (k : Nat) (v0_0 : BY) (v0_1 : Bool) (v5 : Int) (Kt : Tk165) : Option Out := C 257 ([.box 164 (.ss [.str v0_0, .bool v0_1]), .u, .u, .u, .u, .c (.s (.int .u8 v5))] ++ us 15) fun e => atK Tryz.prog (lookG (gam165 N166)) 6 lvs165 C k bod165 [1, 1, 1] e (fin Tryz.prog Tryz.f165 (some 164) (tok165 Kt))
theorem run165_eq (k : Nat) (q_s : BY) (q_bad : Bool) (a1 : BY) (Kt : Tk165) : run165 C N166 k q_s q_bad a1 Kt =
  (N166 q_s q_bad a1 fun r1 r2 r3 => (bif r3 then (p1_165 C N166 k r2 true r1 Kt) else (p1_165 C N166 k r2 (r1 == 0) r1 Kt))) := by kernel_rfl
theorem p1_165_eq (hC : ∀ key e t, C key e t = t e) (k : Nat) (v0_0 : BY) (v0_1 : Bool) (v5 : Int) (Kt : Tk165) : p1_165 C N166 k v0_0 v0_1 v5 Kt =
  (Kt v5 v0_0 v0_1) := (hC _ _ _).trans (by kernel_rfl)
end
theorem as165 {G : World → Prop} {ng : Nat} (S : Stays Tryz.prog G ng) {N166 : Ty166} (h166 : FnIs Tryz.prog G ng 166 (adp166 N166)) {A : Ty165} (hA : ∀ (q_s : BY) (q_bad : Bool) (a1 : BY) (Kt : Tk165) (r : Out), A q_s q_bad a1 Kt = some r → run165 cut0 N166 big q_s q_bad a1 Kt = some r) : FnIs Tryz.prog G ng 165 (adp165 A) := by
  refine spec_run cut0_eq S (l := gam165 N166) (by intro p hp; simp only [gam165, List.mem_cons, List.not_mem_nil, or_false] at hp; rcases hp with rfl <;> assumption) Tryz.func165 (by kernel_rfl) (nn := 6) (Lv := lvs165) (k := big) fun rc cs K r h => ?_
  unfold adp165 at h
  split at h
  · exact ⟨_, hA _ _ _ _ _ h, fun p hp => by unfold tok165 at hp; split at hp; exact hp; cases hp⟩
  · cases h

/-! (*targum/stamp.text).sign -/
def lvs166 : Nat → Option (List (Nat × Co))
  | 194 => some [(0, .k), (20, .k)]
  | _ => none
section
variable (C : Nat → Env → (Env → Option Out) → Option Out) (N155 : Ty155)
def gam166 : List (Nat × Fn1) := [(155, adp155 N155)]
noncomputable def bod166 : Code := Tryz.f166.body.getD .skip
noncomputable def run166 (k : Nat) (q_s : BY) (q_bad : Bool) (a1 : BY) (Kt : Tk166) : Option Out := runK Tryz.prog (lookG (gam166 N155)) 6 lvs166 C k Tryz.f166 (some (164, (.ss [.str q_s, .bool q_bad]))) [.s (.str a1)] (tok166 Kt)
noncomputable def p1_166 (k : Nat) (v0_0 : BY) (v0_1 : Bool) (v20 : Bool) (Kt : Tk166) : Option Out := C 194 ([.box 164 (.ss [.str v0_0, .bool v0_1])] ++ us 19 ++ [.c (.s (.bool v20))] ++ us 14) fun e => atK Tryz.prog (lookG (gam166 N155)) 6 lvs166 C k bod166 [1, 0, 1] e (fin Tryz.prog Tryz.f166 (some 164) (tok166 Kt))
theorem run166_eq (k : Nat) (q_s : BY) (q_bad : Bool) (a1 : BY) (Kt : Tk166) : run166 C N155 k q_s q_bad a1 Kt =
  (bif (q_s == ([] : BY)) then (p1_166 C N155 k q_s q_bad true Kt) else ((at? q_s 0).bind fun b1 => (N155 a1 (b1.toNat : Int) fun r2 => (p1_166 C N155 k q_s q_bad (decide (r2 < 0)) Kt)))) := by kernel_rfl
theorem p1_166_eq (hC : ∀ key e t, C key e t = t e) (k : Nat) (v0_0 : BY) (v0_1 : Bool) (v20 : Bool) (Kt : Tk166) : p1_166 C N155 k v0_0 v0_1 v20 Kt =
  (bif v20 then (Kt 0 v0_0 v0_1) else ((at? v0_0 0).bind fun b3 => ((cut v0_0 (some (1 : Int)) none).bind fun s4 => (Kt (b3.toNat : Int) s4 v0_1)))) := (hC _ _ _).trans (by kernel_rfl)
end
theorem as166 {G : World → Prop} {ng : Nat} (S : Stays Tryz.prog G ng) {N155 : Ty155} (h155 : FnIs Tryz.prog G ng 155 (adp155 N155)) {A : Ty166} (hA : ∀ (q_s : BY) (q_bad : Bool) (a1 : BY) (Kt : Tk166) (r : Out), A q_s q_bad a1 Kt = some r → run166 cut0 N155 big q_s q_bad a1 Kt = some r) : FnIs Tryz.prog G ng 166 (adp166 A) := by
  refine spec_run cut0_eq S (l := gam166 N155) (by intro p hp; simp only [gam166, List.mem_cons, List.not_mem_nil, or_false] at hp; rcases hp with rfl <;> assumption) Tryz.func166 (by kernel_rfl) (nn := 6) (Lv := lvs166) (k := big) fun rc cs K r h => ?_
  unfold adp166 at h
  split at h
  · exact ⟨_, hA _ _ _ _ _ h, fun p hp => by unfold tok166 at hp; split at hp; exact hp; cases hp⟩
  · cases h

/-! (*targum/stamp.text).row -/
def lvs167 : Nat → Option (List (Nat × Co))
  | _ => none
section
variable (C : Nat → Env → (Env → Option Out) → Option Out) (N213 : Ty213)
def gam167 : List (Nat × Fn1) := [(213, adp213 N213)]
noncomputable def bod167 : Code := Tryz.f167.body.getD .skip
noncomputable def run167 (k : Nat) (q_s : BY) (q_bad : Bool) (a1 : BY) (Kt : Tk167) : Option Out := runK Tryz.prog (lookG (gam167 N213)) 6 lvs167 C k Tryz.f167 (some (164, (.ss [.str q_s, .bool q_bad]))) [.s (.str a1)] (tok167 Kt)
theorem run167_eq (k : Nat) (q_s : BY) (q_bad : Bool) (a1 : BY) (Kt : Tk167) : run167 C N213 k q_s q_bad a1 Kt =
  (N213 q_s a1 fun r1 => ((cut q_s none (some (IntKind.i64.wrap ((q_s.length : Int) - (r1.length : Int))))).bind fun s2 => (Kt s2 r1 q_bad))) := by kernel_rfl
end
theorem as167 {G : World → Prop} {ng : Nat} (S : Stays Tryz.prog G ng) {N213 : Ty213} (h213 : FnIs Tryz.prog G ng 213 (adp213 N213)) {A : Ty167} (hA : ∀ (q_s : BY) (q_bad : Bool) (a1 : BY) (Kt : Tk167) (r : Out), A q_s q_bad a1 Kt = some r → run167 cut0 N213 big q_s q_bad a1 Kt = some r) : FnIs Tryz.prog G ng 167 (adp167 A) := by
  refine spec_run cut0_eq S (l := gam167 N213) (by intro p hp; simp only [gam167, List.mem_cons, List.not_mem_nil, or_false] at hp; rcases hp with rfl <;> assumption) Tryz.func167 (by kernel_rfl) (nn := 6) (Lv := lvs167) (k := big) fun rc cs K r h => ?_
  unfold adp167 at h
  split at h
  · exact ⟨_, hA _ _ _ _ _ h, fun p hp => by unfold tok167 at hp; split at hp; exact hp; cases hp⟩
  · cases h

/-! (*targum/stamp.text).zone -/
def lvs168 : Nat → Option (List (Nat × Co))
  | 321 => some [(0, .k), (3, .k), (4, .k)]
  | 385 => some [(0, .k), (3, .k), (4, .k)]
  | _ => none
section
variable (C : Nat → Env → (Env → Option Out) → Option Out) (N164 : Ty164) (N166 : Ty166)
def gam168 : List (Nat × Fn1) := [(164, adp164 N164), (166, adp166 N166)]
noncomputable def bod168 : Code := Tryz.f168.body.getD .skip
noncomputable def run168 (k : Nat) (q_s : BY) (q_bad : Bool) (Kt : Tk168) : Option Out := runK Tryz.prog (lookG (gam168 N164 N166)) 5 lvs168 C k Tryz.f168 (some (164, (.ss [.str q_s, .bool q_bad]))) [] (tok168 Kt)
noncomputable def p1_168 (k : Nat) (v0_0 : BY) (v0_1 : Bool) (v3 : Int) (v4 : Int) (Kt : Tk168) : Option Out := C 321 ([.box 164 (.ss [.str v0_0, .bool v0_1]), .u, .u, .c (.s (.int .i64 v3)), .c (.s (.int .i64 v4))] ++ us 26) fun e => atK Tryz.prog (lookG (gam168 N164 N166)) 5 lvs168 C k bod168 [1, 1, 1] e (fin Tryz.prog Tryz.f168 (some 164) (tok168 Kt))
noncomputable def p2_168 (k : Nat) (v0_0 : BY) (v0_1 : Bool) (v3 : Int) (v4 : Int) (Kt : Tk168) : Option Out := C 385 ([.box 164 (.ss [.str v0_0, .bool v0_1]), .u, .u, .c (.s (.int .i64 v3)), .c (.s (.int .i64 v4))] ++ us 26) fun e => atK Tryz.prog (lookG (gam168 N164 N166)) 5 lvs168 C k bod168 [1, 1, 1, 1] e (fin Tryz.prog Tryz.f168 (some 164) (tok168 Kt))
theorem run168_eq (k : Nat) (q_s : BY) (q_bad : Bool) (Kt : Tk168) : run168 C N164 N166 k q_s q_bad Kt =
  (N164 q_s q_bad 1 2 fun r1 r2 r3 => (N166 r2 r3 ([58] : BY) fun r4 r5 r6 => (bif (r4 != 0) then (N164 r5 r6 2 2 fun r7 r8 r9 => (p1_168 C N164 N166 k r8 r9 r1 r7 Kt)) else (p1_168 C N164 N166 k r5 r6 r1 0 Kt)))) := by kernel_rfl
theorem p1_168_eq (hC : ∀ key e t, C key e t = t e) (k : Nat) (v0_0 : BY) (v0_1 : Bool) (v3 : Int) (v4 : Int) (Kt : Tk168) : p1_168 C N164 N166 k v0_0 v0_1 v3 v4 Kt =
  (bif v0_1 then (p2_168 C N164 N166 k v0_0 true v3 v4 Kt) else (bif (decide (v3 > 23)) then (p2_168 C N164 N166 k v0_0 true v3 v4 Kt) else (p2_168 C N164 N166 k v0_0 (decide (v4 > 59)) v3 v4 Kt))) := (hC _ _ _).trans (by kernel_rfl)
theorem p2_168_eq (hC : ∀ key e t, C key e t = t e) (k : Nat) (v0_0 : BY) (v0_1 : Bool) (v3 : Int) (v4 : Int) (Kt : Tk168) : p2_168 C N164 N166 k v0_0 v0_1 v3 v4 Kt =
  (Kt (IntKind.i64.wrap ((IntKind.i64.wrap ((60 : Int) * v3)) + v4)) v0_0 v0_1) := (hC _ _ _).trans (by kernel_rfl)
end
theorem as168 {G : World → Prop} {ng : Nat} (S : Stays Tryz.prog G ng) {N164 : Ty164} {N166 : Ty166} (h164 : FnIs Tryz.prog G ng 164 (adp164 N164)) (h166 : FnIs Tryz.prog G ng 166 (adp166 N166)) {A : Ty168} (hA : ∀ (q_s : BY) (q_bad : Bool) (Kt : Tk168) (r : Out), A q_s q_bad Kt = some r → run168 cut0 N164 N166 big q_s q_bad Kt = some r) : FnIs Tryz.prog G ng 168 (adp168 A) := by
  refine spec_run cut0_eq S (l := gam168 N164 N166) (by intro p hp; simp only [gam168, List.mem_cons, List.not_mem_nil, or_false] at hp; rcases hp with rfl | rfl <;> assumption) Tryz.func168 (by kernel_rfl) (nn := 5) (Lv := lvs168) (k := big) fun rc cs K r h => ?_
  unfold adp168 at h
  split at h
  · exact ⟨_, hA _ _ _ _ h, fun p hp => by unfold tok168 at hp; split at hp; exact hp; cases hp⟩
  · cases h

/-! (targum/stamp.moment).may -/
def lvs169 : Nat → Option (List (Nat × Co))
  | _ => none
section
variable (C : Nat → Env → (Env → Option Out) → Option Out) (N170 : Ty170)
def gam169 : List (Nat × Fn1) := [(170, adp170 N170)]
noncomputable def bod169 : Code := Tryz.f169.body.getD .skip
noncomputable def run169 (k : Nat) (a0_year : Int) (a0_month : Int) (a0_day : Int) (a0_hour : Int) (a0_minute : Int) (a0_second : Int) (a0_frac : BY) (a0_zone : Int) (Kt : Tk169) : Option Out := runK Tryz.prog (lookG (gam169 N170)) 3 lvs169 C k Tryz.f169 none [.agg (.ss [.int .i64 a0_year, .int .i64 a0_month, .int .i64 a0_day, .int .i64 a0_hour, .int .i64 a0_minute, .int .i64 a0_second, .str a0_frac, .int .i64 a0_zone])] (tok169 Kt)
theorem run169_eq (k : Nat) (a0_year : Int) (a0_month : Int) (a0_day : Int) (a0_hour : Int) (a0_minute : Int) (a0_second : Int) (a0_frac : BY) (a0_zone : Int) (Kt : Tk169) : run169 C N170 k a0_year a0_month a0_day a0_hour a0_minute a0_second a0_frac a0_zone Kt =
  (bif (decide (a0_day ≥ 1)) then (N170 a0_year a0_month fun r1 => (bif (decide (a0_day ≤ r1)) then (bif (decide (a0_hour < 24)) then (bif (decide (a0_minute < 60)) then (Kt (decide (a0_second < 60))) else (Kt false)) else (Kt false)) else (Kt false))) else (Kt false)) := by kernel_rfl
end
theorem as169 {G : World → Prop} {ng : Nat} (S : Stays Tryz.prog G ng) {N170 : Ty170} (h170 : FnIs Tryz.prog G ng 170 (adp170 N170)) {A : Ty169} (hA : ∀ (a0_year : Int) (a0_month : Int) (a0_day : Int) (a0_hour : Int) (a0_minute : Int) (a0_second : Int) (a0_frac : BY) (a0_zone : Int) (Kt : Tk169) (r : Out), A a0_year a0_month a0_day a0_hour a0_minute a0_second a0_frac a0_zone Kt = some r → run169 cut0 N170 big a0_year a0_month a0_day a0_hour a0_minute a0_second a0_frac a0_zone Kt = some r) : FnIs Tryz.prog G ng 169 (adp169 A) := by
  refine spec_run cut0_eq S (l := gam169 N170) (by intro p hp; simp only [gam169, List.mem_cons, List.not_mem_nil, or_false] at hp; rcases hp with rfl <;> assumption) Tryz.func169 (by kernel_rfl) (nn := 3) (Lv := lvs169) (k := big) fun rc cs K r h => ?_
  unfold adp169 at h
  split at h
  · exact ⟨_, hA _ _ _ _ _ _ _ _ _ _ h, fun p hp => by unfold tok169 at hp; split at hp; exact hp; cases hp⟩
  · cases h

/-! targum/stamp.Days -/
def lvs170 : Nat → Option (List (Nat × Co))
  | 194 => some [(0, .k), (1, .k), (5, .k)]
  | 322 => some [(1, .k), (16, .k)]
  | 578 => some [(37, .k)]
  | _ => none
section
variable (C : Nat → Env → (Env → Option Out) → Option Out)
def gam170 : List (Nat × Fn1) := []
noncomputable def bod170 : Code := Tryz.f170.body.getD .skip
noncomputable def run170 (k : Nat) (a0 : Int) (a1 : Int) (Kt : Tk170) : Option Out := runK Tryz.prog (lookG (gam170)) 5 lvs170 C k Tryz.f170 none [.s (.int .i64 a0), .s (.int .i64 a1)] (tok170 Kt)
noncomputable def p1_170 (k : Nat) (v0 : Int) (v1 : Int) (v5 : Bool) (Kt : Tk170) : Option Out := C 194 ([.c (.s (.int .i64 v0)), .c (.s (.int .i64 v1)), .u, .u, .u, .c (.s (.bool v5))] ++ us 46) fun e => atK Tryz.prog (lookG (gam170)) 5 lvs170 C k bod170 [1, 0, 0, 1] e (fin Tryz.prog Tryz.f170 none (tok170 Kt))
noncomputable def p2_170 (k : Nat) (v1 : Int) (v16 : Bool) (Kt : Tk170) : Option Out := C 322 ([.u, .c (.s (.int .i64 v1))] ++ us 14 ++ [.c (.s (.bool v16))] ++ us 35) fun e => atK Tryz.prog (lookG (gam170)) 5 lvs170 C k bod170 [1, 0, 0, 1, 1, 1] e (fin Tryz.prog Tryz.f170 none (tok170 Kt))
noncomputable def p3_170 (k : Nat) (v37 : Bool) (Kt : Tk170) : Option Out := C 578 (us 37 ++ [.c (.s (.bool v37))] ++ us 14) fun e => atK Tryz.prog (lookG (gam170)) 5 lvs170 C k bod170 [1, 0, 0, 1, 1, 1, 1, 1, 1, 1] e (fin Tryz.prog Tryz.f170 none (tok170 Kt))
theorem run170_eq (k : Nat) (a0 : Int) (a1 : Int) (Kt : Tk170) : run170 C k a0 a1 Kt =
  (bif (decide (a0 < 0)) then (p1_170 C k a0 a1 true Kt) else (bif (decide (a1 < 1)) then (p1_170 C k a0 a1 true Kt) else (p1_170 C k a0 a1 (decide (a1 > 12)) Kt))) := by kernel_rfl
theorem p1_170_eq (hC : ∀ key e t, C key e t = t e) (k : Nat) (v0 : Int) (v1 : Int) (v5 : Bool) (Kt : Tk170) : p1_170 C k v0 v1 v5 Kt =
  (bif v5 then (Kt 0) else (bif (v1 == 2) then (bif ((v0.tmod 4) == 0) then (bif ((v0.tmod 100) != 0) then (p2_170 C k v1 true Kt) else (p2_170 C k v1 ((v0.tmod 400) == 0) Kt)) else (p2_170 C k v1 false Kt)) else (p2_170 C k v1 false Kt))) := (hC _ _ _).trans (by kernel_rfl)
theorem p2_170_eq (hC : ∀ key e t, C key e t = t e) (k : Nat) (v1 : Int) (v16 : Bool) (Kt : Tk170) : p2_170 C k v1 v16 Kt =
  (bif v16 then (Kt 29) else (bif (v1 == 2) then (Kt 28) else (bif (v1 == 4) then (p3_170 C k true Kt) else (bif (v1 == 6) then (p3_170 C k true Kt) else (bif (v1 == 9) then (p3_170 C k true Kt) else (p3_170 C k (v1 == 11) Kt)))))) := (hC _ _ _).trans (by kernel_rfl)
theorem p3_170_eq (hC : ∀ key e t, C key e t = t e) (k : Nat) (v37 : Bool) (Kt : Tk170) : p3_170 C k v37 Kt =
  (bif v37 then (Kt 30) else (Kt 31)) := (hC _ _ _).trans (by kernel_rfl)
end
theorem as170 {G : World → Prop} {ng : Nat} (S : Stays Tryz.prog G ng) {A : Ty170} (hA : ∀ (a0 : Int) (a1 : Int) (Kt : Tk170) (r : Out), A a0 a1 Kt = some r → run170 cut0 big a0 a1 Kt = some r) : FnIs Tryz.prog G ng 170 (adp170 A) := by
  refine spec_run cut0_eq S (l := gam170) (by intro p hp; cases hp) Tryz.func170 (by kernel_rfl) (nn := 5) (Lv := lvs170) (k := big) fun rc cs K r h => ?_
  unfold adp170 at h
  split at h
  · exact ⟨_, hA _ _ _ _ h, fun p hp => by unfold tok170 at hp; split at hp; exact hp; cases hp⟩
  · cases h

/-! targum/stamp.cutLeft -/
def lvs213 : Nat → Option (List (Nat × Co))
  | 1000194 => some [(0, .k), (1, .k), (11, .k)]
  | 1000450 => some [(0, .k), (1, .k), (5, .k), (6, .k), (7, .k), (11, .k), (17, .k)]
  | _ => none
section
variable (C : Nat → Env → (Env → Option Out) → Option Out)
def gam213 : List (Nat × Fn1) := []
noncomputable def bod213 : Code := Tryz.f213.body.getD .skip
noncomputable def run213 (k : Nat) (a0 : BY) (a1 : BY) (Kt : Tk213) : Option Out := runK Tryz.prog (lookG (gam213)) 10 lvs213 C k Tryz.f213 none [.s (.str a0), .s (.str a1)] (tok213 Kt)
noncomputable def l1_213 (k : Nat) (j0 : Nat) (v0 : BY) (v1 : BY) (v11_s : BY) (v11_p : Nat) (Kt : Tk213) : Option Out := C 1000194 ([.c (.s (.str v0)), .c (.s (.str v1))] ++ us 9 ++ [.iter v11_s v11_p] ++ us 20) fun e => headK Tryz.prog (lookG (gam213)) 10 lvs213 C k j0 bod213 [1, 0, 1, 0] e (fin Tryz.prog Tryz.f213 none (tok213 Kt))
noncomputable def l2_213 (k : Nat) (j0 : Nat) (j1 : Nat) (v0 : BY) (v1 : BY) (v5 : Int) (v6 : Int) (v7 : Bool) (v11_s : BY) (v11_p : Nat) (v17_s : BY) (v17_p : Nat) (Kt : Tk213) : Option Out := C 1000450 ([.c (.s (.str v0)), .c (.s (.str v1)), .u, .u, .u, .c (.s (.int .i64 v5)), .c (.s (.int .i32 v6)), .c (.s (.bool v7)), .u, .u, .u, .iter v11_s v11_p, .u, .u, .u, .u, .u, .iter v17_s v17_p] ++ us 14) fun e => headK Tryz.prog (lookG (gam213)) 10 lvs213 C k j1 bod213 [1, 0, 1, 0, j0, 1, 1, 0, 1, 1, 0, 1, 0] e (fin Tryz.prog Tryz.f213 none (tok213 Kt))
theorem run213_eq (k : Nat) (a0 : BY) (a1 : BY) (Kt : Tk213) : run213 C k a0 a1 Kt =
  (l1_213 C k k a0 a1 a0 0 Kt) := by kernel_rfl
theorem l1_213_eq (hC : ∀ key e t, C key e t = t e) (k : Nat) (j0 : Nat) (v0 : BY) (v1 : BY) (v11_s : BY) (v11_p : Nat) (Kt : Tk213) : l1_213 C k (j0 + 1) v0 v1 v11_s v11_p Kt =
  (bif decide (v11_p < v11_s.length) then (l2_213 C k j0 k v0 v1 (v11_p : Int) ((Utf8.decode ⟨⟨v11_s⟩⟩ v11_p).1 : Int) false v11_s (v11_p + (Utf8.decode ⟨⟨v11_s⟩⟩ v11_p).2) v1 0 Kt) else (Kt ([] : BY))) := (hC _ _ _).trans (by kernel_rfl)
theorem l2_213_eq (hC : ∀ key e t, C key e t = t e) (k : Nat) (j0 : Nat) (j1 : Nat) (v0 : BY) (v1 : BY) (v5 : Int) (v6 : Int) (v7 : Bool) (v11_s : BY) (v11_p : Nat) (v17_s : BY) (v17_p : Nat) (Kt : Tk213) : l2_213 C k j0 (j1 + 1) v0 v1 v5 v6 v7 v11_s v11_p v17_s v17_p Kt =
  (bif decide (v17_p < v17_s.length) then (bif v7 then (l2_213 C k j0 j1 v0 v1 v5 v6 true v11_s v11_p v17_s (v17_p + (Utf8.decode ⟨⟨v17_s⟩⟩ v17_p).2) Kt) else (l2_213 C k j0 j1 v0 v1 v5 v6 (v6 == ((Utf8.decode ⟨⟨v17_s⟩⟩ v17_p).1 : Int)) v11_s v11_p v17_s (v17_p + (Utf8.decode ⟨⟨v17_s⟩⟩ v17_p).2) Kt)) else (bif (!v7) then ((cut v0 (some v5) none).bind fun s1 => (Kt s1)) else (l1_213 C k j0 v0 v1 v11_s v11_p Kt))) := (hC _ _ _).trans (by kernel_rfl)
end
theorem as213 {G : World → Prop} {ng : Nat} (S : Stays Tryz.prog G ng) {A : Ty213} (hA : ∀ (a0 : BY) (a1 : BY) (Kt : Tk213) (r : Out), A a0 a1 Kt = some r → run213 cut0 big a0 a1 Kt = some r) : FnIs Tryz.prog G ng 213 (adp213 A) := by
  refine spec_run cut0_eq S (l := gam213) (by intro p hp; cases hp) Tryz.func213 (by kernel_rfl) (nn := 10) (Lv := lvs213) (k := big) fun rc cs K r h => ?_
  unfold adp213 at h
  split at h
  · exact ⟨_, hA _ _ _ _ h, fun p hp => by unfold tok213 at hp; split at hp; exact hp; cases hp⟩
  · cases h

/-! targum/stamp.Of -/
def lvs67 : Nat → Option (List (Nat × Co))
  | 897 => some [(7, .k)]
  | _ => none
section
variable (C : Nat → Env → (Env → Option Out) → Option Out) (N43 : Ty43) (N110 : Ty110) (N111 : Ty111) (N112 : Ty112)
def gam67 : List (Nat × Fn1) := [(43, adp43 N43), (110, adp110 N110), (111, adp111 N111), (112, adp112 N112)]
noncomputable def bod67 : Code := Tryz.f67.body.getD .skip
noncomputable def run67 (k : Nat) (a0 : BY) (Kt : Tk67) : Option Out := runK Tryz.prog (lookG (gam67 N43 N110 N111 N112)) 4 lvs67 C k Tryz.f67 none [.s (.str a0)] (tok67 Kt)
noncomputable def p1_67 (k : Nat) (v7 : BY) (Kt : Tk67) : Option Out := C 897 (us 7 ++ [.c (.s (.str v7))] ++ us 57) fun e => atK Tryz.prog (lookG (gam67 N43 N110 N111 N112)) 4 lvs67 C k bod67 [1, 1, 1, 1, 1, 1, 1, 1, 1] e (fin Tryz.prog Tryz.f67 none (tok67 Kt))
theorem run67_eq (k : Nat) (a0 : BY) (Kt : Tk67) : run67 C N43 N110 N111 N112 k a0 Kt =
  (N110 a0 fun r1 r2 r3 r4 r5 r6 r7 r8 r9 r10 => (bif (!r10) then (Kt ([] : BY) false) else (bif r9 then (N43 a0 fun r11 => (Kt r11 true)) else (N111 r1 r2 r3 r4 r5 r6 r7 r8 fun r12 r13 r14 r15 r16 r17 r18 r19 r20 => (bif (!r20) then (Kt ([] : BY) false) else (N112 r12 4 fun r21 => ((cat r21 ([45] : BY)).bind fun s22 => (N112 r13 2 fun r23 => ((cat s22 r23).bind fun s24 => ((cat s24 ([45] : BY)).bind fun s25 => (N112 r14 2 fun r26 => ((cat s25 r26).bind fun s27 => (N112 r15 2 fun r28 => ((cat ([84] : BY) r28).bind fun s29 => ((cat s29 ([58] : BY)).bind fun s30 => (N112 r16 2 fun r31 => ((cat s30 r31).bind fun s32 => ((cat s32 ([58] : BY)).bind fun s33 => (N112 r17 2 fun r34 => ((cat s33 r34).bind fun s35 => ((cat s27 s35).bind fun s36 => (bif (!(r18 == ([] : BY))) then ((cat ([46] : BY) r18).bind fun s37 => ((cat s36 s37).bind fun s38 => (p1_67 C N43 N110 N111 N112 k s38 Kt))) else (p1_67 C N43 N110 N111 N112 k s36 Kt))))))))))))))))))))))) := by kernel_rfl
theorem p1_67_eq (hC : ∀ key e t, C key e t = t e) (k : Nat) (v7 : BY) (Kt : Tk67) : p1_67 C N43 N110 N111 N112 k v7 Kt =
  ((cat v7 ([90] : BY)).bind fun s39 => (Kt s39 true)) := (hC _ _ _).trans (by kernel_rfl)
end
theorem as67 {G : World → Prop} {ng : Nat} (S : Stays Tryz.prog G ng) {N43 : Ty43} {N110 : Ty110} {N111 : Ty111} {N112 : Ty112} (h43 : FnIs Tryz.prog G ng 43 (adp43 N43)) (h110 : FnIs Tryz.prog G ng 110 (adp110 N110)) (h111 : FnIs Tryz.prog G ng 111 (adp111 N111)) (h112 : FnIs Tryz.prog G ng 112 (adp112 N112)) {A : Ty67} (hA : ∀ (a0 : BY) (Kt : Tk67) (r : Out), A a0 Kt = some r → run67 cut0 N43 N110 N111 N112 big a0 Kt = some r) : FnIs Tryz.prog G ng 67 (adp67 A) := by
  refine spec_run cut0_eq S (l := gam67 N43 N110 N111 N112) (by intro p hp; simp only [gam67, List.mem_cons, List.not_mem_nil, or_false] at hp; rcases hp with rfl | rfl | rfl | rfl <;> assumption) Tryz.func67 (by kernel_rfl) (nn := 4) (Lv := lvs67) (k := big) fun rc cs K r h => ?_
  unfold adp67 at h
  split at h
  · exact ⟨_, hA _ _ _ h, fun p hp => by unfold tok67 at hp; split at hp; exact hp; cases hp⟩
  · cases h

/-! strings.Clone -/
def lvs43 : Nat → Option (List (Nat × Co))
  | _ => none
section
variable (C : Nat → Env → (Env → Option Out) → Option Out) (N68 : Ty68)
def gam43 : List (Nat × Fn1) := [(68, adp68 N68)]
noncomputable def bod43 : Code := Tryz.f43.body.getD .skip
noncomputable def run43 (k : Nat) (a0 : BY) (Kt : Tk43) : Option Out := runK Tryz.prog (lookG (gam43 N68)) 3 lvs43 C k Tryz.f43 none [.s (.str a0)] (tok43 Kt)
theorem run43_eq (k : Nat) (a0 : BY) (Kt : Tk43) : run43 C N68 k a0 Kt =
  (N68 a0 fun r1 => (Kt r1)) := by kernel_rfl
end
theorem as43 {G : World → Prop} {ng : Nat} (S : Stays Tryz.prog G ng) {N68 : Ty68} (h68 : FnIs Tryz.prog G ng 68 (adp68 N68)) {A : Ty43} (hA : ∀ (a0 : BY) (Kt : Tk43) (r : Out), A a0 Kt = some r → run43 cut0 N68 big a0 Kt = some r) : FnIs Tryz.prog G ng 43 (adp43 A) := by
  refine spec_run cut0_eq S (l := gam43 N68) (by intro p hp; simp only [gam43, List.mem_cons, List.not_mem_nil, or_false] at hp; rcases hp with rfl <;> assumption) Tryz.func43 (by kernel_rfl) (nn := 3) (Lv := lvs43) (k := big) fun rc cs K r h => ?_
  unfold adp43 at h
  split at h
  · exact ⟨_, hA _ _ _ h, fun p hp => by unfold tok43 at hp; split at hp; exact hp; cases hp⟩
  · cases h

end Go.Proofs.YtffmgholjdfcnaaGreatDoor
