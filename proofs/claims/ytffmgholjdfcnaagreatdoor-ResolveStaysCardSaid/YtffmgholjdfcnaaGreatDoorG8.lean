/- Pieces of the program's functions, printed by gen.py (a program of this session's own), and the equations that the kernel finds. -/
import Derived.Test.YtffmgholjdfcnaaGreatDoorGW
import Derived.Test.YtffmgholjdfcnaaGreatDoorProg
set_option maxRecDepth 100000
set_option linter.unusedVariables false
namespace Go.Proofs.YtffmgholjdfcnaaGreatDoor
open Go Go.Proofs AM
/-! targum/targumref4.Print -/
def lvs74 : Nat → Option (List (Nat × Co))
  | 323 => some [(1, .k), (3, .k)]
  | _ => none
section
variable (C : Nat → Env → (Env → Option Out) → Option Out) (N121 : Ty121)
def gam74 : List (Nat × Fn1) := [(121, adp121 N121)]
noncomputable def bod74 : Code := Tryz.f74.body.getD .skip
noncomputable def run74 (k : Nat) (a0_Kind : Int) (a0_Neg : Bool) (a0_Digits : BY) (a0_Exp : BY) (Kt : Tk74) : Option Out := runK Tryz.prog (lookG (gam74 N121)) 4 lvs74 C k Tryz.f74 none [.agg (.ss [.int .i64 a0_Kind, .bool a0_Neg, .str a0_Digits, .str a0_Exp])] (tok74 Kt)
noncomputable def p1_74 (k : Nat) (v1_0 : Int) (v1_1 : Bool) (v1_2 : BY) (v1_3 : BY) (v3 : BY) (Kt : Tk74) : Option Out := C 323 ([.u, .box 91 (.ss [.int .i64 v1_0, .bool v1_1, .str v1_2, .str v1_3]), .u, .c (.s (.str v3))] ++ us 36) fun e => atK Tryz.prog (lookG (gam74 N121)) 4 lvs74 C k bod74 [1, 1, 1] e (fin Tryz.prog Tryz.f74 none (tok74 Kt))
theorem run74_eq (k : Nat) (a0_Kind : Int) (a0_Neg : Bool) (a0_Digits : BY) (a0_Exp : BY) (Kt : Tk74) : run74 C N121 k a0_Kind a0_Neg a0_Digits a0_Exp Kt =
  (bif a0_Neg then (p1_74 C N121 k a0_Kind a0_Neg a0_Digits a0_Exp ([45] : BY) Kt) else (p1_74 C N121 k a0_Kind a0_Neg a0_Digits a0_Exp ([] : BY) Kt)) := by kernel_rfl
theorem p1_74_eq (hC : ∀ key e t, C key e t = t e) (k : Nat) (v1_0 : Int) (v1_1 : Bool) (v1_2 : BY) (v1_3 : BY) (v3 : BY) (Kt : Tk74) : p1_74 C N121 k v1_0 v1_1 v1_2 v1_3 v3 Kt =
  (N121 v1_0 v1_1 v1_2 v1_3 fun r1 => (bif (!r1) then (Kt ([] : BY)) else (bif (v1_0 == 1) then ((cat v3 ([46, 105, 110, 102] : BY)).bind fun s2 => (Kt s2)) else (bif (v1_0 == 2) then (Kt ([46, 110, 97, 110] : BY)) else ((at? v1_3 0).bind fun b3 => (bif ((b3.toNat : Int) != 45) then ((cat v3 v1_2).bind fun s4 => ((cat s4 ([46, 101, 43] : BY)).bind fun s5 => ((cat s5 v1_3).bind fun s6 => (Kt s6)))) else ((cat v3 v1_2).bind fun s7 => ((cat s7 ([46, 101] : BY)).bind fun s8 => ((cat s8 v1_3).bind fun s9 => (Kt s9)))))))))) := (hC _ _ _).trans (by kernel_rfl)
end
theorem as74 {G : World → Prop} {ng : Nat} (S : Stays Tryz.prog G ng) {N121 : Ty121} (h121 : FnIs Tryz.prog G ng 121 (adp121 N121)) {A : Ty74} (hA : ∀ (a0_Kind : Int) (a0_Neg : Bool) (a0_Digits : BY) (a0_Exp : BY) (Kt : Tk74) (r : Out), A a0_Kind a0_Neg a0_Digits a0_Exp Kt = some r → run74 cut0 N121 big a0_Kind a0_Neg a0_Digits a0_Exp Kt = some r) : FnIs Tryz.prog G ng 74 (adp74 A) := by
  refine spec_run cut0_eq S (l := gam74 N121) (by intro p hp; simp only [gam74, List.mem_cons, List.not_mem_nil, or_false] at hp; rcases hp with rfl <;> assumption) Tryz.func74 (by kernel_rfl) (nn := 4) (Lv := lvs74) (k := big) fun rc cs K r h => ?_
  unfold adp74 at h
  split at h
  · exact ⟨_, hA _ _ _ _ _ _ h, fun p hp => by unfold tok74 at hp; split at hp; exact hp; cases hp⟩
  · cases h

/-! targum/targumref4.Value -/
def lvs90 : Nat → Option (List (Nat × Co))
  | 194 => some [(0, .k), (3, .k)]
  | 322 => some [(0, .k), (13, .k)]
  | 450 => some [(0, .k), (24, .k)]
  | _ => none
section
variable (C : Nat → Env → (Env → Option Out) → Option Out)
def gam90 : List (Nat × Fn1) := []
noncomputable def bod90 : Code := Tryz.f90.body.getD .skip
noncomputable def run90 (k : Nat) (a0 : Int) (Kt : Tk90) : Option Out := runK Tryz.prog (lookG (gam90)) 3 lvs90 C k Tryz.f90 none [.s (.int .u8 a0)] (tok90 Kt)
noncomputable def p1_90 (k : Nat) (v0 : Int) (v3 : Bool) (Kt : Tk90) : Option Out := C 194 ([.c (.s (.int .u8 v0)), .u, .u, .c (.s (.bool v3))] ++ us 31) fun e => atK Tryz.prog (lookG (gam90)) 3 lvs90 C k bod90 [1, 0, 0, 1] e (fin Tryz.prog Tryz.f90 none (tok90 Kt))
noncomputable def p2_90 (k : Nat) (v0 : Int) (v13 : Bool) (Kt : Tk90) : Option Out := C 322 ([.c (.s (.int .u8 v0))] ++ us 12 ++ [.c (.s (.bool v13))] ++ us 21) fun e => atK Tryz.prog (lookG (gam90)) 3 lvs90 C k bod90 [1, 0, 0, 1, 1, 1] e (fin Tryz.prog Tryz.f90 none (tok90 Kt))
noncomputable def p3_90 (k : Nat) (v0 : Int) (v24 : Bool) (Kt : Tk90) : Option Out := C 450 ([.c (.s (.int .u8 v0))] ++ us 23 ++ [.c (.s (.bool v24))] ++ us 10) fun e => atK Tryz.prog (lookG (gam90)) 3 lvs90 C k bod90 [1, 0, 0, 1, 1, 1, 1, 1] e (fin Tryz.prog Tryz.f90 none (tok90 Kt))
theorem run90_eq (k : Nat) (a0 : Int) (Kt : Tk90) : run90 C k a0 Kt =
  (bif (decide (a0 ≥ 48)) then (p1_90 C k a0 (decide (a0 ≤ 57)) Kt) else (p1_90 C k a0 false Kt)) := by kernel_rfl
theorem p1_90_eq (hC : ∀ key e t, C key e t = t e) (k : Nat) (v0 : Int) (v3 : Bool) (Kt : Tk90) : p1_90 C k v0 v3 Kt =
  (bif v3 then (Kt (IntKind.i64.wrap (IntKind.u8.wrap (v0 - 48)))) else (bif (decide (v0 ≥ 97)) then (p2_90 C k v0 (decide (v0 ≤ 102)) Kt) else (p2_90 C k v0 false Kt))) := (hC _ _ _).trans (by kernel_rfl)
theorem p2_90_eq (hC : ∀ key e t, C key e t = t e) (k : Nat) (v0 : Int) (v13 : Bool) (Kt : Tk90) : p2_90 C k v0 v13 Kt =
  (bif v13 then (Kt (IntKind.i64.wrap ((IntKind.i64.wrap (IntKind.u8.wrap (v0 - 97))) + 10))) else (bif (decide (v0 ≥ 65)) then (p3_90 C k v0 (decide (v0 ≤ 70)) Kt) else (p3_90 C k v0 false Kt))) := (hC _ _ _).trans (by kernel_rfl)
theorem p3_90_eq (hC : ∀ key e t, C key e t = t e) (k : Nat) (v0 : Int) (v24 : Bool) (Kt : Tk90) : p3_90 C k v0 v24 Kt =
  (bif v24 then (Kt (IntKind.i64.wrap ((IntKind.i64.wrap (IntKind.u8.wrap (v0 - 65))) + 10))) else (Kt 99)) := (hC _ _ _).trans (by kernel_rfl)
end
theorem as90 {G : World → Prop} {ng : Nat} (S : Stays Tryz.prog G ng) {A : Ty90} (hA : ∀ (a0 : Int) (Kt : Tk90) (r : Out), A a0 Kt = some r → run90 cut0 big a0 Kt = some r) : FnIs Tryz.prog G ng 90 (adp90 A) := by
  refine spec_run cut0_eq S (l := gam90) (by intro p hp; cases hp) Tryz.func90 (by kernel_rfl) (nn := 3) (Lv := lvs90) (k := big) fun rc cs K r h => ?_
  unfold adp90 at h
  split at h
  · exact ⟨_, hA _ _ _ h, fun p hp => by unfold tok90 at hp; split at hp; exact hp; cases hp⟩
  · cases h

/-! targum/targumref4.Base -/
def lvs113 : Nat → Option (List (Nat × Co))
  | 194 => some [(0, .k), (1, .k), (21, .k)]
  | 1000387 => some [(0, .k), (1, .k), (5, .k), (6, .k)]
  | _ => none
section
variable (C : Nat → Env → (Env → Option Out) → Option Out) (N90 : Ty90) (N173 : Ty173)
def gam113 : List (Nat × Fn1) := [(90, adp90 N90), (173, adp173 N173)]
noncomputable def bod113 : Code := Tryz.f113.body.getD .skip
noncomputable def run113 (k : Nat) (a0 : BY) (a1 : Int) (Kt : Tk113) : Option Out := runK Tryz.prog (lookG (gam113 N90 N173)) 8 lvs113 C k Tryz.f113 none [.s (.str a0), .s (.int .i64 a1)] (tok113 Kt)
noncomputable def p1_113 (k : Nat) (v0 : BY) (v1 : Int) (v21 : Bool) (Kt : Tk113) : Option Out := C 194 ([.c (.s (.str v0)), .c (.s (.int .i64 v1))] ++ us 19 ++ [.c (.s (.bool v21))] ++ us 18) fun e => atK Tryz.prog (lookG (gam113 N90 N173)) 8 lvs113 C k bod113 [1, 0, 1] e (fin Tryz.prog Tryz.f113 none (tok113 Kt))
noncomputable def l2_113 (k : Nat) (j0 : Nat) (v0 : BY) (v1 : Int) (v5 : BY) (v6 : Int) (Kt : Tk113) : Option Out := C 1000387 ([.c (.s (.str v0)), .c (.s (.int .i64 v1)), .u, .u, .u, .c (.s (.str v5)), .c (.s (.int .i64 v6))] ++ us 33) fun e => headK Tryz.prog (lookG (gam113 N90 N173)) 8 lvs113 C k j0 bod113 [1, 1, 1, 0, 1, 0] e (fin Tryz.prog Tryz.f113 none (tok113 Kt))
theorem run113_eq (k : Nat) (a0 : BY) (a1 : Int) (Kt : Tk113) : run113 C N90 N173 k a0 a1 Kt =
  (bif (a1 != 2) then (bif (a1 != 8) then (bif (a1 != 16) then (p1_113 C N90 N173 k a0 a1 true Kt) else (p1_113 C N90 N173 k a0 a1 (a0 == ([] : BY)) Kt)) else (p1_113 C N90 N173 k a0 a1 (a0 == ([] : BY)) Kt)) else (p1_113 C N90 N173 k a0 a1 (a0 == ([] : BY)) Kt)) := by kernel_rfl
theorem p1_113_eq (hC : ∀ key e t, C key e t = t e) (k : Nat) (v0 : BY) (v1 : Int) (v21 : Bool) (Kt : Tk113) : p1_113 C N90 N173 k v0 v1 v21 Kt =
  (bif v21 then (Kt ([] : BY)) else (l2_113 C N90 N173 k k v0 v1 ([48] : BY) 0 Kt)) := (hC _ _ _).trans (by kernel_rfl)
theorem l2_113_eq (hC : ∀ key e t, C key e t = t e) (k : Nat) (j0 : Nat) (v0 : BY) (v1 : Int) (v5 : BY) (v6 : Int) (Kt : Tk113) : l2_113 C N90 N173 k (j0 + 1) v0 v1 v5 v6 Kt =
  (bif (decide (v6 < (v0.length : Int))) then ((at? v0 v6).bind fun b1 => (N90 (b1.toNat : Int) fun r2 => (bif (decide (r2 ≥ v1)) then (Kt ([] : BY)) else (N173 v5 v1 r2 fun r3 => (l2_113 C N90 N173 k j0 v0 v1 r3 (IntKind.i64.wrap (v6 + 1)) Kt))))) else (Kt v5)) := (hC _ _ _).trans (by kernel_rfl)
end
theorem as113 {G : World → Prop} {ng : Nat} (S : Stays Tryz.prog G ng) {N90 : Ty90} {N173 : Ty173} (h90 : FnIs Tryz.prog G ng 90 (adp90 N90)) (h173 : FnIs Tryz.prog G ng 173 (adp173 N173)) {A : Ty113} (hA : ∀ (a0 : BY) (a1 : Int) (Kt : Tk113) (r : Out), A a0 a1 Kt = some r → run113 cut0 N90 N173 big a0 a1 Kt = some r) : FnIs Tryz.prog G ng 113 (adp113 A) := by
  refine spec_run cut0_eq S (l := gam113 N90 N173) (by intro p hp; simp only [gam113, List.mem_cons, List.not_mem_nil, or_false] at hp; rcases hp with rfl | rfl <;> assumption) Tryz.func113 (by kernel_rfl) (nn := 8) (Lv := lvs113) (k := big) fun rc cs K r h => ?_
  unfold adp113 at h
  split at h
  · exact ⟨_, hA _ _ _ _ h, fun p hp => by unfold tok113 at hp; split at hp; exact hp; cases hp⟩
  · cases h

/-! targum/targumref4.Norm -/
def lvs115 : Nat → Option (List (Nat × Co))
  | 578 => some [(6, .k), (30, .k)]
  | 1000323 => some [(0, .k), (1, .k), (5, .k)]
  | _ => none
section
variable (C : Nat → Env → (Env → Option Out) → Option Out) (N174 : Ty174)
def gam115 : List (Nat × Fn1) := [(174, adp174 N174)]
noncomputable def bod115 : Code := Tryz.f115.body.getD .skip
noncomputable def run115 (k : Nat) (a0 : Bool) (a1 : BY) (Kt : Tk115) : Option Out := runK Tryz.prog (lookG (gam115 N174)) 7 lvs115 C k Tryz.f115 none [.s (.bool a0), .s (.str a1)] (tok115 Kt)
noncomputable def l1_115 (k : Nat) (j0 : Nat) (v0 : Bool) (v1 : BY) (v5 : Int) (Kt : Tk115) : Option Out := C 1000323 ([.c (.s (.bool v0)), .c (.s (.str v1)), .u, .u, .u, .c (.s (.int .i64 v5))] ++ us 28) fun e => headK Tryz.prog (lookG (gam115 N174)) 7 lvs115 C k j0 bod115 [1, 1, 1, 0, 0] e (fin Tryz.prog Tryz.f115 none (tok115 Kt))
noncomputable def p2_115 (k : Nat) (v6 : BY) (v30 : Bool) (Kt : Tk115) : Option Out := C 578 (us 6 ++ [.c (.s (.str v6))] ++ us 23 ++ [.c (.s (.bool v30)), .u, .u, .u]) fun e => atK Tryz.prog (lookG (gam115 N174)) 7 lvs115 C k bod115 [1, 1, 1, 1, 1, 0, 1] e (fin Tryz.prog Tryz.f115 none (tok115 Kt))
theorem run115_eq (k : Nat) (a0 : Bool) (a1 : BY) (Kt : Tk115) : run115 C N174 k a0 a1 Kt =
  (N174 a1 fun r1 => (bif (!r1) then (Kt ([] : BY)) else (l1_115 C N174 k k a0 a1 0 Kt))) := by kernel_rfl
theorem l1_115_eq (hC : ∀ key e t, C key e t = t e) (k : Nat) (j0 : Nat) (v0 : Bool) (v1 : BY) (v5 : Int) (Kt : Tk115) : l1_115 C N174 k (j0 + 1) v0 v1 v5 Kt =
  (bif (decide (v5 < (IntKind.i64.wrap ((v1.length : Int) - 1)))) then ((at? v1 v5).bind fun b2 => (bif ((b2.toNat : Int) == 48) then (l1_115 C N174 k j0 v0 v1 (IntKind.i64.wrap (v5 + 1)) Kt) else ((cut v1 (some v5) none).bind fun s3 => (bif v0 then (p2_115 C N174 k s3 (!(s3 == ([48] : BY))) Kt) else (p2_115 C N174 k s3 false Kt))))) else ((cut v1 (some v5) none).bind fun s4 => (bif v0 then (p2_115 C N174 k s4 (!(s4 == ([48] : BY))) Kt) else (p2_115 C N174 k s4 false Kt)))) := (hC _ _ _).trans (by kernel_rfl)
theorem p2_115_eq (hC : ∀ key e t, C key e t = t e) (k : Nat) (v6 : BY) (v30 : Bool) (Kt : Tk115) : p2_115 C N174 k v6 v30 Kt =
  (bif v30 then ((cat ([45] : BY) v6).bind fun s5 => (Kt s5)) else (Kt v6)) := (hC _ _ _).trans (by kernel_rfl)
end
theorem as115 {G : World → Prop} {ng : Nat} (S : Stays Tryz.prog G ng) {N174 : Ty174} (h174 : FnIs Tryz.prog G ng 174 (adp174 N174)) {A : Ty115} (hA : ∀ (a0 : Bool) (a1 : BY) (Kt : Tk115) (r : Out), A a0 a1 Kt = some r → run115 cut0 N174 big a0 a1 Kt = some r) : FnIs Tryz.prog G ng 115 (adp115 A) := by
  refine spec_run cut0_eq S (l := gam115 N174) (by intro p hp; simp only [gam115, List.mem_cons, List.not_mem_nil, or_false] at hp; rcases hp with rfl <;> assumption) Tryz.func115 (by kernel_rfl) (nn := 7) (Lv := lvs115) (k := big) fun rc cs K r h => ?_
  unfold adp115 at h
  split at h
  · exact ⟨_, hA _ _ _ _ h, fun p hp => by unfold tok115 at hp; split at hp; exact hp; cases hp⟩
  · cases h

/-! targum/targumref4.Make -/
def lvs120 : Nat → Option (List (Nat × Co))
  | 194 => some [(0, .k), (1, .k), (2, .k), (3, .k), (8, .k), (21, .k)]
  | 1000387 => some [(0, .k), (2, .k), (3, .k), (8, .k), (10, .k), (11, .k)]
  | 1000579 => some [(0, .k), (2, .k), (3, .k), (8, .k), (10, .k), (11, .k)]
  | _ => none
section
variable (C : Nat → Env → (Env → Option Out) → Option Out) (N174 : Ty174) (N176 : Ty176) (N177 : Ty177)
def gam120 : List (Nat × Fn1) := [(174, adp174 N174), (176, adp176 N176), (177, adp177 N177)]
noncomputable def bod120 : Code := Tryz.f120.body.getD .skip
noncomputable def run120 (k : Nat) (a0 : Bool) (a1 : BY) (a2 : BY) (a3 : BY) (Kt : Tk120) : Option Out := runK Tryz.prog (lookG (gam120 N174 N176 N177)) 10 lvs120 C k Tryz.f120 none [.s (.bool a0), .s (.str a1), .s (.str a2), .s (.str a3)] (tok120 Kt)
noncomputable def p1_120 (k : Nat) (v0 : Bool) (v1 : BY) (v2 : BY) (v3 : BY) (v8_0 : Int) (v8_1 : Bool) (v8_2 : BY) (v8_3 : BY) (v21 : Bool) (Kt : Tk120) : Option Out := C 194 ([.c (.s (.bool v0)), .c (.s (.str v1)), .c (.s (.str v2)), .c (.s (.str v3)), .u, .u, .u, .u, .box 91 (.ss [.int .i64 v8_0, .bool v8_1, .str v8_2, .str v8_3])] ++ us 12 ++ [.c (.s (.bool v21))] ++ us 45) fun e => atK Tryz.prog (lookG (gam120 N174 N176 N177)) 10 lvs120 C k bod120 [1, 0, 1] e (fin Tryz.prog Tryz.f120 none (tok120 Kt))
noncomputable def l2_120 (k : Nat) (j0 : Nat) (v0 : Bool) (v2 : BY) (v3 : BY) (v8_0 : Int) (v8_1 : Bool) (v8_2 : BY) (v8_3 : BY) (v10 : BY) (v11 : Int) (Kt : Tk120) : Option Out := C 1000387 ([.c (.s (.bool v0)), .u, .c (.s (.str v2)), .c (.s (.str v3)), .u, .u, .u, .u, .box 91 (.ss [.int .i64 v8_0, .bool v8_1, .str v8_2, .str v8_3]), .u, .c (.s (.str v10)), .c (.s (.int .i64 v11))] ++ us 55) fun e => headK Tryz.prog (lookG (gam120 N174 N176 N177)) 10 lvs120 C k j0 bod120 [1, 1, 1, 1, 0, 0] e (fin Tryz.prog Tryz.f120 none (tok120 Kt))
noncomputable def l3_120 (k : Nat) (j0 : Nat) (v0 : Bool) (v2 : BY) (v3 : BY) (v8_0 : Int) (v8_1 : Bool) (v8_2 : BY) (v8_3 : BY) (v10 : BY) (v11 : Int) (Kt : Tk120) : Option Out := C 1000579 ([.c (.s (.bool v0)), .u, .c (.s (.str v2)), .c (.s (.str v3)), .u, .u, .u, .u, .box 91 (.ss [.int .i64 v8_0, .bool v8_1, .str v8_2, .str v8_3]), .u, .c (.s (.str v10)), .c (.s (.int .i64 v11))] ++ us 55) fun e => headK Tryz.prog (lookG (gam120 N174 N176 N177)) 10 lvs120 C k j0 bod120 [1, 1, 1, 1, 1, 0, 0] e (fin Tryz.prog Tryz.f120 none (tok120 Kt))
theorem run120_eq (k : Nat) (a0 : Bool) (a1 : BY) (a2 : BY) (a3 : BY) (Kt : Tk120) : run120 C N174 N176 N177 k a0 a1 a2 a3 Kt =
  ((cat a1 a2).bind fun s1 => (N174 s1 fun r2 => (bif (!r2) then (p1_120 C N174 N176 N177 k a0 a1 a2 a3 0 false ([] : BY) ([] : BY) true Kt) else (N176 a3 fun r3 => (p1_120 C N174 N176 N177 k a0 a1 a2 a3 0 false ([] : BY) ([] : BY) (!r3) Kt))))) := by kernel_rfl
theorem p1_120_eq (hC : ∀ key e t, C key e t = t e) (k : Nat) (v0 : Bool) (v1 : BY) (v2 : BY) (v3 : BY) (v8_0 : Int) (v8_1 : Bool) (v8_2 : BY) (v8_3 : BY) (v21 : Bool) (Kt : Tk120) : p1_120 C N174 N176 N177 k v0 v1 v2 v3 v8_0 v8_1 v8_2 v8_3 v21 Kt =
  (bif v21 then (Kt 0 false ([] : BY) ([] : BY) false) else ((cat v1 v2).bind fun s4 => (l2_120 C N174 N176 N177 k k v0 v2 v3 v8_0 v8_1 v8_2 v8_3 s4 0 Kt))) := (hC _ _ _).trans (by kernel_rfl)
theorem l2_120_eq (hC : ∀ key e t, C key e t = t e) (k : Nat) (j0 : Nat) (v0 : Bool) (v2 : BY) (v3 : BY) (v8_0 : Int) (v8_1 : Bool) (v8_2 : BY) (v8_3 : BY) (v10 : BY) (v11 : Int) (Kt : Tk120) : l2_120 C N174 N176 N177 k (j0 + 1) v0 v2 v3 v8_0 v8_1 v8_2 v8_3 v10 v11 Kt =
  (bif (decide ((v10.length : Int) > 0)) then ((at? v10 (IntKind.i64.wrap ((v10.length : Int) - 1))).bind fun b5 => (bif ((b5.toNat : Int) == 48) then ((cut v10 none (some (IntKind.i64.wrap ((v10.length : Int) - 1)))).bind fun s6 => (l2_120 C N174 N176 N177 k j0 v0 v2 v3 v8_0 v8_1 v8_2 v8_3 s6 (IntKind.i64.wrap (v11 + 1)) Kt)) else (l3_120 C N174 N176 N177 k k v0 v2 v3 v8_0 v8_1 v8_2 v8_3 v10 v11 Kt))) else (l3_120 C N174 N176 N177 k k v0 v2 v3 v8_0 v8_1 v8_2 v8_3 v10 v11 Kt)) := (hC _ _ _).trans (by kernel_rfl)
theorem l3_120_eq (hC : ∀ key e t, C key e t = t e) (k : Nat) (j0 : Nat) (v0 : Bool) (v2 : BY) (v3 : BY) (v8_0 : Int) (v8_1 : Bool) (v8_2 : BY) (v8_3 : BY) (v10 : BY) (v11 : Int) (Kt : Tk120) : l3_120 C N174 N176 N177 k (j0 + 1) v0 v2 v3 v8_0 v8_1 v8_2 v8_3 v10 v11 Kt =
  (bif (decide ((v10.length : Int) > 0)) then ((at? v10 0).bind fun b7 => (bif ((b7.toNat : Int) == 48) then ((cut v10 (some (1 : Int)) none).bind fun s8 => (l3_120 C N174 N176 N177 k j0 v0 v2 v3 v8_0 v8_1 v8_2 v8_3 s8 v11 Kt)) else (bif (v10 == ([] : BY)) then (Kt 0 v0 ([48] : BY) ([48] : BY) true) else (N177 v3 (IntKind.i64.wrap (v11 - (v2.length : Int))) fun r9 => (Kt 0 v0 v10 r9 true))))) else (bif (v10 == ([] : BY)) then (Kt 0 v0 ([48] : BY) ([48] : BY) true) else (N177 v3 (IntKind.i64.wrap (v11 - (v2.length : Int))) fun r10 => (Kt 0 v0 v10 r10 true)))) := (hC _ _ _).trans (by kernel_rfl)
end
theorem as120 {G : World → Prop} {ng : Nat} (S : Stays Tryz.prog G ng) {N174 : Ty174} {N176 : Ty176} {N177 : Ty177} (h174 : FnIs Tryz.prog G ng 174 (adp174 N174)) (h176 : FnIs Tryz.prog G ng 176 (adp176 N176)) (h177 : FnIs Tryz.prog G ng 177 (adp177 N177)) {A : Ty120} (hA : ∀ (a0 : Bool) (a1 : BY) (a2 : BY) (a3 : BY) (Kt : Tk120) (r : Out), A a0 a1 a2 a3 Kt = some r → run120 cut0 N174 N176 N177 big a0 a1 a2 a3 Kt = some r) : FnIs Tryz.prog G ng 120 (adp120 A) := by
  refine spec_run cut0_eq S (l := gam120 N174 N176 N177) (by intro p hp; simp only [gam120, List.mem_cons, List.not_mem_nil, or_false] at hp; rcases hp with rfl | rfl | rfl <;> assumption) Tryz.func120 (by kernel_rfl) (nn := 10) (Lv := lvs120) (k := big) fun rc cs K r h => ?_
  unfold adp120 at h
  split at h
  · exact ⟨_, hA _ _ _ _ _ _ h, fun p hp => by unfold tok120 at hp; split at hp; exact hp; cases hp⟩
  · cases h

/-! targum/targumref4.Dec -/
def lvs121 : Nat → Option (List (Nat × Co))
  | _ => none
section
variable (C : Nat → Env → (Env → Option Out) → Option Out) (N174 : Ty174) (N176 : Ty176)
def gam121 : List (Nat × Fn1) := [(174, adp174 N174), (176, adp176 N176)]
noncomputable def bod121 : Code := Tryz.f121.body.getD .skip
noncomputable def run121 (k : Nat) (a0_Kind : Int) (a0_Neg : Bool) (a0_Digits : BY) (a0_Exp : BY) (Kt : Tk121) : Option Out := runK Tryz.prog (lookG (gam121 N174 N176)) 3 lvs121 C k Tryz.f121 none [.agg (.ss [.int .i64 a0_Kind, .bool a0_Neg, .str a0_Digits, .str a0_Exp])] (tok121 Kt)
theorem run121_eq (k : Nat) (a0_Kind : Int) (a0_Neg : Bool) (a0_Digits : BY) (a0_Exp : BY) (Kt : Tk121) : run121 C N174 N176 k a0_Kind a0_Neg a0_Digits a0_Exp Kt =
  (bif (a0_Kind == 0) then (bif (a0_Digits == ([48] : BY)) then (Kt (a0_Exp == ([48] : BY))) else (N174 a0_Digits fun r1 => (bif r1 then ((at? a0_Digits 0).bind fun b2 => (bif ((b2.toNat : Int) != 48) then ((at? a0_Digits (IntKind.i64.wrap ((a0_Digits.length : Int) - 1))).bind fun b3 => (bif ((b3.toNat : Int) != 48) then (N176 a0_Exp fun r4 => (Kt r4)) else (Kt false))) else (Kt false))) else (Kt false)))) else (bif (a0_Kind == 1) then (bif (a0_Digits == ([] : BY)) then (Kt (a0_Exp == ([] : BY))) else (Kt false)) else (bif (a0_Kind == 2) then (bif (a0_Digits == ([] : BY)) then (bif (a0_Exp == ([] : BY)) then (Kt (!a0_Neg)) else (Kt false)) else (Kt false)) else (Kt false)))) := by kernel_rfl
end
theorem as121 {G : World → Prop} {ng : Nat} (S : Stays Tryz.prog G ng) {N174 : Ty174} {N176 : Ty176} (h174 : FnIs Tryz.prog G ng 174 (adp174 N174)) (h176 : FnIs Tryz.prog G ng 176 (adp176 N176)) {A : Ty121} (hA : ∀ (a0_Kind : Int) (a0_Neg : Bool) (a0_Digits : BY) (a0_Exp : BY) (Kt : Tk121) (r : Out), A a0_Kind a0_Neg a0_Digits a0_Exp Kt = some r → run121 cut0 N174 N176 big a0_Kind a0_Neg a0_Digits a0_Exp Kt = some r) : FnIs Tryz.prog G ng 121 (adp121 A) := by
  refine spec_run cut0_eq S (l := gam121 N174 N176) (by intro p hp; simp only [gam121, List.mem_cons, List.not_mem_nil, or_false] at hp; rcases hp with rfl | rfl <;> assumption) Tryz.func121 (by kernel_rfl) (nn := 3) (Lv := lvs121) (k := big) fun rc cs K r h => ?_
  unfold adp121 at h
  split at h
  · exact ⟨_, hA _ _ _ _ _ _ h, fun p hp => by unfold tok121 at hp; split at hp; exact hp; cases hp⟩
  · cases h

/-! targum/targumref4.mulAdd -/
def lvs173 : Nat → Option (List (Nat × Co))
  | 1000323 => some [(0, .k), (1, .k), (7, .k), (8, .k), (9, .k)]
  | 1000707 => some [(7, .k), (8, .k), (10, .k)]
  | _ => none
section
variable (C : Nat → Env → (Env → Option Out) → Option Out) (N115 : Ty115)
def gam173 : List (Nat × Fn1) := [(115, adp115 N115)]
noncomputable def bod173 : Code := Tryz.f173.body.getD .skip
noncomputable def run173 (k : Nat) (a0 : BY) (a1 : Int) (a2 : Int) (Kt : Tk173) : Option Out := runK Tryz.prog (lookG (gam173 N115)) 11 lvs173 C k Tryz.f173 none [.s (.str a0), .s (.int .i64 a1), .s (.int .i64 a2)] (tok173 Kt)
noncomputable def l1_173 (k : Nat) (j0 : Nat) (v0 : BY) (v1 : Int) (v7 : List Int) (v8 : Int) (v9 : Int) (Kt : Tk173) : Option Out := C 1000323 ([.c (.s (.str v0)), .c (.s (.int .i64 v1)), .u, .u, .u, .u, .u, .c (.own (.ints .u8 v7)), .c (.s (.int .i64 v8)), .c (.s (.int .i64 v9))] ++ us 47) fun e => headK Tryz.prog (lookG (gam173 N115)) 11 lvs173 C k j0 bod173 [1, 1, 1, 0, 1, 0] e (fin Tryz.prog Tryz.f173 none (tok173 Kt))
noncomputable def l2_173 (k : Nat) (j0 : Nat) (v7 : List Int) (v8 : Int) (v10 : BY) (Kt : Tk173) : Option Out := C 1000707 (us 7 ++ [.c (.own (.ints .u8 v7)), .c (.s (.int .i64 v8)), .u, .c (.s (.str v10))] ++ us 46) fun e => headK Tryz.prog (lookG (gam173 N115)) 11 lvs173 C k j0 bod173 [1, 1, 1, 1, 1, 0, 0] e (fin Tryz.prog Tryz.f173 none (tok173 Kt))
theorem run173_eq (k : Nat) (a0 : BY) (a1 : Int) (a2 : Int) (Kt : Tk173) : run173 C N115 k a0 a1 a2 Kt =
  (bif (decide (0 ≤ (a0.length : Int)) && decide ((a0.length : Int) ≤ (a0.length : Int)) && decide ((a0.length : Int) ≤ 1099511627776)) then (l1_173 C N115 k k a0 a1 (List.replicate (a0.length : Int).toNat (0 : Int)) a2 (IntKind.i64.wrap ((a0.length : Int) - 1)) Kt) else none) := by kernel_rfl
theorem l1_173_eq (hC : ∀ key e t, C key e t = t e) (k : Nat) (j0 : Nat) (v0 : BY) (v1 : Int) (v7 : List Int) (v8 : Int) (v9 : Int) (Kt : Tk173) : l1_173 C N115 k (j0 + 1) v0 v1 v7 v8 v9 Kt =
  (bif (decide (v9 ≥ 0)) then ((at? v0 v9).bind fun b1 => (bif (decide (0 ≤ v9) && decide (v9 < (v7.length : Int))) then (bif decide (v9.toNat < v7.length) then (l1_173 C N115 k j0 v0 v1 (v7.set v9.toNat (IntKind.u8.wrap (IntKind.i64.wrap ((48 : Int) + ((IntKind.i64.wrap (v8 + (IntKind.i64.wrap ((IntKind.i64.wrap (IntKind.u8.wrap ((b1.toNat : Int) - 48))) * v1)))).tmod 10))))) (IntKind.i64.wrap ((IntKind.i64.wrap (v8 + (IntKind.i64.wrap ((IntKind.i64.wrap (IntKind.u8.wrap ((b1.toNat : Int) - 48))) * v1)))).tdiv 10)) (IntKind.i64.wrap (v9 - 1)) Kt) else none) else none)) else (l2_173 C N115 k k v7 v8 ([] : BY) Kt)) := (hC _ _ _).trans (by kernel_rfl)
theorem l2_173_eq (hC : ∀ key e t, C key e t = t e) (k : Nat) (j0 : Nat) (v7 : List Int) (v8 : Int) (v10 : BY) (Kt : Tk173) : l2_173 C N115 k (j0 + 1) v7 v8 v10 Kt =
  (bif (decide (v8 > 0)) then ((cat (([(IntKind.u8.wrap (IntKind.i64.wrap ((48 : Int) + (v8.tmod 10))))] : List Int).map fun n => UInt8.ofNat n.toNat) v10).bind fun s2 => (l2_173 C N115 k j0 v7 (IntKind.i64.wrap (v8.tdiv 10)) s2 Kt)) else ((cat v10 (v7.map fun n => UInt8.ofNat n.toNat)).bind fun s3 => (N115 false s3 fun r4 => (Kt r4)))) := (hC _ _ _).trans (by kernel_rfl)
end
theorem as173 {G : World → Prop} {ng : Nat} (S : Stays Tryz.prog G ng) {N115 : Ty115} (h115 : FnIs Tryz.prog G ng 115 (adp115 N115)) {A : Ty173} (hA : ∀ (a0 : BY) (a1 : Int) (a2 : Int) (Kt : Tk173) (r : Out), A a0 a1 a2 Kt = some r → run173 cut0 N115 big a0 a1 a2 Kt = some r) : FnIs Tryz.prog G ng 173 (adp173 A) := by
  refine spec_run cut0_eq S (l := gam173 N115) (by intro p hp; simp only [gam173, List.mem_cons, List.not_mem_nil, or_false] at hp; rcases hp with rfl <;> assumption) Tryz.func173 (by kernel_rfl) (nn := 11) (Lv := lvs173) (k := big) fun rc cs K r h => ?_
  unfold adp173 at h
  split at h
  · exact ⟨_, hA _ _ _ _ _ h, fun p hp => by unfold tok173 at hp; split at hp; exact hp; cases hp⟩
  · cases h

/-! targum/targumref4.Digits -/
def lvs174 : Nat → Option (List (Nat × Co))
  | 1000195 => some [(0, .k), (3, .k)]
  | _ => none
section
variable (C : Nat → Env → (Env → Option Out) → Option Out) (N92 : Ty92)
def gam174 : List (Nat × Fn1) := [(92, adp92 N92)]
noncomputable def bod174 : Code := Tryz.f174.body.getD .skip
noncomputable def run174 (k : Nat) (a0 : BY) (Kt : Tk174) : Option Out := runK Tryz.prog (lookG (gam174 N92)) 4 lvs174 C k Tryz.f174 none [.s (.str a0)] (tok174 Kt)
noncomputable def l1_174 (k : Nat) (j0 : Nat) (v0 : BY) (v3 : Int) (Kt : Tk174) : Option Out := C 1000195 ([.c (.s (.str v0)), .u, .u, .c (.s (.int .i64 v3))] ++ us 14) fun e => headK Tryz.prog (lookG (gam174 N92)) 4 lvs174 C k j0 bod174 [1, 0, 1, 0] e (fin Tryz.prog Tryz.f174 none (tok174 Kt))
theorem run174_eq (k : Nat) (a0 : BY) (Kt : Tk174) : run174 C N92 k a0 Kt =
  (l1_174 C N92 k k a0 0 Kt) := by kernel_rfl
theorem l1_174_eq (hC : ∀ key e t, C key e t = t e) (k : Nat) (j0 : Nat) (v0 : BY) (v3 : Int) (Kt : Tk174) : l1_174 C N92 k (j0 + 1) v0 v3 Kt =
  (bif (decide (v3 < (v0.length : Int))) then ((at? v0 v3).bind fun b1 => (N92 (b1.toNat : Int) fun r2 => (bif (!r2) then (Kt false) else (l1_174 C N92 k j0 v0 (IntKind.i64.wrap (v3 + 1)) Kt)))) else (Kt (decide ((v0.length : Int) > 0)))) := (hC _ _ _).trans (by kernel_rfl)
end
theorem as174 {G : World → Prop} {ng : Nat} (S : Stays Tryz.prog G ng) {N92 : Ty92} (h92 : FnIs Tryz.prog G ng 92 (adp92 N92)) {A : Ty174} (hA : ∀ (a0 : BY) (Kt : Tk174) (r : Out), A a0 Kt = some r → run174 cut0 N92 big a0 Kt = some r) : FnIs Tryz.prog G ng 174 (adp174 A) := by
  refine spec_run cut0_eq S (l := gam174 N92) (by intro p hp; simp only [gam174, List.mem_cons, List.not_mem_nil, or_false] at hp; rcases hp with rfl <;> assumption) Tryz.func174 (by kernel_rfl) (nn := 4) (Lv := lvs174) (k := big) fun rc cs K r h => ?_
  unfold adp174 at h
  split at h
  · exact ⟨_, hA _ _ _ h, fun p hp => by unfold tok174 at hp; split at hp; exact hp; cases hp⟩
  · cases h

/-! targum/targumref4.MulAdd -/
def lvs175 : Nat → Option (List (Nat × Co))
  | 194 => some [(0, .k), (1, .k), (2, .k), (30, .k)]
  | _ => none
section
variable (C : Nat → Env → (Env → Option Out) → Option Out) (N173 : Ty173) (N176 : Ty176)
def gam175 : List (Nat × Fn1) := [(173, adp173 N173), (176, adp176 N176)]
noncomputable def bod175 : Code := Tryz.f175.body.getD .skip
noncomputable def run175 (k : Nat) (a0 : BY) (a1 : Int) (a2 : Int) (Kt : Tk175) : Option Out := runK Tryz.prog (lookG (gam175 N173 N176)) 7 lvs175 C k Tryz.f175 none [.s (.str a0), .s (.int .i64 a1), .s (.int .i64 a2)] (tok175 Kt)
noncomputable def p1_175 (k : Nat) (v0 : BY) (v1 : Int) (v2 : Int) (v30 : Bool) (Kt : Tk175) : Option Out := C 194 ([.c (.s (.str v0)), .c (.s (.int .i64 v1)), .c (.s (.int .i64 v2))] ++ us 27 ++ [.c (.s (.bool v30)), .u, .u, .u, .u]) fun e => atK Tryz.prog (lookG (gam175 N173 N176)) 7 lvs175 C k bod175 [1, 0, 1] e (fin Tryz.prog Tryz.f175 none (tok175 Kt))
theorem run175_eq (k : Nat) (a0 : BY) (a1 : Int) (a2 : Int) (Kt : Tk175) : run175 C N173 N176 k a0 a1 a2 Kt =
  (N176 a0 fun r1 => (bif (!r1) then (p1_175 C N173 N176 k a0 a1 a2 true Kt) else ((at? a0 0).bind fun b2 => (bif ((b2.toNat : Int) == 45) then (p1_175 C N173 N176 k a0 a1 a2 true Kt) else (bif (decide (a1 < 0)) then (p1_175 C N173 N176 k a0 a1 a2 true Kt) else (bif (decide (a1 > 1099511627776)) then (p1_175 C N173 N176 k a0 a1 a2 true Kt) else (bif (decide (a2 < 0)) then (p1_175 C N173 N176 k a0 a1 a2 true Kt) else (p1_175 C N173 N176 k a0 a1 a2 (decide (a2 > 1099511627776)) Kt)))))))) := by kernel_rfl
theorem p1_175_eq (hC : ∀ key e t, C key e t = t e) (k : Nat) (v0 : BY) (v1 : Int) (v2 : Int) (v30 : Bool) (Kt : Tk175) : p1_175 C N173 N176 k v0 v1 v2 v30 Kt =
  (bif v30 then (Kt ([] : BY)) else (N173 v0 v1 v2 fun r3 => (Kt r3))) := (hC _ _ _).trans (by kernel_rfl)
end
theorem as175 {G : World → Prop} {ng : Nat} (S : Stays Tryz.prog G ng) {N173 : Ty173} {N176 : Ty176} (h173 : FnIs Tryz.prog G ng 173 (adp173 N173)) (h176 : FnIs Tryz.prog G ng 176 (adp176 N176)) {A : Ty175} (hA : ∀ (a0 : BY) (a1 : Int) (a2 : Int) (Kt : Tk175) (r : Out), A a0 a1 a2 Kt = some r → run175 cut0 N173 N176 big a0 a1 a2 Kt = some r) : FnIs Tryz.prog G ng 175 (adp175 A) := by
  refine spec_run cut0_eq S (l := gam175 N173 N176) (by intro p hp; simp only [gam175, List.mem_cons, List.not_mem_nil, or_false] at hp; rcases hp with rfl | rfl <;> assumption) Tryz.func175 (by kernel_rfl) (nn := 7) (Lv := lvs175) (k := big) fun rc cs K r h => ?_
  unfold adp175 at h
  split at h
  · exact ⟨_, hA _ _ _ _ _ h, fun p hp => by unfold tok175 at hp; split at hp; exact hp; cases hp⟩
  · cases h

/-! targum/targumref4.Good -/
def lvs176 : Nat → Option (List (Nat × Co))
  | 321 => some [(0, .k), (12, .k)]
  | 385 => some [(0, .k)]
  | _ => none
section
variable (C : Nat → Env → (Env → Option Out) → Option Out) (N174 : Ty174)
def gam176 : List (Nat × Fn1) := [(174, adp174 N174)]
noncomputable def bod176 : Code := Tryz.f176.body.getD .skip
noncomputable def run176 (k : Nat) (a0 : BY) (Kt : Tk176) : Option Out := runK Tryz.prog (lookG (gam176 N174)) 3 lvs176 C k Tryz.f176 none [.s (.str a0)] (tok176 Kt)
noncomputable def p1_176 (k : Nat) (v0 : BY) (v12 : Bool) (Kt : Tk176) : Option Out := C 321 ([.c (.s (.str v0))] ++ us 11 ++ [.c (.s (.bool v12))] ++ us 9) fun e => atK Tryz.prog (lookG (gam176 N174)) 3 lvs176 C k bod176 [1, 1, 0, 1] e (fin Tryz.prog Tryz.f176 none (tok176 Kt))
noncomputable def p2_176 (k : Nat) (v0 : BY) (Kt : Tk176) : Option Out := C 385 ([.c (.s (.str v0))] ++ us 21) fun e => atK Tryz.prog (lookG (gam176 N174)) 3 lvs176 C k bod176 [1, 1, 1] e (fin Tryz.prog Tryz.f176 none (tok176 Kt))
theorem run176_eq (k : Nat) (a0 : BY) (Kt : Tk176) : run176 C N174 k a0 Kt =
  (bif (a0 == ([48] : BY)) then (Kt true) else (bif (decide ((a0.length : Int) > 0)) then ((at? a0 0).bind fun b1 => (p1_176 C N174 k a0 ((b1.toNat : Int) == 45) Kt)) else (p1_176 C N174 k a0 false Kt))) := by kernel_rfl
theorem p1_176_eq (hC : ∀ key e t, C key e t = t e) (k : Nat) (v0 : BY) (v12 : Bool) (Kt : Tk176) : p1_176 C N174 k v0 v12 Kt =
  (bif v12 then ((cut v0 (some (1 : Int)) none).bind fun s2 => (p2_176 C N174 k s2 Kt)) else (p2_176 C N174 k v0 Kt)) := (hC _ _ _).trans (by kernel_rfl)
theorem p2_176_eq (hC : ∀ key e t, C key e t = t e) (k : Nat) (v0 : BY) (Kt : Tk176) : p2_176 C N174 k v0 Kt =
  (N174 v0 fun r3 => (bif r3 then ((at? v0 0).bind fun b4 => (Kt ((b4.toNat : Int) != 48))) else (Kt false))) := (hC _ _ _).trans (by kernel_rfl)
end
theorem as176 {G : World → Prop} {ng : Nat} (S : Stays Tryz.prog G ng) {N174 : Ty174} (h174 : FnIs Tryz.prog G ng 174 (adp174 N174)) {A : Ty176} (hA : ∀ (a0 : BY) (Kt : Tk176) (r : Out), A a0 Kt = some r → run176 cut0 N174 big a0 Kt = some r) : FnIs Tryz.prog G ng 176 (adp176 A) := by
  refine spec_run cut0_eq S (l := gam176 N174) (by intro p hp; simp only [gam176, List.mem_cons, List.not_mem_nil, or_false] at hp; rcases hp with rfl <;> assumption) Tryz.func176 (by kernel_rfl) (nn := 3) (Lv := lvs176) (k := big) fun rc cs K r h => ?_
  unfold adp176 at h
  split at h
  · exact ⟨_, hA _ _ _ h, fun p hp => by unfold tok176 at hp; split at hp; exact hp; cases hp⟩
  · cases h

/-! targum/targumref4.Add -/
def lvs177 : Nat → Option (List (Nat × Co))
  | 194 => some [(0, .k), (1, .k), (18, .k)]
  | 450 => some [(0, .k), (1, .k), (5, .k), (6, .k)]
  | 578 => some [(0, .k), (1, .k), (5, .k), (6, .k)]
  | _ => none
section
variable (C : Nat → Env → (Env → Option Out) → Option Out) (N20 : Ty20) (N115 : Ty115) (N173 : Ty173) (N176 : Ty176) (N217 : Ty217) (N218 : Ty218)
def gam177 : List (Nat × Fn1) := [(20, adp20 N20), (115, adp115 N115), (173, adp173 N173), (176, adp176 N176), (217, adp217 N217), (218, adp218 N218)]
noncomputable def bod177 : Code := Tryz.f177.body.getD .skip
noncomputable def run177 (k : Nat) (a0 : BY) (a1 : Int) (Kt : Tk177) : Option Out := runK Tryz.prog (lookG (gam177 N20 N115 N173 N176 N217 N218)) 8 lvs177 C k Tryz.f177 none [.s (.str a0), .s (.int .i64 a1)] (tok177 Kt)
noncomputable def p1_177 (k : Nat) (v0 : BY) (v1 : Int) (v18 : Bool) (Kt : Tk177) : Option Out := C 194 ([.c (.s (.str v0)), .c (.s (.int .i64 v1))] ++ us 16 ++ [.c (.s (.bool v18))] ++ us 35) fun e => atK Tryz.prog (lookG (gam177 N20 N115 N173 N176 N217 N218)) 8 lvs177 C k bod177 [1, 0, 1] e (fin Tryz.prog Tryz.f177 none (tok177 Kt))
noncomputable def p2_177 (k : Nat) (v0 : BY) (v1 : Int) (v5 : Bool) (v6 : Bool) (Kt : Tk177) : Option Out := C 450 ([.c (.s (.str v0)), .c (.s (.int .i64 v1)), .u, .u, .u, .c (.s (.bool v5)), .c (.s (.bool v6))] ++ us 47) fun e => atK Tryz.prog (lookG (gam177 N20 N115 N173 N176 N217 N218)) 8 lvs177 C k bod177 [1, 1, 1, 1] e (fin Tryz.prog Tryz.f177 none (tok177 Kt))
noncomputable def p3_177 (k : Nat) (v0 : BY) (v1 : Int) (v5 : Bool) (v6 : Bool) (Kt : Tk177) : Option Out := C 578 ([.c (.s (.str v0)), .c (.s (.int .i64 v1)), .u, .u, .u, .c (.s (.bool v5)), .c (.s (.bool v6))] ++ us 47) fun e => atK Tryz.prog (lookG (gam177 N20 N115 N173 N176 N217 N218)) 8 lvs177 C k bod177 [1, 1, 1, 1, 1] e (fin Tryz.prog Tryz.f177 none (tok177 Kt))
theorem run177_eq (k : Nat) (a0 : BY) (a1 : Int) (Kt : Tk177) : run177 C N20 N115 N173 N176 N217 N218 k a0 a1 Kt =
  (N176 a0 fun r1 => (bif (!r1) then (p1_177 C N20 N115 N173 N176 N217 N218 k a0 a1 true Kt) else (bif (decide (a1 < (-1099511627776))) then (p1_177 C N20 N115 N173 N176 N217 N218 k a0 a1 true Kt) else (p1_177 C N20 N115 N173 N176 N217 N218 k a0 a1 (decide (a1 > 1099511627776)) Kt)))) := by kernel_rfl
theorem p1_177_eq (hC : ∀ key e t, C key e t = t e) (k : Nat) (v0 : BY) (v1 : Int) (v18 : Bool) (Kt : Tk177) : p1_177 C N20 N115 N173 N176 N217 N218 k v0 v1 v18 Kt =
  (bif v18 then (Kt ([] : BY)) else ((at? v0 0).bind fun b2 => (bif ((b2.toNat : Int) == 45) then ((cut v0 (some (1 : Int)) none).bind fun s3 => (p2_177 C N20 N115 N173 N176 N217 N218 k s3 v1 ((b2.toNat : Int) == 45) (decide (v1 < 0)) Kt)) else (p2_177 C N20 N115 N173 N176 N217 N218 k v0 v1 ((b2.toNat : Int) == 45) (decide (v1 < 0)) Kt)))) := (hC _ _ _).trans (by kernel_rfl)
theorem p2_177_eq (hC : ∀ key e t, C key e t = t e) (k : Nat) (v0 : BY) (v1 : Int) (v5 : Bool) (v6 : Bool) (Kt : Tk177) : p2_177 C N20 N115 N173 N176 N217 N218 k v0 v1 v5 v6 Kt =
  (bif v6 then (p3_177 C N20 N115 N173 N176 N217 N218 k v0 (IntKind.i64.wrap (0 - v1)) v5 v6 Kt) else (p3_177 C N20 N115 N173 N176 N217 N218 k v0 v1 v5 v6 Kt)) := (hC _ _ _).trans (by kernel_rfl)
theorem p3_177_eq (hC : ∀ key e t, C key e t = t e) (k : Nat) (v0 : BY) (v1 : Int) (v5 : Bool) (v6 : Bool) (Kt : Tk177) : p3_177 C N20 N115 N173 N176 N217 N218 k v0 v1 v5 v6 Kt =
  (bif (v5 == v6) then (N173 v0 1 v1 fun r4 => (N115 v5 r4 fun r5 => (Kt r5))) else (N20 v1 fun r6 => (N217 v0 r6 fun r7 => (bif (decide (r7 < 0)) then (N218 r6 v0 fun r8 => (N115 v6 r8 fun r9 => (Kt r9))) else (N218 v0 r6 fun r10 => (N115 v5 r10 fun r11 => (Kt r11))))))) := (hC _ _ _).trans (by kernel_rfl)
end
theorem as177 {G : World → Prop} {ng : Nat} (S : Stays Tryz.prog G ng) {N20 : Ty20} {N115 : Ty115} {N173 : Ty173} {N176 : Ty176} {N217 : Ty217} {N218 : Ty218} (h20 : FnIs Tryz.prog G ng 20 (adp20 N20)) (h115 : FnIs Tryz.prog G ng 115 (adp115 N115)) (h173 : FnIs Tryz.prog G ng 173 (adp173 N173)) (h176 : FnIs Tryz.prog G ng 176 (adp176 N176)) (h217 : FnIs Tryz.prog G ng 217 (adp217 N217)) (h218 : FnIs Tryz.prog G ng 218 (adp218 N218)) {A : Ty177} (hA : ∀ (a0 : BY) (a1 : Int) (Kt : Tk177) (r : Out), A a0 a1 Kt = some r → run177 cut0 N20 N115 N173 N176 N217 N218 big a0 a1 Kt = some r) : FnIs Tryz.prog G ng 177 (adp177 A) := by
  refine spec_run cut0_eq S (l := gam177 N20 N115 N173 N176 N217 N218) (by intro p hp; simp only [gam177, List.mem_cons, List.not_mem_nil, or_false] at hp; rcases hp with rfl | rfl | rfl | rfl | rfl | rfl <;> assumption) Tryz.func177 (by kernel_rfl) (nn := 8) (Lv := lvs177) (k := big) fun rc cs K r h => ?_
  unfold adp177 at h
  split at h
  · exact ⟨_, hA _ _ _ _ h, fun p hp => by unfold tok177 at hp; split at hp; exact hp; cases hp⟩
  · cases h

/-! targum/targumref4.compare -/
def lvs217 : Nat → Option (List (Nat × Co))
  | _ => none
section
variable (C : Nat → Env → (Env → Option Out) → Option Out)
def gam217 : List (Nat × Fn1) := []
noncomputable def bod217 : Code := Tryz.f217.body.getD .skip
noncomputable def run217 (k : Nat) (a0 : BY) (a1 : BY) (Kt : Tk217) : Option Out := runK Tryz.prog (lookG (gam217)) 5 lvs217 C k Tryz.f217 none [.s (.str a0), .s (.str a1)] (tok217 Kt)
theorem run217_eq (k : Nat) (a0 : BY) (a1 : BY) (Kt : Tk217) : run217 C k a0 a1 Kt =
  (bif (decide ((a0.length : Int) < (a1.length : Int))) then (Kt (-1)) else (bif (decide ((a0.length : Int) > (a1.length : Int))) then (Kt 1) else (bif (Op.bytesLess a0 a1) then (Kt (-1)) else (bif (!(Op.bytesLess a0 a1 || a0 == a1)) then (Kt 1) else (Kt 0))))) := by kernel_rfl
end
theorem as217 {G : World → Prop} {ng : Nat} (S : Stays Tryz.prog G ng) {A : Ty217} (hA : ∀ (a0 : BY) (a1 : BY) (Kt : Tk217) (r : Out), A a0 a1 Kt = some r → run217 cut0 big a0 a1 Kt = some r) : FnIs Tryz.prog G ng 217 (adp217 A) := by
  refine spec_run cut0_eq S (l := gam217) (by intro p hp; cases hp) Tryz.func217 (by kernel_rfl) (nn := 5) (Lv := lvs217) (k := big) fun rc cs K r h => ?_
  unfold adp217 at h
  split at h
  · exact ⟨_, hA _ _ _ _ h, fun p hp => by unfold tok217 at hp; split at hp; exact hp; cases hp⟩
  · cases h

/-! targum/targumref4.less -/
def lvs218 : Nat → Option (List (Nat × Co))
  | 641 => some [(0, .k), (1, .k), (5, .k), (7, .k), (8, .k)]
  | 832 => some [(0, .k), (1, .k), (5, .k), (6, .k), (7, .k), (8, .k)]
  | 1000323 => some [(0, .k), (1, .k), (5, .k), (6, .k), (7, .k)]
  | _ => none
section
variable (C : Nat → Env → (Env → Option Out) → Option Out) (N115 : Ty115)
def gam218 : List (Nat × Fn1) := [(115, adp115 N115)]
noncomputable def bod218 : Code := Tryz.f218.body.getD .skip
noncomputable def run218 (k : Nat) (a0 : BY) (a1 : BY) (Kt : Tk218) : Option Out := runK Tryz.prog (lookG (gam218 N115)) 9 lvs218 C k Tryz.f218 none [.s (.str a0), .s (.str a1)] (tok218 Kt)
noncomputable def l1_218 (k : Nat) (j0 : Nat) (v0 : BY) (v1 : BY) (v5 : List Int) (v6 : Int) (v7 : Int) (Kt : Tk218) : Option Out := C 1000323 ([.c (.s (.str v0)), .c (.s (.str v1)), .u, .u, .u, .c (.own (.ints .u8 v5)), .c (.s (.int .i64 v6)), .c (.s (.int .i64 v7))] ++ us 53) fun e => headK Tryz.prog (lookG (gam218 N115)) 9 lvs218 C k j0 bod218 [1, 1, 1, 0, 1, 0] e (fin Tryz.prog Tryz.f218 none (tok218 Kt))
noncomputable def p2_218 (k : Nat) (j0 : Nat) (v0 : BY) (v1 : BY) (v5 : List Int) (v7 : Int) (v8 : Int) (Kt : Tk218) : Option Out := C 641 ([.c (.s (.str v0)), .c (.s (.str v1)), .u, .u, .u, .c (.own (.ints .u8 v5)), .u, .c (.s (.int .i64 v7)), .c (.s (.int .i64 v8))] ++ us 52) fun e => atK Tryz.prog (lookG (gam218 N115)) 9 lvs218 C k bod218 [1, 1, 1, 0, 1, 0, j0, 1, 0, 0, 1, 1] e (fin Tryz.prog Tryz.f218 none (tok218 Kt))
noncomputable def p3_218 (k : Nat) (j0 : Nat) (v0 : BY) (v1 : BY) (v5 : List Int) (v6 : Int) (v7 : Int) (v8 : Int) (Kt : Tk218) : Option Out := C 832 ([.c (.s (.str v0)), .c (.s (.str v1)), .u, .u, .u, .c (.own (.ints .u8 v5)), .c (.s (.int .i64 v6)), .c (.s (.int .i64 v7)), .c (.s (.int .i64 v8))] ++ us 52) fun e => atK Tryz.prog (lookG (gam218 N115)) 9 lvs218 C k bod218 [1, 1, 1, 0, 1, 0, j0, 1, 0, 0, 1, 1, 1, 1] e (fin Tryz.prog Tryz.f218 none (tok218 Kt))
theorem run218_eq (k : Nat) (a0 : BY) (a1 : BY) (Kt : Tk218) : run218 C N115 k a0 a1 Kt =
  (bif (decide (0 ≤ (a0.length : Int)) && decide ((a0.length : Int) ≤ (a0.length : Int)) && decide ((a0.length : Int) ≤ 1099511627776)) then (l1_218 C N115 k k a0 a1 (List.replicate (a0.length : Int).toNat (0 : Int)) 0 0 Kt) else none) := by kernel_rfl
theorem l1_218_eq (hC : ∀ key e t, C key e t = t e) (k : Nat) (j0 : Nat) (v0 : BY) (v1 : BY) (v5 : List Int) (v6 : Int) (v7 : Int) (Kt : Tk218) : l1_218 C N115 k (j0 + 1) v0 v1 v5 v6 v7 Kt =
  (bif (decide (v7 < (v0.length : Int))) then ((at? v0 (IntKind.i64.wrap ((IntKind.i64.wrap ((v0.length : Int) - 1)) - v7))).bind fun b1 => (bif (decide (v7 < (v1.length : Int))) then ((at? v1 (IntKind.i64.wrap ((IntKind.i64.wrap ((v1.length : Int) - 1)) - v7))).bind fun b2 => (p2_218 C N115 k j0 v0 v1 v5 v7 (IntKind.i64.wrap ((IntKind.i64.wrap ((IntKind.i64.wrap (IntKind.u8.wrap ((b1.toNat : Int) - 48))) - v6)) - (IntKind.i64.wrap (IntKind.u8.wrap ((b2.toNat : Int) - 48))))) Kt)) else (p2_218 C N115 k j0 v0 v1 v5 v7 (IntKind.i64.wrap ((IntKind.i64.wrap (IntKind.u8.wrap ((b1.toNat : Int) - 48))) - v6)) Kt))) else (N115 false (v5.map fun n => UInt8.ofNat n.toNat) fun r3 => (Kt r3))) := (hC _ _ _).trans (by kernel_rfl)
theorem p2_218_eq (hC : ∀ key e t, C key e t = t e) (k : Nat) (j0 : Nat) (v0 : BY) (v1 : BY) (v5 : List Int) (v7 : Int) (v8 : Int) (Kt : Tk218) : p2_218 C N115 k j0 v0 v1 v5 v7 v8 Kt =
  (bif (decide (v8 < 0)) then (p3_218 C N115 k j0 v0 v1 v5 1 v7 (IntKind.i64.wrap (v8 + 10)) Kt) else (p3_218 C N115 k j0 v0 v1 v5 0 v7 v8 Kt)) := (hC _ _ _).trans (by kernel_rfl)
theorem p3_218_eq (hC : ∀ key e t, C key e t = t e) (k : Nat) (j0 : Nat) (v0 : BY) (v1 : BY) (v5 : List Int) (v6 : Int) (v7 : Int) (v8 : Int) (Kt : Tk218) : p3_218 C N115 k j0 v0 v1 v5 v6 v7 v8 Kt =
  (bif (decide (0 ≤ (IntKind.i64.wrap ((IntKind.i64.wrap ((v0.length : Int) - 1)) - v7))) && decide ((IntKind.i64.wrap ((IntKind.i64.wrap ((v0.length : Int) - 1)) - v7)) < (v5.length : Int))) then (bif decide ((IntKind.i64.wrap ((IntKind.i64.wrap ((v0.length : Int) - 1)) - v7)).toNat < v5.length) then (l1_218 C N115 k j0 v0 v1 (v5.set (IntKind.i64.wrap ((IntKind.i64.wrap ((v0.length : Int) - 1)) - v7)).toNat (IntKind.u8.wrap (IntKind.i64.wrap ((48 : Int) + v8)))) v6 (IntKind.i64.wrap (v7 + 1)) Kt) else none) else none) := (hC _ _ _).trans (by kernel_rfl)
end
theorem as218 {G : World → Prop} {ng : Nat} (S : Stays Tryz.prog G ng) {N115 : Ty115} (h115 : FnIs Tryz.prog G ng 115 (adp115 N115)) {A : Ty218} (hA : ∀ (a0 : BY) (a1 : BY) (Kt : Tk218) (r : Out), A a0 a1 Kt = some r → run218 cut0 N115 big a0 a1 Kt = some r) : FnIs Tryz.prog G ng 218 (adp218 A) := by
  refine spec_run cut0_eq S (l := gam218 N115) (by intro p hp; simp only [gam218, List.mem_cons, List.not_mem_nil, or_false] at hp; rcases hp with rfl <;> assumption) Tryz.func218 (by kernel_rfl) (nn := 9) (Lv := lvs218) (k := big) fun rc cs K r h => ?_
  unfold adp218 at h
  split at h
  · exact ⟨_, hA _ _ _ _ h, fun p hp => by unfold tok218 at hp; split at hp; exact hp; cases hp⟩
  · cases h

end Go.Proofs.YtffmgholjdfcnaaGreatDoor
