/- Pieces of the program's functions, printed by gen.py (a program of this session's own), and the equations that the kernel finds. -/
import Derived.Test.YtffmgholjdfcnaaGreatDoorGW
import Derived.Test.YtffmgholjdfcnaaGreatDoorProg
set_option maxRecDepth 100000
set_option linter.unusedVariables false
namespace Go.Proofs.YtffmgholjdfcnaaGreatDoor
open Go Go.Proofs AM
/-! targum/targumref10.Of -/
def lvs76 : Nat → Option (List (Nat × Co))
  | 642 => some [(0, .k), (4, .k), (6, .k), (8, .k), (9, .k), (44, .k)]
  | 1001027 => some [(0, .k), (4, .k), (6, .k), (8, .k), (9, .k), (10, .k)]
  | _ => none
section
variable (C : Nat → Env → (Env → Option Out) → Option Out) (N123 : Ty123) (N124 : Ty124) (N125 : Ty125) (N126 : Ty126) (N127 : Ty127)
def gam76 : List (Nat × Fn1) := [(123, adp123 N123), (124, adp124 N124), (125, adp125 N125), (126, adp126 N126), (127, adp127 N127)]
noncomputable def bod76 : Code := Tryz.f76.body.getD .skip
noncomputable def run76 (k : Nat) (a0 : BY) (Kt : Tk76) : Option Out := runK Tryz.prog (lookG (gam76 N123 N124 N125 N126 N127)) 4 lvs76 C k Tryz.f76 none [.s (.str a0)] (tok76 Kt)
noncomputable def p1_76 (k : Nat) (v0 : BY) (v4 : Int) (v6 : Int) (v8 : Int) (v9 : Int) (v44 : Bool) (Kt : Tk76) : Option Out := C 642 ([.c (.s (.str v0)), .u, .u, .u, .c (.s (.int .i64 v4)), .u, .c (.s (.int .i64 v6)), .u, .c (.s (.int .i64 v8)), .c (.s (.int .i64 v9))] ++ us 34 ++ [.c (.s (.bool v44))] ++ us 59) fun e => atK Tryz.prog (lookG (gam76 N123 N124 N125 N126 N127)) 4 lvs76 C k bod76 [1, 1, 1, 1, 1, 1, 0, 1] e (fin Tryz.prog Tryz.f76 none (tok76 Kt))
noncomputable def l2_76 (k : Nat) (j0 : Nat) (v0 : BY) (v4 : Int) (v6 : Int) (v8 : Int) (v9 : Int) (v10 : Int) (Kt : Tk76) : Option Out := C 1001027 ([.c (.s (.str v0)), .u, .u, .u, .c (.s (.int .i64 v4)), .u, .c (.s (.int .i64 v6)), .u, .c (.s (.int .i64 v8)), .c (.s (.int .i64 v9)), .c (.s (.int .i64 v10))] ++ us 93) fun e => headK Tryz.prog (lookG (gam76 N123 N124 N125 N126 N127)) 4 lvs76 C k j0 bod76 [1, 1, 1, 1, 1, 1, 1, 1, 1, 0, 0] e (fin Tryz.prog Tryz.f76 none (tok76 Kt))
theorem run76_eq (k : Nat) (a0 : BY) (Kt : Tk76) : run76 C N123 N124 N125 N126 N127 k a0 Kt =
  (N123 a0 0 4 4 fun r1 r2 => (bif (decide (r2 < 0)) then (Kt ([] : BY) false) else (N124 a0 r2 ([45] : BY) 1 2 fun r3 r4 => (bif (decide (r4 < 0)) then (Kt ([] : BY) false) else (N124 a0 r4 ([45] : BY) 1 2 fun r5 r6 => (bif (decide (r6 < 0)) then (p1_76 C N123 N124 N125 N126 N127 k a0 r1 r3 r5 r6 true Kt) else (bif (decide (r5 < 1)) then (p1_76 C N123 N124 N125 N126 N127 k a0 r1 r3 r5 r6 true Kt) else (N125 r1 r3 fun r7 => (p1_76 C N123 N124 N125 N126 N127 k a0 r1 r3 r5 r6 (decide (r5 > r7)) Kt))))))))) := by kernel_rfl
theorem p1_76_eq (hC : ∀ key e t, C key e t = t e) (k : Nat) (v0 : BY) (v4 : Int) (v6 : Int) (v8 : Int) (v9 : Int) (v44 : Bool) (Kt : Tk76) : p1_76 C N123 N124 N125 N126 N127 k v0 v4 v6 v8 v9 v44 Kt =
  (bif v44 then (Kt ([] : BY) false) else (bif (v9 == (v0.length : Int)) then (bif (v9 != 10) then (Kt ([] : BY) false) else (Kt v0 true)) else (N126 v0 v9 ([84, 116] : BY) fun r8 => (l2_76 C N123 N124 N125 N126 N127 k k v0 v4 v6 v8 v9 r8 Kt)))) := (hC _ _ _).trans (by kernel_rfl)
theorem l2_76_eq (hC : ∀ key e t, C key e t = t e) (k : Nat) (j0 : Nat) (v0 : BY) (v4 : Int) (v6 : Int) (v8 : Int) (v9 : Int) (v10 : Int) (Kt : Tk76) : l2_76 C N123 N124 N125 N126 N127 k (j0 + 1) v0 v4 v6 v8 v9 v10 Kt =
  (bif (decide (v10 < 0)) then (bif (decide (v9 < (v0.length : Int))) then ((at? v0 v9).bind fun b9 => (bif ((b9.toNat : Int) == 32) then (bif ((IntKind.i64.wrap (v9 + 1)) == (v0.length : Int)) then (l2_76 C N123 N124 N125 N126 N127 k j0 v0 v4 v6 v8 (IntKind.i64.wrap (v9 + 1)) (IntKind.i64.wrap (v9 + 1)) Kt) else ((at? v0 (IntKind.i64.wrap (v9 + 1))).bind fun b10 => (bif ((b10.toNat : Int) != 32) then ((at? v0 (IntKind.i64.wrap (v9 + 1))).bind fun b11 => (bif ((b11.toNat : Int) != 9) then (l2_76 C N123 N124 N125 N126 N127 k j0 v0 v4 v6 v8 (IntKind.i64.wrap (v9 + 1)) (IntKind.i64.wrap (v9 + 1)) Kt) else (l2_76 C N123 N124 N125 N126 N127 k j0 v0 v4 v6 v8 (IntKind.i64.wrap (v9 + 1)) v10 Kt))) else (l2_76 C N123 N124 N125 N126 N127 k j0 v0 v4 v6 v8 (IntKind.i64.wrap (v9 + 1)) v10 Kt)))) else ((at? v0 v9).bind fun b12 => (bif ((b12.toNat : Int) == 9) then (bif ((IntKind.i64.wrap (v9 + 1)) == (v0.length : Int)) then (l2_76 C N123 N124 N125 N126 N127 k j0 v0 v4 v6 v8 (IntKind.i64.wrap (v9 + 1)) (IntKind.i64.wrap (v9 + 1)) Kt) else ((at? v0 (IntKind.i64.wrap (v9 + 1))).bind fun b13 => (bif ((b13.toNat : Int) != 32) then ((at? v0 (IntKind.i64.wrap (v9 + 1))).bind fun b14 => (bif ((b14.toNat : Int) != 9) then (l2_76 C N123 N124 N125 N126 N127 k j0 v0 v4 v6 v8 (IntKind.i64.wrap (v9 + 1)) (IntKind.i64.wrap (v9 + 1)) Kt) else (l2_76 C N123 N124 N125 N126 N127 k j0 v0 v4 v6 v8 (IntKind.i64.wrap (v9 + 1)) v10 Kt))) else (l2_76 C N123 N124 N125 N126 N127 k j0 v0 v4 v6 v8 (IntKind.i64.wrap (v9 + 1)) v10 Kt)))) else (bif (decide (v10 < 0)) then (Kt ([] : BY) false) else (N127 v0 v10 v4 v6 v8 fun r15 r16 => (Kt r15 r16))))))) else (bif (decide (v10 < 0)) then (Kt ([] : BY) false) else (N127 v0 v10 v4 v6 v8 fun r17 r18 => (Kt r17 r18)))) else (bif (decide (v10 < 0)) then (Kt ([] : BY) false) else (N127 v0 v10 v4 v6 v8 fun r19 r20 => (Kt r19 r20)))) := (hC _ _ _).trans (by kernel_rfl)
end
theorem as76 {G : World → Prop} {ng : Nat} (S : Stays Tryz.prog G ng) {N123 : Ty123} {N124 : Ty124} {N125 : Ty125} {N126 : Ty126} {N127 : Ty127} (h123 : FnIs Tryz.prog G ng 123 (adp123 N123)) (h124 : FnIs Tryz.prog G ng 124 (adp124 N124)) (h125 : FnIs Tryz.prog G ng 125 (adp125 N125)) (h126 : FnIs Tryz.prog G ng 126 (adp126 N126)) (h127 : FnIs Tryz.prog G ng 127 (adp127 N127)) {A : Ty76} (hA : ∀ (a0 : BY) (Kt : Tk76) (r : Out), A a0 Kt = some r → run76 cut0 N123 N124 N125 N126 N127 big a0 Kt = some r) : FnIs Tryz.prog G ng 76 (adp76 A) := by
  refine spec_run cut0_eq S (l := gam76 N123 N124 N125 N126 N127) (by intro p hp; simp only [gam76, List.mem_cons, List.not_mem_nil, or_false] at hp; rcases hp with rfl | rfl | rfl | rfl | rfl <;> assumption) Tryz.func76 (by kernel_rfl) (nn := 4) (Lv := lvs76) (k := big) fun rc cs K r h => ?_
  unfold adp76 at h
  split at h
  · exact ⟨_, hA _ _ _ h, fun p hp => by unfold tok76 at hp; split at hp; exact hp; cases hp⟩
  · cases h

/-! targum/targumref10.digits -/
def lvs123 : Nat → Option (List (Nat × Co))
  | 1000195 => some [(0, .k), (1, .k), (2, .k), (3, .k), (10, .k), (11, .k)]
  | _ => none
section
variable (C : Nat → Env → (Env → Option Out) → Option Out) (N92 : Ty92)
def gam123 : List (Nat × Fn1) := [(92, adp92 N92)]
noncomputable def bod123 : Code := Tryz.f123.body.getD .skip
noncomputable def run123 (k : Nat) (a0 : BY) (a1 : Int) (a2 : Int) (a3 : Int) (Kt : Tk123) : Option Out := runK Tryz.prog (lookG (gam123 N92)) 12 lvs123 C k Tryz.f123 none [.s (.str a0), .s (.int .i64 a1), .s (.int .i64 a2), .s (.int .i64 a3)] (tok123 Kt)
noncomputable def l1_123 (k : Nat) (j0 : Nat) (v0 : BY) (v1 : Int) (v2 : Int) (v3 : Int) (v10 : Int) (v11 : Int) (Kt : Tk123) : Option Out := C 1000195 ([.c (.s (.str v0)), .c (.s (.int .i64 v1)), .c (.s (.int .i64 v2)), .c (.s (.int .i64 v3))] ++ us 6 ++ [.c (.s (.int .i64 v10)), .c (.s (.int .i64 v11))] ++ us 35) fun e => headK Tryz.prog (lookG (gam123 N92)) 12 lvs123 C k j0 bod123 [1, 1, 0, 0] e (fin Tryz.prog Tryz.f123 none (tok123 Kt))
theorem run123_eq (k : Nat) (a0 : BY) (a1 : Int) (a2 : Int) (a3 : Int) (Kt : Tk123) : run123 C N92 k a0 a1 a2 a3 Kt =
  (l1_123 C N92 k k a0 a1 a2 a3 0 a1 Kt) := by kernel_rfl
theorem l1_123_eq (hC : ∀ key e t, C key e t = t e) (k : Nat) (j0 : Nat) (v0 : BY) (v1 : Int) (v2 : Int) (v3 : Int) (v10 : Int) (v11 : Int) (Kt : Tk123) : l1_123 C N92 k (j0 + 1) v0 v1 v2 v3 v10 v11 Kt =
  (bif (decide (v11 < (v0.length : Int))) then (bif (decide ((IntKind.i64.wrap (v11 - v1)) < v3)) then ((at? v0 v11).bind fun b1 => (N92 (b1.toNat : Int) fun r2 => (bif r2 then ((at? v0 v11).bind fun b3 => (l1_123 C N92 k j0 v0 v1 v2 v3 (IntKind.i64.wrap ((IntKind.i64.wrap ((10 : Int) * v10)) + (IntKind.i64.wrap (IntKind.u8.wrap ((b3.toNat : Int) - 48))))) (IntKind.i64.wrap (v11 + 1)) Kt)) else (bif (decide ((IntKind.i64.wrap (v11 - v1)) < v2)) then (Kt 0 (-1)) else (Kt v10 v11))))) else (bif (decide ((IntKind.i64.wrap (v11 - v1)) < v2)) then (Kt 0 (-1)) else (Kt v10 v11))) else (bif (decide ((IntKind.i64.wrap (v11 - v1)) < v2)) then (Kt 0 (-1)) else (Kt v10 v11))) := (hC _ _ _).trans (by kernel_rfl)
end
theorem as123 {G : World → Prop} {ng : Nat} (S : Stays Tryz.prog G ng) {N92 : Ty92} (h92 : FnIs Tryz.prog G ng 92 (adp92 N92)) {A : Ty123} (hA : ∀ (a0 : BY) (a1 : Int) (a2 : Int) (a3 : Int) (Kt : Tk123) (r : Out), A a0 a1 a2 a3 Kt = some r → run123 cut0 N92 big a0 a1 a2 a3 Kt = some r) : FnIs Tryz.prog G ng 123 (adp123 A) := by
  refine spec_run cut0_eq S (l := gam123 N92) (by intro p hp; simp only [gam123, List.mem_cons, List.not_mem_nil, or_false] at hp; rcases hp with rfl <;> assumption) Tryz.func123 (by kernel_rfl) (nn := 12) (Lv := lvs123) (k := big) fun rc cs K r h => ?_
  unfold adp123 at h
  split at h
  · exact ⟨_, hA _ _ _ _ _ _ h, fun p hp => by unfold tok123 at hp; split at hp; exact hp; cases hp⟩
  · cases h

/-! targum/targumref10.part -/
def lvs124 : Nat → Option (List (Nat × Co))
  | _ => none
section
variable (C : Nat → Env → (Env → Option Out) → Option Out) (N123 : Ty123) (N126 : Ty126)
def gam124 : List (Nat × Fn1) := [(123, adp123 N123), (126, adp126 N126)]
noncomputable def bod124 : Code := Tryz.f124.body.getD .skip
noncomputable def run124 (k : Nat) (a0 : BY) (a1 : Int) (a2 : BY) (a3 : Int) (a4 : Int) (Kt : Tk124) : Option Out := runK Tryz.prog (lookG (gam124 N123 N126)) 13 lvs124 C k Tryz.f124 none [.s (.str a0), .s (.int .i64 a1), .s (.str a2), .s (.int .i64 a3), .s (.int .i64 a4)] (tok124 Kt)
theorem run124_eq (k : Nat) (a0 : BY) (a1 : Int) (a2 : BY) (a3 : Int) (a4 : Int) (Kt : Tk124) : run124 C N123 N126 k a0 a1 a2 a3 a4 Kt =
  (N126 a0 a1 a2 fun r1 => (bif (decide (r1 < 0)) then (Kt 0 (-1)) else (N123 a0 r1 a3 a4 fun r2 r3 => (Kt r2 r3)))) := by kernel_rfl
end
theorem as124 {G : World → Prop} {ng : Nat} (S : Stays Tryz.prog G ng) {N123 : Ty123} {N126 : Ty126} (h123 : FnIs Tryz.prog G ng 123 (adp123 N123)) (h126 : FnIs Tryz.prog G ng 126 (adp126 N126)) {A : Ty124} (hA : ∀ (a0 : BY) (a1 : Int) (a2 : BY) (a3 : Int) (a4 : Int) (Kt : Tk124) (r : Out), A a0 a1 a2 a3 a4 Kt = some r → run124 cut0 N123 N126 big a0 a1 a2 a3 a4 Kt = some r) : FnIs Tryz.prog G ng 124 (adp124 A) := by
  refine spec_run cut0_eq S (l := gam124 N123 N126) (by intro p hp; simp only [gam124, List.mem_cons, List.not_mem_nil, or_false] at hp; rcases hp with rfl | rfl <;> assumption) Tryz.func124 (by kernel_rfl) (nn := 13) (Lv := lvs124) (k := big) fun rc cs K r h => ?_
  unfold adp124 at h
  split at h
  · exact ⟨_, hA _ _ _ _ _ _ _ h, fun p hp => by unfold tok124 at hp; split at hp; exact hp; cases hp⟩
  · cases h

/-! targum/targumref10.Days -/
def lvs125 : Nat → Option (List (Nat × Co))
  | 194 => some [(0, .k), (1, .k), (14, .k)]
  | 386 => some [(29, .k)]
  | 578 => some [(43, .k)]
  | _ => none
section
variable (C : Nat → Env → (Env → Option Out) → Option Out)
def gam125 : List (Nat × Fn1) := []
noncomputable def bod125 : Code := Tryz.f125.body.getD .skip
noncomputable def run125 (k : Nat) (a0 : Int) (a1 : Int) (Kt : Tk125) : Option Out := runK Tryz.prog (lookG (gam125)) 5 lvs125 C k Tryz.f125 none [.s (.int .i64 a0), .s (.int .i64 a1)] (tok125 Kt)
noncomputable def p1_125 (k : Nat) (v0 : Int) (v1 : Int) (v14 : Bool) (Kt : Tk125) : Option Out := C 194 ([.c (.s (.int .i64 v0)), .c (.s (.int .i64 v1))] ++ us 12 ++ [.c (.s (.bool v14))] ++ us 29) fun e => atK Tryz.prog (lookG (gam125)) 5 lvs125 C k bod125 [1, 0, 1] e (fin Tryz.prog Tryz.f125 none (tok125 Kt))
noncomputable def p2_125 (k : Nat) (v29 : Bool) (Kt : Tk125) : Option Out := C 386 (us 29 ++ [.c (.s (.bool v29))] ++ us 14) fun e => atK Tryz.prog (lookG (gam125)) 5 lvs125 C k bod125 [1, 1, 0, 1, 0, 0, 1] e (fin Tryz.prog Tryz.f125 none (tok125 Kt))
noncomputable def p3_125 (k : Nat) (v43 : Bool) (Kt : Tk125) : Option Out := C 578 (us 43 ++ [.c (.s (.bool v43))]) fun e => atK Tryz.prog (lookG (gam125)) 5 lvs125 C k bod125 [1, 1, 1, 0, 1] e (fin Tryz.prog Tryz.f125 none (tok125 Kt))
theorem run125_eq (k : Nat) (a0 : Int) (a1 : Int) (Kt : Tk125) : run125 C k a0 a1 Kt =
  (bif (decide (a0 < 0)) then (p1_125 C k a0 a1 true Kt) else (bif (decide (a1 < 1)) then (p1_125 C k a0 a1 true Kt) else (p1_125 C k a0 a1 (decide (a1 > 12)) Kt))) := by kernel_rfl
theorem p1_125_eq (hC : ∀ key e t, C key e t = t e) (k : Nat) (v0 : Int) (v1 : Int) (v14 : Bool) (Kt : Tk125) : p1_125 C k v0 v1 v14 Kt =
  (bif v14 then (Kt 0) else (bif (v1 == 2) then (bif ((v0.tmod 4) == 0) then (bif ((v0.tmod 100) != 0) then (p2_125 C k true Kt) else (p2_125 C k ((v0.tmod 400) == 0) Kt)) else (p2_125 C k false Kt)) else (bif (v1 == 4) then (p3_125 C k true Kt) else (bif (v1 == 6) then (p3_125 C k true Kt) else (bif (v1 == 9) then (p3_125 C k true Kt) else (p3_125 C k (v1 == 11) Kt)))))) := (hC _ _ _).trans (by kernel_rfl)
theorem p2_125_eq (hC : ∀ key e t, C key e t = t e) (k : Nat) (v29 : Bool) (Kt : Tk125) : p2_125 C k v29 Kt =
  (bif v29 then (Kt 29) else (Kt 28)) := (hC _ _ _).trans (by kernel_rfl)
theorem p3_125_eq (hC : ∀ key e t, C key e t = t e) (k : Nat) (v43 : Bool) (Kt : Tk125) : p3_125 C k v43 Kt =
  (bif v43 then (Kt 30) else (Kt 31)) := (hC _ _ _).trans (by kernel_rfl)
end
theorem as125 {G : World → Prop} {ng : Nat} (S : Stays Tryz.prog G ng) {A : Ty125} (hA : ∀ (a0 : Int) (a1 : Int) (Kt : Tk125) (r : Out), A a0 a1 Kt = some r → run125 cut0 big a0 a1 Kt = some r) : FnIs Tryz.prog G ng 125 (adp125 A) := by
  refine spec_run cut0_eq S (l := gam125) (by intro p hp; cases hp) Tryz.func125 (by kernel_rfl) (nn := 5) (Lv := lvs125) (k := big) fun rc cs K r h => ?_
  unfold adp125 at h
  split at h
  · exact ⟨_, hA _ _ _ _ h, fun p hp => by unfold tok125 at hp; split at hp; exact hp; cases hp⟩
  · cases h

/-! targum/targumref10.sign -/
def lvs126 : Nat → Option (List (Nat × Co))
  | 194 => some [(0, .k), (1, .k), (2, .k), (15, .k)]
  | 1000323 => some [(0, .k), (1, .k), (2, .k), (7, .k)]
  | _ => none
section
variable (C : Nat → Env → (Env → Option Out) → Option Out)
def gam126 : List (Nat × Fn1) := []
noncomputable def bod126 : Code := Tryz.f126.body.getD .skip
noncomputable def run126 (k : Nat) (a0 : BY) (a1 : Int) (a2 : BY) (Kt : Tk126) : Option Out := runK Tryz.prog (lookG (gam126)) 8 lvs126 C k Tryz.f126 none [.s (.str a0), .s (.int .i64 a1), .s (.str a2)] (tok126 Kt)
noncomputable def p1_126 (k : Nat) (v0 : BY) (v1 : Int) (v2 : BY) (v15 : Bool) (Kt : Tk126) : Option Out := C 194 ([.c (.s (.str v0)), .c (.s (.int .i64 v1)), .c (.s (.str v2))] ++ us 12 ++ [.c (.s (.bool v15))] ++ us 15) fun e => atK Tryz.prog (lookG (gam126)) 8 lvs126 C k bod126 [1, 0, 1] e (fin Tryz.prog Tryz.f126 none (tok126 Kt))
noncomputable def l2_126 (k : Nat) (j0 : Nat) (v0 : BY) (v1 : Int) (v2 : BY) (v7 : Int) (Kt : Tk126) : Option Out := C 1000323 ([.c (.s (.str v0)), .c (.s (.int .i64 v1)), .c (.s (.str v2)), .u, .u, .u, .u, .c (.s (.int .i64 v7))] ++ us 23) fun e => headK Tryz.prog (lookG (gam126)) 8 lvs126 C k j0 bod126 [1, 1, 0, 1, 0] e (fin Tryz.prog Tryz.f126 none (tok126 Kt))
theorem run126_eq (k : Nat) (a0 : BY) (a1 : Int) (a2 : BY) (Kt : Tk126) : run126 C k a0 a1 a2 Kt =
  (bif (decide (a1 < 0)) then (p1_126 C k a0 a1 a2 true Kt) else (p1_126 C k a0 a1 a2 (decide (a1 ≥ (a0.length : Int))) Kt)) := by kernel_rfl
theorem p1_126_eq (hC : ∀ key e t, C key e t = t e) (k : Nat) (v0 : BY) (v1 : Int) (v2 : BY) (v15 : Bool) (Kt : Tk126) : p1_126 C k v0 v1 v2 v15 Kt =
  (bif v15 then (Kt (-1)) else (l2_126 C k k v0 v1 v2 0 Kt)) := (hC _ _ _).trans (by kernel_rfl)
theorem l2_126_eq (hC : ∀ key e t, C key e t = t e) (k : Nat) (j0 : Nat) (v0 : BY) (v1 : Int) (v2 : BY) (v7 : Int) (Kt : Tk126) : l2_126 C k (j0 + 1) v0 v1 v2 v7 Kt =
  (bif (decide (v7 < (v2.length : Int))) then ((at? v0 v1).bind fun b1 => ((at? v2 v7).bind fun b2 => (bif ((b1.toNat : Int) == (b2.toNat : Int)) then (Kt (IntKind.i64.wrap (v1 + 1))) else (l2_126 C k j0 v0 v1 v2 (IntKind.i64.wrap (v7 + 1)) Kt)))) else (Kt (-1))) := (hC _ _ _).trans (by kernel_rfl)
end
theorem as126 {G : World → Prop} {ng : Nat} (S : Stays Tryz.prog G ng) {A : Ty126} (hA : ∀ (a0 : BY) (a1 : Int) (a2 : BY) (Kt : Tk126) (r : Out), A a0 a1 a2 Kt = some r → run126 cut0 big a0 a1 a2 Kt = some r) : FnIs Tryz.prog G ng 126 (adp126 A) := by
  refine spec_run cut0_eq S (l := gam126) (by intro p hp; cases hp) Tryz.func126 (by kernel_rfl) (nn := 8) (Lv := lvs126) (k := big) fun rc cs K r h => ?_
  unfold adp126 at h
  split at h
  · exact ⟨_, hA _ _ _ _ _ h, fun p hp => by unfold tok126 at hp; split at hp; exact hp; cases hp⟩
  · cases h

/-! targum/targumref10.clock -/
def lvs127 : Nat → Option (List (Nat × Co))
  | 642 => some [(0, .k), (2, .k), (3, .k), (4, .k), (12, .k), (14, .k), (16, .k), (17, .k), (60, .k)]
  | 1157 => some [(0, .k), (2, .k), (3, .k), (4, .k), (12, .k), (14, .k), (16, .k), (17, .k), (18, .k)]
  | 1857 => some [(23, .k)]
  | 1000963 => some [(0, .k), (2, .k), (3, .k), (4, .k), (12, .k), (14, .k), (16, .k), (19, .k), (20, .k)]
  | 1001155 => some [(0, .k), (2, .k), (3, .k), (4, .k), (12, .k), (14, .k), (16, .k), (17, .k), (18, .k)]
  | _ => none
section
variable (C : Nat → Env → (Env → Option Out) → Option Out) (N92 : Ty92) (N123 : Ty123) (N124 : Ty124) (N126 : Ty126) (N178 : Ty178) (N179 : Ty179) (N180 : Ty180)
def gam127 : List (Nat × Fn1) := [(92, adp92 N92), (123, adp123 N123), (124, adp124 N124), (126, adp126 N126), (178, adp178 N178), (179, adp179 N179), (180, adp180 N180)]
noncomputable def bod127 : Code := Tryz.f127.body.getD .skip
noncomputable def run127 (k : Nat) (a0 : BY) (a1 : Int) (a2 : Int) (a3 : Int) (a4 : Int) (Kt : Tk127) : Option Out := runK Tryz.prog (lookG (gam127 N92 N123 N124 N126 N178 N179 N180)) 12 lvs127 C k Tryz.f127 none [.s (.str a0), .s (.int .i64 a1), .s (.int .i64 a2), .s (.int .i64 a3), .s (.int .i64 a4)] (tok127 Kt)
noncomputable def p1_127 (k : Nat) (v0 : BY) (v2 : Int) (v3 : Int) (v4 : Int) (v12 : Int) (v14 : Int) (v16 : Int) (v17 : Int) (v60 : Bool) (Kt : Tk127) : Option Out := C 642 ([.c (.s (.str v0)), .u, .c (.s (.int .i64 v2)), .c (.s (.int .i64 v3)), .c (.s (.int .i64 v4))] ++ us 7 ++ [.c (.s (.int .i64 v12)), .u, .c (.s (.int .i64 v14)), .u, .c (.s (.int .i64 v16)), .c (.s (.int .i64 v17))] ++ us 42 ++ [.c (.s (.bool v60))] ++ us 75) fun e => atK Tryz.prog (lookG (gam127 N92 N123 N124 N126 N178 N179 N180)) 12 lvs127 C k bod127 [1, 1, 1, 1, 1, 1, 0, 1] e (fin Tryz.prog Tryz.f127 none (tok127 Kt))
noncomputable def l2_127 (k : Nat) (j0 : Nat) (v0 : BY) (v2 : Int) (v3 : Int) (v4 : Int) (v12 : Int) (v14 : Int) (v16 : Int) (v19 : Int) (v20 : Int) (Kt : Tk127) : Option Out := C 1000963 ([.c (.s (.str v0)), .u, .c (.s (.int .i64 v2)), .c (.s (.int .i64 v3)), .c (.s (.int .i64 v4))] ++ us 7 ++ [.c (.s (.int .i64 v12)), .u, .c (.s (.int .i64 v14)), .u, .c (.s (.int .i64 v16)), .u, .u, .c (.s (.int .i64 v19)), .c (.s (.int .i64 v20))] ++ us 115) fun e => headK Tryz.prog (lookG (gam127 N92 N123 N124 N126 N178 N179 N180)) 12 lvs127 C k j0 bod127 [1, 1, 1, 1, 1, 1, 1, 1, 0, 1, 1, 0, 1, 0, 0] e (fin Tryz.prog Tryz.f127 none (tok127 Kt))
noncomputable def p3_127 (k : Nat) (v0 : BY) (v2 : Int) (v3 : Int) (v4 : Int) (v12 : Int) (v14 : Int) (v16 : Int) (v17 : Int) (v18 : BY) (Kt : Tk127) : Option Out := C 1157 ([.c (.s (.str v0)), .u, .c (.s (.int .i64 v2)), .c (.s (.int .i64 v3)), .c (.s (.int .i64 v4))] ++ us 7 ++ [.c (.s (.int .i64 v12)), .u, .c (.s (.int .i64 v14)), .u, .c (.s (.int .i64 v16)), .c (.s (.int .i64 v17)), .c (.s (.str v18))] ++ us 117) fun e => atK Tryz.prog (lookG (gam127 N92 N123 N124 N126 N178 N179 N180)) 12 lvs127 C k bod127 [1, 1, 1, 1, 1, 1, 1, 1, 1] e (fin Tryz.prog Tryz.f127 none (tok127 Kt))
noncomputable def l4_127 (k : Nat) (j0 : Nat) (v0 : BY) (v2 : Int) (v3 : Int) (v4 : Int) (v12 : Int) (v14 : Int) (v16 : Int) (v17 : Int) (v18 : BY) (Kt : Tk127) : Option Out := C 1001155 ([.c (.s (.str v0)), .u, .c (.s (.int .i64 v2)), .c (.s (.int .i64 v3)), .c (.s (.int .i64 v4))] ++ us 7 ++ [.c (.s (.int .i64 v12)), .u, .c (.s (.int .i64 v14)), .u, .c (.s (.int .i64 v16)), .c (.s (.int .i64 v17)), .c (.s (.str v18))] ++ us 117) fun e => headK Tryz.prog (lookG (gam127 N92 N123 N124 N126 N178 N179 N180)) 12 lvs127 C k j0 bod127 [1, 1, 1, 1, 1, 1, 1, 1, 1, 0, 0] e (fin Tryz.prog Tryz.f127 none (tok127 Kt))
noncomputable def p5_127 (k : Nat) (v23 : BY) (Kt : Tk127) : Option Out := C 1857 (us 23 ++ [.c (.s (.str v23))] ++ us 112) fun e => atK Tryz.prog (lookG (gam127 N92 N123 N124 N126 N178 N179 N180)) 12 lvs127 C k bod127 [1, 1, 1, 1, 1, 1, 1, 1, 1, 1, 1, 1, 1, 1, 1, 1] e (fin Tryz.prog Tryz.f127 none (tok127 Kt))
theorem run127_eq (k : Nat) (a0 : BY) (a1 : Int) (a2 : Int) (a3 : Int) (a4 : Int) (Kt : Tk127) : run127 C N92 N123 N124 N126 N178 N179 N180 k a0 a1 a2 a3 a4 Kt =
  (N123 a0 a1 1 2 fun r1 r2 => (bif (decide (r2 < 0)) then (Kt ([] : BY) false) else (N124 a0 r2 ([58] : BY) 2 2 fun r3 r4 => (bif (decide (r4 < 0)) then (Kt ([] : BY) false) else (N124 a0 r4 ([58] : BY) 2 2 fun r5 r6 => (bif (decide (r6 < 0)) then (p1_127 C N92 N123 N124 N126 N178 N179 N180 k a0 a2 a3 a4 r1 r3 r5 r6 true Kt) else (bif (decide (r1 > 23)) then (p1_127 C N92 N123 N124 N126 N178 N179 N180 k a0 a2 a3 a4 r1 r3 r5 r6 true Kt) else (bif (decide (r3 > 59)) then (p1_127 C N92 N123 N124 N126 N178 N179 N180 k a0 a2 a3 a4 r1 r3 r5 r6 true Kt) else (p1_127 C N92 N123 N124 N126 N178 N179 N180 k a0 a2 a3 a4 r1 r3 r5 r6 (decide (r5 > 59)) Kt))))))))) := by kernel_rfl
theorem p1_127_eq (hC : ∀ key e t, C key e t = t e) (k : Nat) (v0 : BY) (v2 : Int) (v3 : Int) (v4 : Int) (v12 : Int) (v14 : Int) (v16 : Int) (v17 : Int) (v60 : Bool) (Kt : Tk127) : p1_127 C N92 N123 N124 N126 N178 N179 N180 k v0 v2 v3 v4 v12 v14 v16 v17 v60 Kt =
  (bif v60 then (Kt ([] : BY) false) else (N126 v0 v17 ([46] : BY) fun r7 => (bif (decide (r7 > 0)) then (l2_127 C N92 N123 N124 N126 N178 N179 N180 k k v0 v2 v3 v4 v12 v14 v16 r7 r7 Kt) else (p3_127 C N92 N123 N124 N126 N178 N179 N180 k v0 v2 v3 v4 v12 v14 v16 v17 ([] : BY) Kt)))) := (hC _ _ _).trans (by kernel_rfl)
theorem l2_127_eq (hC : ∀ key e t, C key e t = t e) (k : Nat) (j0 : Nat) (v0 : BY) (v2 : Int) (v3 : Int) (v4 : Int) (v12 : Int) (v14 : Int) (v16 : Int) (v19 : Int) (v20 : Int) (Kt : Tk127) : l2_127 C N92 N123 N124 N126 N178 N179 N180 k (j0 + 1) v0 v2 v3 v4 v12 v14 v16 v19 v20 Kt =
  (bif (decide (v20 < (v0.length : Int))) then ((at? v0 v20).bind fun b8 => (N92 (b8.toNat : Int) fun r9 => (bif r9 then (l2_127 C N92 N123 N124 N126 N178 N179 N180 k j0 v0 v2 v3 v4 v12 v14 v16 v19 (IntKind.i64.wrap (v20 + 1)) Kt) else ((cut v0 (some v19) (some v20)).bind fun s10 => (p3_127 C N92 N123 N124 N126 N178 N179 N180 k v0 v2 v3 v4 v12 v14 v16 v20 s10 Kt))))) else ((cut v0 (some v19) (some v20)).bind fun s11 => (p3_127 C N92 N123 N124 N126 N178 N179 N180 k v0 v2 v3 v4 v12 v14 v16 v20 s11 Kt))) := (hC _ _ _).trans (by kernel_rfl)
theorem p3_127_eq (hC : ∀ key e t, C key e t = t e) (k : Nat) (v0 : BY) (v2 : Int) (v3 : Int) (v4 : Int) (v12 : Int) (v14 : Int) (v16 : Int) (v17 : Int) (v18 : BY) (Kt : Tk127) : p3_127 C N92 N123 N124 N126 N178 N179 N180 k v0 v2 v3 v4 v12 v14 v16 v17 v18 Kt =
  (l4_127 C N92 N123 N124 N126 N178 N179 N180 k k v0 v2 v3 v4 v12 v14 v16 v17 v18 Kt) := (hC _ _ _).trans (by kernel_rfl)
theorem l4_127_eq (hC : ∀ key e t, C key e t = t e) (k : Nat) (j0 : Nat) (v0 : BY) (v2 : Int) (v3 : Int) (v4 : Int) (v12 : Int) (v14 : Int) (v16 : Int) (v17 : Int) (v18 : BY) (Kt : Tk127) : l4_127 C N92 N123 N124 N126 N178 N179 N180 k (j0 + 1) v0 v2 v3 v4 v12 v14 v16 v17 v18 Kt =
  (bif (decide ((v18.length : Int) > 0)) then ((at? v18 (IntKind.i64.wrap ((v18.length : Int) - 1))).bind fun b12 => (bif ((b12.toNat : Int) == 48) then ((cut v18 none (some (IntKind.i64.wrap ((v18.length : Int) - 1)))).bind fun s13 => (l4_127 C N92 N123 N124 N126 N178 N179 N180 k j0 v0 v2 v3 v4 v12 v14 v16 v17 s13 Kt)) else (N178 v0 v17 fun r14 r15 => (bif (!r15) then (Kt ([] : BY) false) else (N179 v2 v3 v4 (IntKind.i64.wrap ((IntKind.i64.wrap ((IntKind.i64.wrap ((60 : Int) * v12)) + v14)) - r14)) fun r16 r17 => (bif (!r17) then (Kt ([] : BY) false) else ((cat r16 ([58] : BY)).bind fun s18 => (N180 v16 fun r19 => ((cat s18 r19).bind fun s20 => (bif (!(v18 == ([] : BY))) then ((cat s20 ([46] : BY)).bind fun s21 => ((cat s21 v18).bind fun s22 => (p5_127 C N92 N123 N124 N126 N178 N179 N180 k s22 Kt))) else (p5_127 C N92 N123 N124 N126 N178 N179 N180 k s20 Kt))))))))))) else (N178 v0 v17 fun r23 r24 => (bif (!r24) then (Kt ([] : BY) false) else (N179 v2 v3 v4 (IntKind.i64.wrap ((IntKind.i64.wrap ((IntKind.i64.wrap ((60 : Int) * v12)) + v14)) - r23)) fun r25 r26 => (bif (!r26) then (Kt ([] : BY) false) else ((cat r25 ([58] : BY)).bind fun s27 => (N180 v16 fun r28 => ((cat s27 r28).bind fun s29 => (bif (!(v18 == ([] : BY))) then ((cat s29 ([46] : BY)).bind fun s30 => ((cat s30 v18).bind fun s31 => (p5_127 C N92 N123 N124 N126 N178 N179 N180 k s31 Kt))) else (p5_127 C N92 N123 N124 N126 N178 N179 N180 k s29 Kt)))))))))) := (hC _ _ _).trans (by kernel_rfl)
theorem p5_127_eq (hC : ∀ key e t, C key e t = t e) (k : Nat) (v23 : BY) (Kt : Tk127) : p5_127 C N92 N123 N124 N126 N178 N179 N180 k v23 Kt =
  ((cat v23 ([90] : BY)).bind fun s32 => (Kt s32 true)) := (hC _ _ _).trans (by kernel_rfl)
end
theorem as127 {G : World → Prop} {ng : Nat} (S : Stays Tryz.prog G ng) {N92 : Ty92} {N123 : Ty123} {N124 : Ty124} {N126 : Ty126} {N178 : Ty178} {N179 : Ty179} {N180 : Ty180} (h92 : FnIs Tryz.prog G ng 92 (adp92 N92)) (h123 : FnIs Tryz.prog G ng 123 (adp123 N123)) (h124 : FnIs Tryz.prog G ng 124 (adp124 N124)) (h126 : FnIs Tryz.prog G ng 126 (adp126 N126)) (h178 : FnIs Tryz.prog G ng 178 (adp178 N178)) (h179 : FnIs Tryz.prog G ng 179 (adp179 N179)) (h180 : FnIs Tryz.prog G ng 180 (adp180 N180)) {A : Ty127} (hA : ∀ (a0 : BY) (a1 : Int) (a2 : Int) (a3 : Int) (a4 : Int) (Kt : Tk127) (r : Out), A a0 a1 a2 a3 a4 Kt = some r → run127 cut0 N92 N123 N124 N126 N178 N179 N180 big a0 a1 a2 a3 a4 Kt = some r) : FnIs Tryz.prog G ng 127 (adp127 A) := by
  refine spec_run cut0_eq S (l := gam127 N92 N123 N124 N126 N178 N179 N180) (by intro p hp; simp only [gam127, List.mem_cons, List.not_mem_nil, or_false] at hp; rcases hp with rfl | rfl | rfl | rfl | rfl | rfl | rfl <;> assumption) Tryz.func127 (by kernel_rfl) (nn := 12) (Lv := lvs127) (k := big) fun rc cs K r h => ?_
  unfold adp127 at h
  split at h
  · exact ⟨_, hA _ _ _ _ _ _ _ h, fun p hp => by unfold tok127 at hp; split at hp; exact hp; cases hp⟩
  · cases h

/-! targum/targumref10.zone -/
def lvs178 : Nat → Option (List (Nat × Co))
  | 450 => some [(0, .k), (1, .k), (43, .k)]
  | 642 => some [(0, .k), (1, .k), (6, .k), (7, .k), (55, .k)]
  | 962 => some [(0, .k), (1, .k), (6, .k), (9, .k), (73, .k)]
  | 1090 => some [(0, .k), (1, .k), (6, .k), (8, .k)]
  | 1000259 => some [(0, .k), (1, .k)]
  | _ => none
section
variable (C : Nat → Env → (Env → Option Out) → Option Out) (N124 : Ty124)
def gam178 : List (Nat × Fn1) := [(124, adp124 N124)]
noncomputable def bod178 : Code := Tryz.f178.body.getD .skip
noncomputable def run178 (k : Nat) (a0 : BY) (a1 : Int) (Kt : Tk178) : Option Out := runK Tryz.prog (lookG (gam178 N124)) 6 lvs178 C k Tryz.f178 none [.s (.str a0), .s (.int .i64 a1)] (tok178 Kt)
noncomputable def l1_178 (k : Nat) (j0 : Nat) (v0 : BY) (v1 : Int) (Kt : Tk178) : Option Out := C 1000259 ([.c (.s (.str v0)), .c (.s (.int .i64 v1))] ++ us 85) fun e => headK Tryz.prog (lookG (gam178 N124)) 6 lvs178 C k j0 bod178 [1, 1, 0, 0] e (fin Tryz.prog Tryz.f178 none (tok178 Kt))
noncomputable def p2_178 (k : Nat) (v0 : BY) (v1 : Int) (v43 : Bool) (Kt : Tk178) : Option Out := C 450 ([.c (.s (.str v0)), .c (.s (.int .i64 v1))] ++ us 41 ++ [.c (.s (.bool v43))] ++ us 43) fun e => atK Tryz.prog (lookG (gam178 N124)) 6 lvs178 C k bod178 [1, 1, 1, 0, 1] e (fin Tryz.prog Tryz.f178 none (tok178 Kt))
noncomputable def p3_178 (k : Nat) (v0 : BY) (v1 : Int) (v6 : Int) (v7 : Int) (v55 : Bool) (Kt : Tk178) : Option Out := C 642 ([.c (.s (.str v0)), .c (.s (.int .i64 v1)), .u, .u, .u, .u, .c (.s (.int .i64 v6)), .c (.s (.int .i64 v7))] ++ us 47 ++ [.c (.s (.bool v55))] ++ us 31) fun e => atK Tryz.prog (lookG (gam178 N124)) 6 lvs178 C k bod178 [1, 1, 1, 1, 1, 0, 1] e (fin Tryz.prog Tryz.f178 none (tok178 Kt))
noncomputable def p4_178 (k : Nat) (v0 : BY) (v1 : Int) (v6 : Int) (v9 : Int) (v73 : Bool) (Kt : Tk178) : Option Out := C 962 ([.c (.s (.str v0)), .c (.s (.int .i64 v1)), .u, .u, .u, .u, .c (.s (.int .i64 v6)), .u, .u, .c (.s (.int .i64 v9))] ++ us 63 ++ [.c (.s (.bool v73))] ++ us 13) fun e => atK Tryz.prog (lookG (gam178 N124)) 6 lvs178 C k bod178 [1, 1, 1, 1, 1, 1, 1, 0, 1, 0, 1, 0, 1] e (fin Tryz.prog Tryz.f178 none (tok178 Kt))
noncomputable def p5_178 (k : Nat) (v0 : BY) (v1 : Int) (v6 : Int) (v8 : Int) (Kt : Tk178) : Option Out := C 1090 ([.c (.s (.str v0)), .c (.s (.int .i64 v1)), .u, .u, .u, .u, .c (.s (.int .i64 v6)), .u, .c (.s (.int .i64 v8))] ++ us 78) fun e => atK Tryz.prog (lookG (gam178 N124)) 6 lvs178 C k bod178 [1, 1, 1, 1, 1, 1, 1, 1] e (fin Tryz.prog Tryz.f178 none (tok178 Kt))
theorem run178_eq (k : Nat) (a0 : BY) (a1 : Int) (Kt : Tk178) : run178 C N124 k a0 a1 Kt =
  (bif (a1 == (a0.length : Int)) then (Kt 0 true) else (l1_178 C N124 k k a0 a1 Kt)) := by kernel_rfl
theorem l1_178_eq (hC : ∀ key e t, C key e t = t e) (k : Nat) (j0 : Nat) (v0 : BY) (v1 : Int) (Kt : Tk178) : l1_178 C N124 k (j0 + 1) v0 v1 Kt =
  (bif (decide (v1 < (v0.length : Int))) then ((at? v0 v1).bind fun b1 => (bif ((b1.toNat : Int) == 32) then (l1_178 C N124 k j0 v0 (IntKind.i64.wrap (v1 + 1)) Kt) else ((at? v0 v1).bind fun b2 => (bif ((b2.toNat : Int) == 9) then (l1_178 C N124 k j0 v0 (IntKind.i64.wrap (v1 + 1)) Kt) else (bif ((IntKind.i64.wrap (v1 + 1)) == (v0.length : Int)) then ((at? v0 v1).bind fun b3 => (p2_178 C N124 k v0 v1 ((b3.toNat : Int) == 90) Kt)) else (p2_178 C N124 k v0 v1 false Kt)))))) else (bif ((IntKind.i64.wrap (v1 + 1)) == (v0.length : Int)) then ((at? v0 v1).bind fun b4 => (p2_178 C N124 k v0 v1 ((b4.toNat : Int) == 90) Kt)) else (p2_178 C N124 k v0 v1 false Kt))) := (hC _ _ _).trans (by kernel_rfl)
theorem p2_178_eq (hC : ∀ key e t, C key e t = t e) (k : Nat) (v0 : BY) (v1 : Int) (v43 : Bool) (Kt : Tk178) : p2_178 C N124 k v0 v1 v43 Kt =
  (bif v43 then (Kt 0 true) else (N124 v0 v1 ([43, 45] : BY) 1 2 fun r5 r6 => (bif (decide (r6 < 0)) then (p3_178 C N124 k v0 v1 r5 r6 true Kt) else (p3_178 C N124 k v0 v1 r5 r6 (decide (r5 > 23)) Kt)))) := (hC _ _ _).trans (by kernel_rfl)
theorem p3_178_eq (hC : ∀ key e t, C key e t = t e) (k : Nat) (v0 : BY) (v1 : Int) (v6 : Int) (v7 : Int) (v55 : Bool) (Kt : Tk178) : p3_178 C N124 k v0 v1 v6 v7 v55 Kt =
  (bif v55 then (Kt 0 false) else (bif (decide (v7 < (v0.length : Int))) then (N124 v0 v7 ([58] : BY) 2 2 fun r7 r8 => (bif (r8 != (v0.length : Int)) then (p4_178 C N124 k v0 v1 v6 r7 true Kt) else (p4_178 C N124 k v0 v1 v6 r7 (decide (r7 > 59)) Kt))) else (p5_178 C N124 k v0 v1 v6 0 Kt))) := (hC _ _ _).trans (by kernel_rfl)
theorem p4_178_eq (hC : ∀ key e t, C key e t = t e) (k : Nat) (v0 : BY) (v1 : Int) (v6 : Int) (v9 : Int) (v73 : Bool) (Kt : Tk178) : p4_178 C N124 k v0 v1 v6 v9 v73 Kt =
  (bif v73 then (Kt 0 false) else (p5_178 C N124 k v0 v1 v6 v9 Kt)) := (hC _ _ _).trans (by kernel_rfl)
theorem p5_178_eq (hC : ∀ key e t, C key e t = t e) (k : Nat) (v0 : BY) (v1 : Int) (v6 : Int) (v8 : Int) (Kt : Tk178) : p5_178 C N124 k v0 v1 v6 v8 Kt =
  ((at? v0 v1).bind fun b9 => (bif ((b9.toNat : Int) == 45) then (Kt (IntKind.i64.wrap ((IntKind.i64.wrap (((-60) : Int) * v6)) - v8)) true) else (Kt (IntKind.i64.wrap ((IntKind.i64.wrap ((60 : Int) * v6)) + v8)) true))) := (hC _ _ _).trans (by kernel_rfl)
end
theorem as178 {G : World → Prop} {ng : Nat} (S : Stays Tryz.prog G ng) {N124 : Ty124} (h124 : FnIs Tryz.prog G ng 124 (adp124 N124)) {A : Ty178} (hA : ∀ (a0 : BY) (a1 : Int) (Kt : Tk178) (r : Out), A a0 a1 Kt = some r → run178 cut0 N124 big a0 a1 Kt = some r) : FnIs Tryz.prog G ng 178 (adp178 A) := by
  refine spec_run cut0_eq S (l := gam178 N124) (by intro p hp; simp only [gam178, List.mem_cons, List.not_mem_nil, or_false] at hp; rcases hp with rfl <;> assumption) Tryz.func178 (by kernel_rfl) (nn := 6) (Lv := lvs178) (k := big) fun rc cs K r h => ?_
  unfold adp178 at h
  split at h
  · exact ⟨_, hA _ _ _ _ h, fun p hp => by unfold tok178 at hp; split at hp; exact hp; cases hp⟩
  · cases h

/-! targum/targumref10.moved -/
def lvs179 : Nat → Option (List (Nat × Co))
  | 258 => some [(0, .k), (1, .k), (2, .k), (3, .k)]
  | 386 => some [(0, .k), (1, .k), (2, .k), (3, .k)]
  | 640 => some [(0, .k), (1, .k), (3, .k)]
  | 1026 => some [(0, .k), (1, .k), (2, .k), (3, .k)]
  | 1090 => some [(0, .k), (1, .k), (2, .k), (3, .k), (49, .k)]
  | _ => none
section
variable (C : Nat → Env → (Env → Option Out) → Option Out) (N125 : Ty125) (N180 : Ty180) (N219 : Ty219)
def gam179 : List (Nat × Fn1) := [(125, adp125 N125), (180, adp180 N180), (219, adp219 N219)]
noncomputable def bod179 : Code := Tryz.f179.body.getD .skip
noncomputable def run179 (k : Nat) (a0 : Int) (a1 : Int) (a2 : Int) (a3 : Int) (Kt : Tk179) : Option Out := runK Tryz.prog (lookG (gam179 N125 N180 N219)) 10 lvs179 C k Tryz.f179 none [.s (.int .i64 a0), .s (.int .i64 a1), .s (.int .i64 a2), .s (.int .i64 a3)] (tok179 Kt)
noncomputable def p1_179 (k : Nat) (v0 : Int) (v1 : Int) (v2 : Int) (v3 : Int) (Kt : Tk179) : Option Out := C 258 ([.c (.s (.int .i64 v0)), .c (.s (.int .i64 v1)), .c (.s (.int .i64 v2)), .c (.s (.int .i64 v3))] ++ us 60) fun e => atK Tryz.prog (lookG (gam179 N125 N180 N219)) 10 lvs179 C k bod179 [1, 1] e (fin Tryz.prog Tryz.f179 none (tok179 Kt))
noncomputable def p2_179 (k : Nat) (v0 : Int) (v1 : Int) (v2 : Int) (v3 : Int) (Kt : Tk179) : Option Out := C 386 ([.c (.s (.int .i64 v0)), .c (.s (.int .i64 v1)), .c (.s (.int .i64 v2)), .c (.s (.int .i64 v3))] ++ us 60) fun e => atK Tryz.prog (lookG (gam179 N125 N180 N219)) 10 lvs179 C k bod179 [1, 1, 1] e (fin Tryz.prog Tryz.f179 none (tok179 Kt))
noncomputable def p3_179 (k : Nat) (v0 : Int) (v1 : Int) (v3 : Int) (Kt : Tk179) : Option Out := C 640 ([.c (.s (.int .i64 v0)), .c (.s (.int .i64 v1)), .u, .c (.s (.int .i64 v3))] ++ us 60) fun e => atK Tryz.prog (lookG (gam179 N125 N180 N219)) 10 lvs179 C k bod179 [1, 1, 1, 0, 1, 0, 1, 1] e (fin Tryz.prog Tryz.f179 none (tok179 Kt))
noncomputable def p4_179 (k : Nat) (v0 : Int) (v1 : Int) (v2 : Int) (v3 : Int) (Kt : Tk179) : Option Out := C 1026 ([.c (.s (.int .i64 v0)), .c (.s (.int .i64 v1)), .c (.s (.int .i64 v2)), .c (.s (.int .i64 v3))] ++ us 60) fun e => atK Tryz.prog (lookG (gam179 N125 N180 N219)) 10 lvs179 C k bod179 [1, 1, 1, 1] e (fin Tryz.prog Tryz.f179 none (tok179 Kt))
noncomputable def p5_179 (k : Nat) (v0 : Int) (v1 : Int) (v2 : Int) (v3 : Int) (v49 : Bool) (Kt : Tk179) : Option Out := C 1090 ([.c (.s (.int .i64 v0)), .c (.s (.int .i64 v1)), .c (.s (.int .i64 v2)), .c (.s (.int .i64 v3))] ++ us 45 ++ [.c (.s (.bool v49))] ++ us 14) fun e => atK Tryz.prog (lookG (gam179 N125 N180 N219)) 10 lvs179 C k bod179 [1, 1, 1, 1, 0, 1] e (fin Tryz.prog Tryz.f179 none (tok179 Kt))
theorem run179_eq (k : Nat) (a0 : Int) (a1 : Int) (a2 : Int) (a3 : Int) (Kt : Tk179) : run179 C N125 N180 N219 k a0 a1 a2 a3 Kt =
  (bif (decide (a3 < 0)) then (p1_179 C N125 N180 N219 k a0 a1 (IntKind.i64.wrap (a2 - 1)) (IntKind.i64.wrap (a3 + 1440)) Kt) else (p1_179 C N125 N180 N219 k a0 a1 a2 a3 Kt)) := by kernel_rfl
theorem p1_179_eq (hC : ∀ key e t, C key e t = t e) (k : Nat) (v0 : Int) (v1 : Int) (v2 : Int) (v3 : Int) (Kt : Tk179) : p1_179 C N125 N180 N219 k v0 v1 v2 v3 Kt =
  (bif (decide (v3 ≥ 1440)) then (p2_179 C N125 N180 N219 k v0 v1 (IntKind.i64.wrap (v2 + 1)) (IntKind.i64.wrap (v3 - 1440)) Kt) else (p2_179 C N125 N180 N219 k v0 v1 v2 v3 Kt)) := (hC _ _ _).trans (by kernel_rfl)
theorem p2_179_eq (hC : ∀ key e t, C key e t = t e) (k : Nat) (v0 : Int) (v1 : Int) (v2 : Int) (v3 : Int) (Kt : Tk179) : p2_179 C N125 N180 N219 k v0 v1 v2 v3 Kt =
  (bif (decide (v2 < 1)) then (bif (decide ((IntKind.i64.wrap (v1 - 1)) < 1)) then (p3_179 C N125 N180 N219 k (IntKind.i64.wrap (v0 - 1)) 12 v3 Kt) else (p3_179 C N125 N180 N219 k v0 (IntKind.i64.wrap (v1 - 1)) v3 Kt)) else (N125 v0 v1 fun r1 => (bif (decide (v2 > r1)) then (bif (decide ((IntKind.i64.wrap (v1 + 1)) > 12)) then (p4_179 C N125 N180 N219 k (IntKind.i64.wrap (v0 + 1)) 1 1 v3 Kt) else (p4_179 C N125 N180 N219 k v0 (IntKind.i64.wrap (v1 + 1)) 1 v3 Kt)) else (p4_179 C N125 N180 N219 k v0 v1 v2 v3 Kt)))) := (hC _ _ _).trans (by kernel_rfl)
theorem p3_179_eq (hC : ∀ key e t, C key e t = t e) (k : Nat) (v0 : Int) (v1 : Int) (v3 : Int) (Kt : Tk179) : p3_179 C N125 N180 N219 k v0 v1 v3 Kt =
  (N125 v0 v1 fun r2 => (p4_179 C N125 N180 N219 k v0 v1 r2 v3 Kt)) := (hC _ _ _).trans (by kernel_rfl)
theorem p4_179_eq (hC : ∀ key e t, C key e t = t e) (k : Nat) (v0 : Int) (v1 : Int) (v2 : Int) (v3 : Int) (Kt : Tk179) : p4_179 C N125 N180 N219 k v0 v1 v2 v3 Kt =
  (bif (decide (v0 < 0)) then (p5_179 C N125 N180 N219 k v0 v1 v2 v3 true Kt) else (p5_179 C N125 N180 N219 k v0 v1 v2 v3 (decide (v0 > 9999)) Kt)) := (hC _ _ _).trans (by kernel_rfl)
theorem p5_179_eq (hC : ∀ key e t, C key e t = t e) (k : Nat) (v0 : Int) (v1 : Int) (v2 : Int) (v3 : Int) (v49 : Bool) (Kt : Tk179) : p5_179 C N125 N180 N219 k v0 v1 v2 v3 v49 Kt =
  (bif v49 then (Kt ([] : BY) false) else (N219 v0 v1 v2 fun r3 => ((cat r3 ([84] : BY)).bind fun s4 => (N180 (IntKind.i64.wrap (v3.tdiv 60)) fun r5 => ((cat s4 r5).bind fun s6 => ((cat s6 ([58] : BY)).bind fun s7 => (N180 (v3.tmod 60) fun r8 => ((cat s7 r8).bind fun s9 => (Kt s9 true))))))))) := (hC _ _ _).trans (by kernel_rfl)
end
theorem as179 {G : World → Prop} {ng : Nat} (S : Stays Tryz.prog G ng) {N125 : Ty125} {N180 : Ty180} {N219 : Ty219} (h125 : FnIs Tryz.prog G ng 125 (adp125 N125)) (h180 : FnIs Tryz.prog G ng 180 (adp180 N180)) (h219 : FnIs Tryz.prog G ng 219 (adp219 N219)) {A : Ty179} (hA : ∀ (a0 : Int) (a1 : Int) (a2 : Int) (a3 : Int) (Kt : Tk179) (r : Out), A a0 a1 a2 a3 Kt = some r → run179 cut0 N125 N180 N219 big a0 a1 a2 a3 Kt = some r) : FnIs Tryz.prog G ng 179 (adp179 A) := by
  refine spec_run cut0_eq S (l := gam179 N125 N180 N219) (by intro p hp; simp only [gam179, List.mem_cons, List.not_mem_nil, or_false] at hp; rcases hp with rfl | rfl | rfl <;> assumption) Tryz.func179 (by kernel_rfl) (nn := 10) (Lv := lvs179) (k := big) fun rc cs K r h => ?_
  unfold adp179 at h
  split at h
  · exact ⟨_, hA _ _ _ _ _ _ h, fun p hp => by unfold tok179 at hp; split at hp; exact hp; cases hp⟩
  · cases h

/-! targum/targumref10.two -/
def lvs180 : Nat → Option (List (Nat × Co))
  | _ => none
section
variable (C : Nat → Env → (Env → Option Out) → Option Out) (N20 : Ty20)
def gam180 : List (Nat × Fn1) := [(20, adp20 N20)]
noncomputable def bod180 : Code := Tryz.f180.body.getD .skip
noncomputable def run180 (k : Nat) (a0 : Int) (Kt : Tk180) : Option Out := runK Tryz.prog (lookG (gam180 N20)) 3 lvs180 C k Tryz.f180 none [.s (.int .i64 a0)] (tok180 Kt)
theorem run180_eq (k : Nat) (a0 : Int) (Kt : Tk180) : run180 C N20 k a0 Kt =
  (N20 (IntKind.i64.wrap (a0.tdiv 10)) fun r1 => (N20 (a0.tmod 10) fun r2 => ((cat r1 r2).bind fun s3 => (Kt s3)))) := by kernel_rfl
end
theorem as180 {G : World → Prop} {ng : Nat} (S : Stays Tryz.prog G ng) {N20 : Ty20} (h20 : FnIs Tryz.prog G ng 20 (adp20 N20)) {A : Ty180} (hA : ∀ (a0 : Int) (Kt : Tk180) (r : Out), A a0 Kt = some r → run180 cut0 N20 big a0 Kt = some r) : FnIs Tryz.prog G ng 180 (adp180 A) := by
  refine spec_run cut0_eq S (l := gam180 N20) (by intro p hp; simp only [gam180, List.mem_cons, List.not_mem_nil, or_false] at hp; rcases hp with rfl <;> assumption) Tryz.func180 (by kernel_rfl) (nn := 3) (Lv := lvs180) (k := big) fun rc cs K r h => ?_
  unfold adp180 at h
  split at h
  · exact ⟨_, hA _ _ _ h, fun p hp => by unfold tok180 at hp; split at hp; exact hp; cases hp⟩
  · cases h

/-! targum/targumref10.day -/
def lvs219 : Nat → Option (List (Nat × Co))
  | _ => none
section
variable (C : Nat → Env → (Env → Option Out) → Option Out) (N180 : Ty180)
def gam219 : List (Nat × Fn1) := [(180, adp180 N180)]
noncomputable def bod219 : Code := Tryz.f219.body.getD .skip
noncomputable def run219 (k : Nat) (a0 : Int) (a1 : Int) (a2 : Int) (Kt : Tk219) : Option Out := runK Tryz.prog (lookG (gam219 N180)) 7 lvs219 C k Tryz.f219 none [.s (.int .i64 a0), .s (.int .i64 a1), .s (.int .i64 a2)] (tok219 Kt)
theorem run219_eq (k : Nat) (a0 : Int) (a1 : Int) (a2 : Int) (Kt : Tk219) : run219 C N180 k a0 a1 a2 Kt =
  (N180 (IntKind.i64.wrap (a0.tdiv 100)) fun r1 => (N180 (a0.tmod 100) fun r2 => ((cat r1 r2).bind fun s3 => ((cat s3 ([45] : BY)).bind fun s4 => (N180 a1 fun r5 => ((cat s4 r5).bind fun s6 => ((cat s6 ([45] : BY)).bind fun s7 => (N180 a2 fun r8 => ((cat s7 r8).bind fun s9 => (Kt s9)))))))))) := by kernel_rfl
end
theorem as219 {G : World → Prop} {ng : Nat} (S : Stays Tryz.prog G ng) {N180 : Ty180} (h180 : FnIs Tryz.prog G ng 180 (adp180 N180)) {A : Ty219} (hA : ∀ (a0 : Int) (a1 : Int) (a2 : Int) (Kt : Tk219) (r : Out), A a0 a1 a2 Kt = some r → run219 cut0 N180 big a0 a1 a2 Kt = some r) : FnIs Tryz.prog G ng 219 (adp219 A) := by
  refine spec_run cut0_eq S (l := gam219 N180) (by intro p hp; simp only [gam219, List.mem_cons, List.not_mem_nil, or_false] at hp; rcases hp with rfl <;> assumption) Tryz.func219 (by kernel_rfl) (nn := 7) (Lv := lvs219) (k := big) fun rc cs K r h => ?_
  unfold adp219 at h
  split at h
  · exact ⟨_, hA _ _ _ _ _ h, fun p hp => by unfold tok219 at hp; split at hp; exact hp; cases hp⟩
  · cases h

/-! targum/targumref4.IsDigit -/
def lvs92 : Nat → Option (List (Nat × Co))
  | _ => none
section
variable (C : Nat → Env → (Env → Option Out) → Option Out)
def gam92 : List (Nat × Fn1) := []
noncomputable def bod92 : Code := Tryz.f92.body.getD .skip
noncomputable def run92 (k : Nat) (a0 : Int) (Kt : Tk92) : Option Out := runK Tryz.prog (lookG (gam92)) 3 lvs92 C k Tryz.f92 none [.s (.int .u8 a0)] (tok92 Kt)
theorem run92_eq (k : Nat) (a0 : Int) (Kt : Tk92) : run92 C k a0 Kt =
  (bif (decide (a0 ≥ 48)) then (Kt (decide (a0 ≤ 57))) else (Kt false)) := by kernel_rfl
end
theorem as92 {G : World → Prop} {ng : Nat} (S : Stays Tryz.prog G ng) {A : Ty92} (hA : ∀ (a0 : Int) (Kt : Tk92) (r : Out), A a0 Kt = some r → run92 cut0 big a0 Kt = some r) : FnIs Tryz.prog G ng 92 (adp92 A) := by
  refine spec_run cut0_eq S (l := gam92) (by intro p hp; cases hp) Tryz.func92 (by kernel_rfl) (nn := 3) (Lv := lvs92) (k := big) fun rc cs K r h => ?_
  unfold adp92 at h
  split at h
  · exact ⟨_, hA _ _ _ h, fun p hp => by unfold tok92 at hp; split at hp; exact hp; cases hp⟩
  · cases h

/-! targum/targumref4.Text -/
def lvs20 : Nat → Option (List (Nat × Co))
  | 1000195 => some [(0, .k), (3, .k)]
  | _ => none
section
variable (C : Nat → Env → (Env → Option Out) → Option Out)
def gam20 : List (Nat × Fn1) := []
noncomputable def bod20 : Code := Tryz.f20.body.getD .skip
noncomputable def run20 (k : Nat) (a0 : Int) (Kt : Tk20) : Option Out := runK Tryz.prog (lookG (gam20)) 4 lvs20 C k Tryz.f20 none [.s (.int .i64 a0)] (tok20 Kt)
noncomputable def l1_20 (k : Nat) (j0 : Nat) (v0 : Int) (v3 : BY) (Kt : Tk20) : Option Out := C 1000195 ([.c (.s (.int .i64 v0)), .u, .u, .c (.s (.str v3))] ++ us 13) fun e => headK Tryz.prog (lookG (gam20)) 4 lvs20 C k j0 bod20 [1, 1, 0] e (fin Tryz.prog Tryz.f20 none (tok20 Kt))
theorem run20_eq (k : Nat) (a0 : Int) (Kt : Tk20) : run20 C k a0 Kt =
  (l1_20 C k k a0 ([] : BY) Kt) := by kernel_rfl
theorem l1_20_eq (hC : ∀ key e t, C key e t = t e) (k : Nat) (j0 : Nat) (v0 : Int) (v3 : BY) (Kt : Tk20) : l1_20 C k (j0 + 1) v0 v3 Kt =
  ((cat (([(IntKind.u8.wrap (IntKind.i64.wrap ((48 : Int) + (v0.tmod 10))))] : List Int).map fun n => UInt8.ofNat n.toNat) v3).bind fun s1 => (bif ((IntKind.i64.wrap (v0.tdiv 10)) == 0) then (Kt s1) else (l1_20 C k j0 (IntKind.i64.wrap (v0.tdiv 10)) s1 Kt))) := (hC _ _ _).trans (by kernel_rfl)
end
theorem as20 {G : World → Prop} {ng : Nat} (S : Stays Tryz.prog G ng) {A : Ty20} (hA : ∀ (a0 : Int) (Kt : Tk20) (r : Out), A a0 Kt = some r → run20 cut0 big a0 Kt = some r) : FnIs Tryz.prog G ng 20 (adp20 A) := by
  refine spec_run cut0_eq S (l := gam20) (by intro p hp; cases hp) Tryz.func20 (by kernel_rfl) (nn := 4) (Lv := lvs20) (k := big) fun rc cs K r h => ?_
  unfold adp20 at h
  split at h
  · exact ⟨_, hA _ _ _ h, fun p hp => by unfold tok20 at hp; split at hp; exact hp; cases hp⟩
  · cases h

end Go.Proofs.YtffmgholjdfcnaaGreatDoor
