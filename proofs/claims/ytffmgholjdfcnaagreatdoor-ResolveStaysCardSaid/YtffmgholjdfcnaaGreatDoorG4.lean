/- Pieces of the program's functions, printed by gen.py (a program of this session's own), and the equations that the kernel finds. -/
import Derived.Test.YtffmgholjdfcnaaGreatDoorGW
import Derived.Test.YtffmgholjdfcnaaGreatDoorProg
set_option maxRecDepth 100000
set_option linter.unusedVariables false
namespace Go.Proofs.YtffmgholjdfcnaaGreatDoor
open Go Go.Proofs AM
/-! targum/big.Base -/
def lvs95 : Nat → Option (List (Nat × Co))
  | 194 => some [(0, .k), (1, .k), (21, .k)]
  | 1000386 => some [(0, .k), (1, .k), (5, .k), (23, .k), (24, .k)]
  | _ => none
section
variable (C : Nat → Env → (Env → Option Out) → Option Out) (N145 : Ty145) (N146 : Ty146)
def gam95 : List (Nat × Fn1) := [(145, adp145 N145), (146, adp146 N146)]
noncomputable def bod95 : Code := Tryz.f95.body.getD .skip
noncomputable def run95 (k : Nat) (a0 : BY) (a1 : Int) (Kt : Tk95) : Option Out := runK Tryz.prog (lookG (gam95 N145 N146)) 8 lvs95 C k Tryz.f95 none [.s (.str a0), .s (.int .i64 a1)] (tok95 Kt)
noncomputable def p1_95 (k : Nat) (v0 : BY) (v1 : Int) (v21 : Bool) (Kt : Tk95) : Option Out := C 194 ([.c (.s (.str v0)), .c (.s (.int .i64 v1))] ++ us 19 ++ [.c (.s (.bool v21))] ++ us 18) fun e => atK Tryz.prog (lookG (gam95 N145 N146)) 8 lvs95 C k bod95 [1, 0, 1] e (fin Tryz.prog Tryz.f95 none (tok95 Kt))
noncomputable def l2_95 (k : Nat) (j0 : Nat) (v0 : BY) (v1 : Int) (v5 : BY) (v23 : Int) (v24 : Int) (Kt : Tk95) : Option Out := C 1000386 ([.c (.s (.str v0)), .c (.s (.int .i64 v1)), .u, .u, .u, .c (.s (.str v5))] ++ us 17 ++ [.c (.s (.int .i64 v23)), .c (.s (.int .i64 v24))] ++ us 15) fun e => headK Tryz.prog (lookG (gam95 N145 N146)) 8 lvs95 C k j0 bod95 [1, 1, 1, 0, 1, 0] e (fin Tryz.prog Tryz.f95 none (tok95 Kt))
theorem run95_eq (k : Nat) (a0 : BY) (a1 : Int) (Kt : Tk95) : run95 C N145 N146 k a0 a1 Kt =
  (bif (a1 != 2) then (bif (a1 != 8) then (bif (a1 != 16) then (p1_95 C N145 N146 k a0 a1 true Kt) else (p1_95 C N145 N146 k a0 a1 (a0 == ([] : BY)) Kt)) else (p1_95 C N145 N146 k a0 a1 (a0 == ([] : BY)) Kt)) else (p1_95 C N145 N146 k a0 a1 (a0 == ([] : BY)) Kt)) := by kernel_rfl
theorem p1_95_eq (hC : ∀ key e t, C key e t = t e) (k : Nat) (v0 : BY) (v1 : Int) (v21 : Bool) (Kt : Tk95) : p1_95 C N145 N146 k v0 v1 v21 Kt =
  (bif v21 then (Kt ([] : BY)) else (l2_95 C N145 N146 k k v0 v1 ([48] : BY) (v0.length : Int) 0 Kt)) := (hC _ _ _).trans (by kernel_rfl)
theorem l2_95_eq (hC : ∀ key e t, C key e t = t e) (k : Nat) (j0 : Nat) (v0 : BY) (v1 : Int) (v5 : BY) (v23 : Int) (v24 : Int) (Kt : Tk95) : l2_95 C N145 N146 k (j0 + 1) v0 v1 v5 v23 v24 Kt =
  (bif (decide (v24 < v23)) then ((at? v0 v24).bind fun b1 => (N145 (b1.toNat : Int) fun r2 => (bif (decide (r2 ≥ v1)) then (Kt ([] : BY)) else (N146 v5 v1 r2 fun r3 => (l2_95 C N145 N146 k j0 v0 v1 r3 v23 (IntKind.i64.wrap (v24 + 1)) Kt))))) else (Kt v5)) := (hC _ _ _).trans (by kernel_rfl)
end
theorem as95 {G : World → Prop} {ng : Nat} (S : Stays Tryz.prog G ng) {N145 : Ty145} {N146 : Ty146} (h145 : FnIs Tryz.prog G ng 145 (adp145 N145)) (h146 : FnIs Tryz.prog G ng 146 (adp146 N146)) {A : Ty95} (hA : ∀ (a0 : BY) (a1 : Int) (Kt : Tk95) (r : Out), A a0 a1 Kt = some r → run95 cut0 N145 N146 big a0 a1 Kt = some r) : FnIs Tryz.prog G ng 95 (adp95 A) := by
  refine spec_run cut0_eq S (l := gam95 N145 N146) (by intro p hp; simp only [gam95, List.mem_cons, List.not_mem_nil, or_false] at hp; rcases hp with rfl | rfl <;> assumption) Tryz.func95 (by kernel_rfl) (nn := 8) (Lv := lvs95) (k := big) fun rc cs K r h => ?_
  unfold adp95 at h
  split at h
  · exact ⟨_, hA _ _ _ _ h, fun p hp => by unfold tok95 at hp; split at hp; exact hp; cases hp⟩
  · cases h

/-! targum/big.Norm -/
def lvs96 : Nat → Option (List (Nat × Co))
  | _ => none
section
variable (C : Nat → Env → (Env → Option Out) → Option Out) (N43 : Ty43) (N147 : Ty147) (N148 : Ty148)
def gam96 : List (Nat × Fn1) := [(43, adp43 N43), (147, adp147 N147), (148, adp148 N148)]
noncomputable def bod96 : Code := Tryz.f96.body.getD .skip
noncomputable def run96 (k : Nat) (a0 : Bool) (a1 : BY) (Kt : Tk96) : Option Out := runK Tryz.prog (lookG (gam96 N43 N147 N148)) 5 lvs96 C k Tryz.f96 none [.s (.bool a0), .s (.str a1)] (tok96 Kt)
theorem run96_eq (k : Nat) (a0 : Bool) (a1 : BY) (Kt : Tk96) : run96 C N43 N147 N148 k a0 a1 Kt =
  (N147 a1 fun r1 => (bif (!r1) then (Kt ([] : BY)) else (N148 a1 ([48] : BY) fun r2 => (bif (r2 == ([] : BY)) then (Kt ([48] : BY)) else (bif a0 then ((cat ([45] : BY) r2).bind fun s3 => (Kt s3)) else (N43 r2 fun r4 => (Kt r4))))))) := by kernel_rfl
end
theorem as96 {G : World → Prop} {ng : Nat} (S : Stays Tryz.prog G ng) {N43 : Ty43} {N147 : Ty147} {N148 : Ty148} (h43 : FnIs Tryz.prog G ng 43 (adp43 N43)) (h147 : FnIs Tryz.prog G ng 147 (adp147 N147)) (h148 : FnIs Tryz.prog G ng 148 (adp148 N148)) {A : Ty96} (hA : ∀ (a0 : Bool) (a1 : BY) (Kt : Tk96) (r : Out), A a0 a1 Kt = some r → run96 cut0 N43 N147 N148 big a0 a1 Kt = some r) : FnIs Tryz.prog G ng 96 (adp96 A) := by
  refine spec_run cut0_eq S (l := gam96 N43 N147 N148) (by intro p hp; simp only [gam96, List.mem_cons, List.not_mem_nil, or_false] at hp; rcases hp with rfl | rfl | rfl <;> assumption) Tryz.func96 (by kernel_rfl) (nn := 5) (Lv := lvs96) (k := big) fun rc cs K r h => ?_
  unfold adp96 at h
  split at h
  · exact ⟨_, hA _ _ _ _ h, fun p hp => by unfold tok96 at hp; split at hp; exact hp; cases hp⟩
  · cases h

/-! targum/big.MulAdd -/
def lvs104 : Nat → Option (List (Nat × Co))
  | 194 => some [(0, .k), (1, .k), (2, .k), (24, .k)]
  | _ => none
section
variable (C : Nat → Env → (Env → Option Out) → Option Out) (N146 : Ty146) (N150 : Ty150) (N158 : Ty158)
def gam104 : List (Nat × Fn1) := [(146, adp146 N146), (150, adp150 N150), (158, adp158 N158)]
noncomputable def bod104 : Code := Tryz.f104.body.getD .skip
noncomputable def run104 (k : Nat) (a0 : BY) (a1 : Int) (a2 : Int) (Kt : Tk104) : Option Out := runK Tryz.prog (lookG (gam104 N146 N150 N158)) 7 lvs104 C k Tryz.f104 none [.s (.str a0), .s (.int .i64 a1), .s (.int .i64 a2)] (tok104 Kt)
noncomputable def p1_104 (k : Nat) (v0 : BY) (v1 : Int) (v2 : Int) (v24 : Bool) (Kt : Tk104) : Option Out := C 194 ([.c (.s (.str v0)), .c (.s (.int .i64 v1)), .c (.s (.int .i64 v2))] ++ us 21 ++ [.c (.s (.bool v24)), .u, .u, .u, .u]) fun e => atK Tryz.prog (lookG (gam104 N146 N150 N158)) 7 lvs104 C k bod104 [1, 0, 1] e (fin Tryz.prog Tryz.f104 none (tok104 Kt))
theorem run104_eq (k : Nat) (a0 : BY) (a1 : Int) (a2 : Int) (Kt : Tk104) : run104 C N146 N150 N158 k a0 a1 a2 Kt =
  (N150 a0 fun r1 => (bif (!r1) then (p1_104 C N146 N150 N158 k a0 a1 a2 true Kt) else ((at? a0 0).bind fun b2 => (bif ((b2.toNat : Int) == 45) then (p1_104 C N146 N150 N158 k a0 a1 a2 true Kt) else (N158 a1 fun r3 => (bif (!r3) then (p1_104 C N146 N150 N158 k a0 a1 a2 true Kt) else (N158 a2 fun r4 => (p1_104 C N146 N150 N158 k a0 a1 a2 (!r4) Kt)))))))) := by kernel_rfl
theorem p1_104_eq (hC : ∀ key e t, C key e t = t e) (k : Nat) (v0 : BY) (v1 : Int) (v2 : Int) (v24 : Bool) (Kt : Tk104) : p1_104 C N146 N150 N158 k v0 v1 v2 v24 Kt =
  (bif v24 then (Kt ([] : BY)) else (N146 v0 v1 v2 fun r5 => (Kt r5))) := (hC _ _ _).trans (by kernel_rfl)
end
theorem as104 {G : World → Prop} {ng : Nat} (S : Stays Tryz.prog G ng) {N146 : Ty146} {N150 : Ty150} {N158 : Ty158} (h146 : FnIs Tryz.prog G ng 146 (adp146 N146)) (h150 : FnIs Tryz.prog G ng 150 (adp150 N150)) (h158 : FnIs Tryz.prog G ng 158 (adp158 N158)) {A : Ty104} (hA : ∀ (a0 : BY) (a1 : Int) (a2 : Int) (Kt : Tk104) (r : Out), A a0 a1 a2 Kt = some r → run104 cut0 N146 N150 N158 big a0 a1 a2 Kt = some r) : FnIs Tryz.prog G ng 104 (adp104 A) := by
  refine spec_run cut0_eq S (l := gam104 N146 N150 N158) (by intro p hp; simp only [gam104, List.mem_cons, List.not_mem_nil, or_false] at hp; rcases hp with rfl | rfl | rfl <;> assumption) Tryz.func104 (by kernel_rfl) (nn := 7) (Lv := lvs104) (k := big) fun rc cs K r h => ?_
  unfold adp104 at h
  split at h
  · exact ⟨_, hA _ _ _ _ _ h, fun p hp => by unfold tok104 at hp; split at hp; exact hp; cases hp⟩
  · cases h

/-! targum/big.digit -/
def lvs145 : Nat → Option (List (Nat × Co))
  | 194 => some [(0, .k), (3, .k)]
  | 322 => some [(0, .k), (13, .k)]
  | 450 => some [(0, .k), (24, .k)]
  | _ => none
section
variable (C : Nat → Env → (Env → Option Out) → Option Out)
def gam145 : List (Nat × Fn1) := []
noncomputable def bod145 : Code := Tryz.f145.body.getD .skip
noncomputable def run145 (k : Nat) (a0 : Int) (Kt : Tk145) : Option Out := runK Tryz.prog (lookG (gam145)) 3 lvs145 C k Tryz.f145 none [.s (.int .u8 a0)] (tok145 Kt)
noncomputable def p1_145 (k : Nat) (v0 : Int) (v3 : Bool) (Kt : Tk145) : Option Out := C 194 ([.c (.s (.int .u8 v0)), .u, .u, .c (.s (.bool v3))] ++ us 31) fun e => atK Tryz.prog (lookG (gam145)) 3 lvs145 C k bod145 [1, 0, 0, 1] e (fin Tryz.prog Tryz.f145 none (tok145 Kt))
noncomputable def p2_145 (k : Nat) (v0 : Int) (v13 : Bool) (Kt : Tk145) : Option Out := C 322 ([.c (.s (.int .u8 v0))] ++ us 12 ++ [.c (.s (.bool v13))] ++ us 21) fun e => atK Tryz.prog (lookG (gam145)) 3 lvs145 C k bod145 [1, 0, 0, 1, 1, 1] e (fin Tryz.prog Tryz.f145 none (tok145 Kt))
noncomputable def p3_145 (k : Nat) (v0 : Int) (v24 : Bool) (Kt : Tk145) : Option Out := C 450 ([.c (.s (.int .u8 v0))] ++ us 23 ++ [.c (.s (.bool v24))] ++ us 10) fun e => atK Tryz.prog (lookG (gam145)) 3 lvs145 C k bod145 [1, 0, 0, 1, 1, 1, 1, 1] e (fin Tryz.prog Tryz.f145 none (tok145 Kt))
theorem run145_eq (k : Nat) (a0 : Int) (Kt : Tk145) : run145 C k a0 Kt =
  (bif (decide (a0 ≥ 48)) then (p1_145 C k a0 (decide (a0 ≤ 57)) Kt) else (p1_145 C k a0 false Kt)) := by kernel_rfl
theorem p1_145_eq (hC : ∀ key e t, C key e t = t e) (k : Nat) (v0 : Int) (v3 : Bool) (Kt : Tk145) : p1_145 C k v0 v3 Kt =
  (bif v3 then (Kt (IntKind.i64.wrap (IntKind.u8.wrap (v0 - 48)))) else (bif (decide (v0 ≥ 97)) then (p2_145 C k v0 (decide (v0 ≤ 102)) Kt) else (p2_145 C k v0 false Kt))) := (hC _ _ _).trans (by kernel_rfl)
theorem p2_145_eq (hC : ∀ key e t, C key e t = t e) (k : Nat) (v0 : Int) (v13 : Bool) (Kt : Tk145) : p2_145 C k v0 v13 Kt =
  (bif v13 then (Kt (IntKind.i64.wrap ((IntKind.i64.wrap (IntKind.u8.wrap (v0 - 97))) + 10))) else (bif (decide (v0 ≥ 65)) then (p3_145 C k v0 (decide (v0 ≤ 70)) Kt) else (p3_145 C k v0 false Kt))) := (hC _ _ _).trans (by kernel_rfl)
theorem p3_145_eq (hC : ∀ key e t, C key e t = t e) (k : Nat) (v0 : Int) (v24 : Bool) (Kt : Tk145) : p3_145 C k v0 v24 Kt =
  (bif v24 then (Kt (IntKind.i64.wrap ((IntKind.i64.wrap (IntKind.u8.wrap (v0 - 65))) + 10))) else (Kt 16)) := (hC _ _ _).trans (by kernel_rfl)
end
theorem as145 {G : World → Prop} {ng : Nat} (S : Stays Tryz.prog G ng) {A : Ty145} (hA : ∀ (a0 : Int) (Kt : Tk145) (r : Out), A a0 Kt = some r → run145 cut0 big a0 Kt = some r) : FnIs Tryz.prog G ng 145 (adp145 A) := by
  refine spec_run cut0_eq S (l := gam145) (by intro p hp; cases hp) Tryz.func145 (by kernel_rfl) (nn := 3) (Lv := lvs145) (k := big) fun rc cs K r h => ?_
  unfold adp145 at h
  split at h
  · exact ⟨_, hA _ _ _ h, fun p hp => by unfold tok145 at hp; split at hp; exact hp; cases hp⟩
  · cases h

/-! targum/big.digits -/
def lvs147 : Nat → Option (List (Nat × Co))
  | 1000194 => some [(0, .k), (5, .k), (6, .k)]
  | _ => none
section
variable (C : Nat → Env → (Env → Option Out) → Option Out)
def gam147 : List (Nat × Fn1) := []
noncomputable def bod147 : Code := Tryz.f147.body.getD .skip
noncomputable def run147 (k : Nat) (a0 : BY) (Kt : Tk147) : Option Out := runK Tryz.prog (lookG (gam147)) 4 lvs147 C k Tryz.f147 none [.s (.str a0)] (tok147 Kt)
noncomputable def l1_147 (k : Nat) (j0 : Nat) (v0 : BY) (v5 : Int) (v6 : Int) (Kt : Tk147) : Option Out := C 1000194 ([.c (.s (.str v0)), .u, .u, .u, .u, .c (.s (.int .i64 v5)), .c (.s (.int .i64 v6))] ++ us 15) fun e => headK Tryz.prog (lookG (gam147)) 4 lvs147 C k j0 bod147 [1, 0, 1, 0] e (fin Tryz.prog Tryz.f147 none (tok147 Kt))
theorem run147_eq (k : Nat) (a0 : BY) (Kt : Tk147) : run147 C k a0 Kt =
  (l1_147 C k k a0 (a0.length : Int) 0 Kt) := by kernel_rfl
theorem l1_147_eq (hC : ∀ key e t, C key e t = t e) (k : Nat) (j0 : Nat) (v0 : BY) (v5 : Int) (v6 : Int) (Kt : Tk147) : l1_147 C k (j0 + 1) v0 v5 v6 Kt =
  (bif (decide (v6 < v5)) then ((at? v0 v6).bind fun b1 => (bif (decide ((b1.toNat : Int) < 48)) then (Kt false) else ((at? v0 v6).bind fun b2 => (bif (decide ((b2.toNat : Int) > 57)) then (Kt false) else (l1_147 C k j0 v0 v5 (IntKind.i64.wrap (v6 + 1)) Kt))))) else (Kt (!(v0 == ([] : BY))))) := (hC _ _ _).trans (by kernel_rfl)
end
theorem as147 {G : World → Prop} {ng : Nat} (S : Stays Tryz.prog G ng) {A : Ty147} (hA : ∀ (a0 : BY) (Kt : Tk147) (r : Out), A a0 Kt = some r → run147 cut0 big a0 Kt = some r) : FnIs Tryz.prog G ng 147 (adp147 A) := by
  refine spec_run cut0_eq S (l := gam147) (by intro p hp; cases hp) Tryz.func147 (by kernel_rfl) (nn := 4) (Lv := lvs147) (k := big) fun rc cs K r h => ?_
  unfold adp147 at h
  split at h
  · exact ⟨_, hA _ _ _ h, fun p hp => by unfold tok147 at hp; split at hp; exact hp; cases hp⟩
  · cases h

/-! targum/big.Good -/
def lvs150 : Nat → Option (List (Nat × Co))
  | _ => none
section
variable (C : Nat → Env → (Env → Option Out) → Option Out) (N147 : Ty147) (N202 : Ty202)
def gam150 : List (Nat × Fn1) := [(147, adp147 N147), (202, adp202 N202)]
noncomputable def bod150 : Code := Tryz.f150.body.getD .skip
noncomputable def run150 (k : Nat) (a0 : BY) (Kt : Tk150) : Option Out := runK Tryz.prog (lookG (gam150 N147 N202)) 5 lvs150 C k Tryz.f150 none [.s (.str a0)] (tok150 Kt)
theorem run150_eq (k : Nat) (a0 : BY) (Kt : Tk150) : run150 C N147 N202 k a0 Kt =
  (N202 a0 fun r1 r2 => (N147 r2 fun r3 => (bif r3 then ((at? r2 0).bind fun b4 => (bif ((b4.toNat : Int) != 48) then (Kt true) else (bif (r2 == ([48] : BY)) then (Kt (!r1)) else (Kt false)))) else (Kt false)))) := by kernel_rfl
end
theorem as150 {G : World → Prop} {ng : Nat} (S : Stays Tryz.prog G ng) {N147 : Ty147} {N202 : Ty202} (h147 : FnIs Tryz.prog G ng 147 (adp147 N147)) (h202 : FnIs Tryz.prog G ng 202 (adp202 N202)) {A : Ty150} (hA : ∀ (a0 : BY) (Kt : Tk150) (r : Out), A a0 Kt = some r → run150 cut0 N147 N202 big a0 Kt = some r) : FnIs Tryz.prog G ng 150 (adp150 A) := by
  refine spec_run cut0_eq S (l := gam150 N147 N202) (by intro p hp; simp only [gam150, List.mem_cons, List.not_mem_nil, or_false] at hp; rcases hp with rfl | rfl <;> assumption) Tryz.func150 (by kernel_rfl) (nn := 5) (Lv := lvs150) (k := big) fun rc cs K r h => ?_
  unfold adp150 at h
  split at h
  · exact ⟨_, hA _ _ _ h, fun p hp => by unfold tok150 at hp; split at hp; exact hp; cases hp⟩
  · cases h

/-! targum/big.Add -/
def lvs152 : Nat → Option (List (Nat × Co))
  | 194 => some [(0, .k), (1, .k), (18, .k)]
  | 450 => some [(1, .k), (5, .k), (6, .k)]
  | _ => none
section
variable (C : Nat → Env → (Env → Option Out) → Option Out) (N96 : Ty96) (N146 : Ty146) (N150 : Ty150) (N171 : Ty171) (N202 : Ty202) (N206 : Ty206) (N207 : Ty207)
def gam152 : List (Nat × Fn1) := [(96, adp96 N96), (146, adp146 N146), (150, adp150 N150), (171, adp171 N171), (202, adp202 N202), (206, adp206 N206), (207, adp207 N207)]
noncomputable def bod152 : Code := Tryz.f152.body.getD .skip
noncomputable def run152 (k : Nat) (a0 : BY) (a1 : Int) (Kt : Tk152) : Option Out := runK Tryz.prog (lookG (gam152 N96 N146 N150 N171 N202 N206 N207)) 8 lvs152 C k Tryz.f152 none [.s (.str a0), .s (.int .i64 a1)] (tok152 Kt)
noncomputable def p1_152 (k : Nat) (v0 : BY) (v1 : Int) (v18 : Bool) (Kt : Tk152) : Option Out := C 194 ([.c (.s (.str v0)), .c (.s (.int .i64 v1))] ++ us 16 ++ [.c (.s (.bool v18))] ++ us 33) fun e => atK Tryz.prog (lookG (gam152 N96 N146 N150 N171 N202 N206 N207)) 8 lvs152 C k bod152 [1, 0, 1] e (fin Tryz.prog Tryz.f152 none (tok152 Kt))
noncomputable def p2_152 (k : Nat) (v1 : Int) (v5 : Bool) (v6 : BY) (Kt : Tk152) : Option Out := C 450 ([.u, .c (.s (.int .i64 v1)), .u, .u, .u, .c (.s (.bool v5)), .c (.s (.str v6))] ++ us 45) fun e => atK Tryz.prog (lookG (gam152 N96 N146 N150 N171 N202 N206 N207)) 8 lvs152 C k bod152 [1, 1, 1, 1] e (fin Tryz.prog Tryz.f152 none (tok152 Kt))
theorem run152_eq (k : Nat) (a0 : BY) (a1 : Int) (Kt : Tk152) : run152 C N96 N146 N150 N171 N202 N206 N207 k a0 a1 Kt =
  (N150 a0 fun r1 => (bif (!r1) then (p1_152 C N96 N146 N150 N171 N202 N206 N207 k a0 a1 true Kt) else (bif (decide (a1 > 1099511627776)) then (p1_152 C N96 N146 N150 N171 N202 N206 N207 k a0 a1 true Kt) else (p1_152 C N96 N146 N150 N171 N202 N206 N207 k a0 a1 (decide (a1 < (-1099511627776))) Kt)))) := by kernel_rfl
theorem p1_152_eq (hC : ∀ key e t, C key e t = t e) (k : Nat) (v0 : BY) (v1 : Int) (v18 : Bool) (Kt : Tk152) : p1_152 C N96 N146 N150 N171 N202 N206 N207 k v0 v1 v18 Kt =
  (bif v18 then (Kt ([] : BY)) else (N202 v0 fun r2 r3 => (bif r2 then (p2_152 C N96 N146 N150 N171 N202 N206 N207 k (IntKind.i64.wrap (0 - v1)) r2 r3 Kt) else (p2_152 C N96 N146 N150 N171 N202 N206 N207 k v1 r2 r3 Kt)))) := (hC _ _ _).trans (by kernel_rfl)
theorem p2_152_eq (hC : ∀ key e t, C key e t = t e) (k : Nat) (v1 : Int) (v5 : Bool) (v6 : BY) (Kt : Tk152) : p2_152 C N96 N146 N150 N171 N202 N206 N207 k v1 v5 v6 Kt =
  (bif (decide (v1 ≥ 0)) then (N146 v6 1 v1 fun r4 => (N96 v5 r4 fun r5 => (Kt r5))) else (N171 (IntKind.i64.wrap (0 - v1)) fun r6 => (N206 v6 r6 fun r7 => (bif (decide (r7 < 0)) then (N207 r6 v6 fun r8 => (N96 (!v5) r8 fun r9 => (Kt r9))) else (N207 v6 r6 fun r10 => (N96 v5 r10 fun r11 => (Kt r11))))))) := (hC _ _ _).trans (by kernel_rfl)
end
theorem as152 {G : World → Prop} {ng : Nat} (S : Stays Tryz.prog G ng) {N96 : Ty96} {N146 : Ty146} {N150 : Ty150} {N171 : Ty171} {N202 : Ty202} {N206 : Ty206} {N207 : Ty207} (h96 : FnIs Tryz.prog G ng 96 (adp96 N96)) (h146 : FnIs Tryz.prog G ng 146 (adp146 N146)) (h150 : FnIs Tryz.prog G ng 150 (adp150 N150)) (h171 : FnIs Tryz.prog G ng 171 (adp171 N171)) (h202 : FnIs Tryz.prog G ng 202 (adp202 N202)) (h206 : FnIs Tryz.prog G ng 206 (adp206 N206)) (h207 : FnIs Tryz.prog G ng 207 (adp207 N207)) {A : Ty152} (hA : ∀ (a0 : BY) (a1 : Int) (Kt : Tk152) (r : Out), A a0 a1 Kt = some r → run152 cut0 N96 N146 N150 N171 N202 N206 N207 big a0 a1 Kt = some r) : FnIs Tryz.prog G ng 152 (adp152 A) := by
  refine spec_run cut0_eq S (l := gam152 N96 N146 N150 N171 N202 N206 N207) (by intro p hp; simp only [gam152, List.mem_cons, List.not_mem_nil, or_false] at hp; rcases hp with rfl | rfl | rfl | rfl | rfl | rfl | rfl <;> assumption) Tryz.func152 (by kernel_rfl) (nn := 8) (Lv := lvs152) (k := big) fun rc cs K r h => ?_
  unfold adp152 at h
  split at h
  · exact ⟨_, hA _ _ _ _ h, fun p hp => by unfold tok152 at hp; split at hp; exact hp; cases hp⟩
  · cases h

/-! targum/big.step -/
def lvs158 : Nat → Option (List (Nat × Co))
  | _ => none
section
variable (C : Nat → Env → (Env → Option Out) → Option Out)
def gam158 : List (Nat × Fn1) := []
noncomputable def bod158 : Code := Tryz.f158.body.getD .skip
noncomputable def run158 (k : Nat) (a0 : Int) (Kt : Tk158) : Option Out := runK Tryz.prog (lookG (gam158)) 3 lvs158 C k Tryz.f158 none [.s (.int .i64 a0)] (tok158 Kt)
theorem run158_eq (k : Nat) (a0 : Int) (Kt : Tk158) : run158 C k a0 Kt =
  (bif (decide (a0 ≥ 0)) then (Kt (decide (a0 ≤ 1099511627776))) else (Kt false)) := by kernel_rfl
end
theorem as158 {G : World → Prop} {ng : Nat} (S : Stays Tryz.prog G ng) {A : Ty158} (hA : ∀ (a0 : Int) (Kt : Tk158) (r : Out), A a0 Kt = some r → run158 cut0 big a0 Kt = some r) : FnIs Tryz.prog G ng 158 (adp158 A) := by
  refine spec_run cut0_eq S (l := gam158) (by intro p hp; cases hp) Tryz.func158 (by kernel_rfl) (nn := 3) (Lv := lvs158) (k := big) fun rc cs K r h => ?_
  unfold adp158 at h
  split at h
  · exact ⟨_, hA _ _ _ h, fun p hp => by unfold tok158 at hp; split at hp; exact hp; cases hp⟩
  · cases h

/-! targum/big.parts -/
def lvs202 : Nat → Option (List (Nat × Co))
  | _ => none
section
variable (C : Nat → Env → (Env → Option Out) → Option Out) (N230 : Ty230)
def gam202 : List (Nat × Fn1) := [(230, adp230 N230)]
noncomputable def bod202 : Code := Tryz.f202.body.getD .skip
noncomputable def run202 (k : Nat) (a0 : BY) (Kt : Tk202) : Option Out := runK Tryz.prog (lookG (gam202 N230)) 6 lvs202 C k Tryz.f202 none [.s (.str a0)] (tok202 Kt)
theorem run202_eq (k : Nat) (a0 : BY) (Kt : Tk202) : run202 C N230 k a0 Kt =
  (N230 a0 ([45] : BY) fun r1 r2 => (Kt r2 r1)) := by kernel_rfl
end
theorem as202 {G : World → Prop} {ng : Nat} (S : Stays Tryz.prog G ng) {N230 : Ty230} (h230 : FnIs Tryz.prog G ng 230 (adp230 N230)) {A : Ty202} (hA : ∀ (a0 : BY) (Kt : Tk202) (r : Out), A a0 Kt = some r → run202 cut0 N230 big a0 Kt = some r) : FnIs Tryz.prog G ng 202 (adp202 A) := by
  refine spec_run cut0_eq S (l := gam202 N230) (by intro p hp; simp only [gam202, List.mem_cons, List.not_mem_nil, or_false] at hp; rcases hp with rfl <;> assumption) Tryz.func202 (by kernel_rfl) (nn := 6) (Lv := lvs202) (k := big) fun rc cs K r h => ?_
  unfold adp202 at h
  split at h
  · exact ⟨_, hA _ _ _ h, fun p hp => by unfold tok202 at hp; split at hp; exact hp; cases hp⟩
  · cases h

/-! targum/big.above -/
def lvs206 : Nat → Option (List (Nat × Co))
  | _ => none
section
variable (C : Nat → Env → (Env → Option Out) → Option Out) (N232 : Ty232)
def gam206 : List (Nat × Fn1) := [(232, adp232 N232)]
noncomputable def bod206 : Code := Tryz.f206.body.getD .skip
noncomputable def run206 (k : Nat) (a0 : BY) (a1 : BY) (Kt : Tk206) : Option Out := runK Tryz.prog (lookG (gam206 N232)) 5 lvs206 C k Tryz.f206 none [.s (.str a0), .s (.str a1)] (tok206 Kt)
theorem run206_eq (k : Nat) (a0 : BY) (a1 : BY) (Kt : Tk206) : run206 C N232 k a0 a1 Kt =
  (bif ((a0.length : Int) != (a1.length : Int)) then (bif (decide ((a0.length : Int) < (a1.length : Int))) then (Kt (-1)) else (Kt 1)) else (N232 a0 a1 fun r1 => (Kt r1))) := by kernel_rfl
end
theorem as206 {G : World → Prop} {ng : Nat} (S : Stays Tryz.prog G ng) {N232 : Ty232} (h232 : FnIs Tryz.prog G ng 232 (adp232 N232)) {A : Ty206} (hA : ∀ (a0 : BY) (a1 : BY) (Kt : Tk206) (r : Out), A a0 a1 Kt = some r → run206 cut0 N232 big a0 a1 Kt = some r) : FnIs Tryz.prog G ng 206 (adp206 A) := by
  refine spec_run cut0_eq S (l := gam206 N232) (by intro p hp; simp only [gam206, List.mem_cons, List.not_mem_nil, or_false] at hp; rcases hp with rfl <;> assumption) Tryz.func206 (by kernel_rfl) (nn := 5) (Lv := lvs206) (k := big) fun rc cs K r h => ?_
  unfold adp206 at h
  split at h
  · exact ⟨_, hA _ _ _ _ h, fun p hp => by unfold tok206 at hp; split at hp; exact hp; cases hp⟩
  · cases h

/-! targum/big.less -/
def lvs207 : Nat → Option (List (Nat × Co))
  | 448 => some [(0, .k), (1, .k), (5, .k), (6, .k), (7, .k)]
  | 705 => some [(0, .k), (1, .k), (5, .k), (6, .k), (7, .k)]
  | 1000387 => some [(0, .k), (1, .k), (5, .k), (6, .k), (7, .k)]
  | _ => none
section
variable (C : Nat → Env → (Env → Option Out) → Option Out)
def gam207 : List (Nat × Fn1) := []
noncomputable def bod207 : Code := Tryz.f207.body.getD .skip
noncomputable def run207 (k : Nat) (a0 : BY) (a1 : BY) (Kt : Tk207) : Option Out := runK Tryz.prog (lookG (gam207)) 5 lvs207 C k Tryz.f207 none [.s (.str a0), .s (.str a1)] (tok207 Kt)
noncomputable def l1_207 (k : Nat) (j0 : Nat) (v0 : BY) (v1 : BY) (v5 : List Int) (v6 : Int) (v7 : Int) (Kt : Tk207) : Option Out := C 1000387 ([.c (.s (.str v0)), .c (.s (.str v1)), .u, .u, .u, .c (.own (.ints .u8 v5)), .c (.s (.int .u8 v6)), .c (.s (.int .i64 v7))] ++ us 58) fun e => headK Tryz.prog (lookG (gam207)) 5 lvs207 C k j0 bod207 [1, 1, 1, 1, 0, 1, 0] e (fin Tryz.prog Tryz.f207 none (tok207 Kt))
noncomputable def p2_207 (k : Nat) (j0 : Nat) (v0 : BY) (v1 : BY) (v5 : List Int) (v6 : Int) (v7 : Int) (Kt : Tk207) : Option Out := C 705 ([.c (.s (.str v0)), .c (.s (.str v1)), .u, .u, .u, .c (.own (.ints .u8 v5)), .c (.s (.int .u8 v6)), .c (.s (.int .i64 v7))] ++ us 58) fun e => atK Tryz.prog (lookG (gam207)) 5 lvs207 C k bod207 [1, 1, 1, 1, 0, 1, 0, j0, 1, 0, 0, 1, 1] e (fin Tryz.prog Tryz.f207 none (tok207 Kt))
noncomputable def p3_207 (k : Nat) (j0 : Nat) (v0 : BY) (v1 : BY) (v5 : List Int) (v6 : Int) (v7 : Int) (Kt : Tk207) : Option Out := C 448 ([.c (.s (.str v0)), .c (.s (.str v1)), .u, .u, .u, .c (.own (.ints .u8 v5)), .c (.s (.int .u8 v6)), .c (.s (.int .i64 v7))] ++ us 58) fun e => atK Tryz.prog (lookG (gam207)) 5 lvs207 C k bod207 [1, 1, 1, 1, 0, 1, 0, j0, 1, 1] e (fin Tryz.prog Tryz.f207 none (tok207 Kt))
theorem run207_eq (k : Nat) (a0 : BY) (a1 : BY) (Kt : Tk207) : run207 C k a0 a1 Kt =
  (bif (decide (0 ≤ (a0.length : Int)) && decide ((a0.length : Int) ≤ (a0.length : Int)) && decide ((a0.length : Int) ≤ 1099511627776)) then (l1_207 C k k a0 a1 ((List.replicate (a0.length : Int).toNat (0 : Int)).take 0 ++ (a0.map fun c => (c.toNat : Int)).take (min (a0.map fun c => (c.toNat : Int)).length (List.replicate (a0.length : Int).toNat (0 : Int)).length) ++ (List.replicate (a0.length : Int).toNat (0 : Int)).drop (0 + (min (a0.map fun c => (c.toNat : Int)).length (List.replicate (a0.length : Int).toNat (0 : Int)).length))) 0 (IntKind.i64.wrap ((a0.length : Int) - 1)) Kt) else none) := by kernel_rfl
theorem l1_207_eq (hC : ∀ key e t, C key e t = t e) (k : Nat) (j0 : Nat) (v0 : BY) (v1 : BY) (v5 : List Int) (v6 : Int) (v7 : Int) (Kt : Tk207) : l1_207 C k (j0 + 1) v0 v1 v5 v6 v7 Kt =
  (bif (decide (v7 ≥ 0)) then (bif (decide ((IntKind.i64.wrap (v7 - (IntKind.i64.wrap ((v0.length : Int) - (v1.length : Int))))) ≥ 0)) then ((at? v1 (IntKind.i64.wrap (v7 - (IntKind.i64.wrap ((v0.length : Int) - (v1.length : Int)))))).bind fun b1 => (p2_207 C k j0 v0 v1 v5 (IntKind.u8.wrap (v6 + (IntKind.u8.wrap ((b1.toNat : Int) - 48)))) v7 Kt)) else (p2_207 C k j0 v0 v1 v5 v6 v7 Kt)) else (Kt (v5.map fun n => UInt8.ofNat n.toNat))) := (hC _ _ _).trans (by kernel_rfl)
theorem p2_207_eq (hC : ∀ key e t, C key e t = t e) (k : Nat) (j0 : Nat) (v0 : BY) (v1 : BY) (v5 : List Int) (v6 : Int) (v7 : Int) (Kt : Tk207) : p2_207 C k j0 v0 v1 v5 v6 v7 Kt =
  (bif (decide (0 ≤ v7) && decide (v7 < (v5.length : Int))) then ((v5[v7.toNat]?).bind fun x2 => (bif (decide (x2 < (IntKind.u8.wrap ((48 : Int) + v6)))) then (bif (decide (0 ≤ v7) && decide (v7 < (v5.length : Int))) then ((v5[v7.toNat]?).bind fun x3 => (bif (decide (0 ≤ v7) && decide (v7 < (v5.length : Int))) then (bif decide (v7.toNat < v5.length) then (bif (decide (0 ≤ v7) && decide (v7 < ((v5.set v7.toNat (IntKind.u8.wrap (x3 + 10))).length : Int))) then (((v5.set v7.toNat (IntKind.u8.wrap (x3 + 10)))[v7.toNat]?).bind fun x4 => (bif (decide (0 ≤ v7) && decide (v7 < ((v5.set v7.toNat (IntKind.u8.wrap (x3 + 10))).length : Int))) then (bif decide (v7.toNat < (v5.set v7.toNat (IntKind.u8.wrap (x3 + 10))).length) then (p3_207 C k j0 v0 v1 ((v5.set v7.toNat (IntKind.u8.wrap (x3 + 10))).set v7.toNat (IntKind.u8.wrap (x4 - v6))) 1 v7 Kt) else none) else none)) else none) else none) else none)) else none) else (bif (decide (0 ≤ v7) && decide (v7 < (v5.length : Int))) then ((v5[v7.toNat]?).bind fun x5 => (bif (decide (0 ≤ v7) && decide (v7 < (v5.length : Int))) then (bif decide (v7.toNat < v5.length) then (p3_207 C k j0 v0 v1 (v5.set v7.toNat (IntKind.u8.wrap (x5 - v6))) 0 v7 Kt) else none) else none)) else none))) else none) := (hC _ _ _).trans (by kernel_rfl)
theorem p3_207_eq (hC : ∀ key e t, C key e t = t e) (k : Nat) (j0 : Nat) (v0 : BY) (v1 : BY) (v5 : List Int) (v6 : Int) (v7 : Int) (Kt : Tk207) : p3_207 C k j0 v0 v1 v5 v6 v7 Kt =
  (l1_207 C k j0 v0 v1 v5 v6 (IntKind.i64.wrap (v7 - 1)) Kt) := (hC _ _ _).trans (by kernel_rfl)
end
theorem as207 {G : World → Prop} {ng : Nat} (S : Stays Tryz.prog G ng) {A : Ty207} (hA : ∀ (a0 : BY) (a1 : BY) (Kt : Tk207) (r : Out), A a0 a1 Kt = some r → run207 cut0 big a0 a1 Kt = some r) : FnIs Tryz.prog G ng 207 (adp207 A) := by
  refine spec_run cut0_eq S (l := gam207) (by intro p hp; cases hp) Tryz.func207 (by kernel_rfl) (nn := 5) (Lv := lvs207) (k := big) fun rc cs K r h => ?_
  unfold adp207 at h
  split at h
  · exact ⟨_, hA _ _ _ _ h, fun p hp => by unfold tok207 at hp; split at hp; exact hp; cases hp⟩
  · cases h

/-! targum/big.times -/
def lvs146 : Nat → Option (List (Nat × Co))
  | 1000387 => some [(0, .k), (1, .k), (2, .k), (7, .k), (8, .k), (9, .k), (10, .k)]
  | _ => none
section
variable (C : Nat → Env → (Env → Option Out) → Option Out) (N96 : Ty96) (O197 : TyO197)
def gam146 : List (Nat × Fn1) := [(96, adp96 N96)]
def gamo146 : List (Nat × Fn1) := [(197, adO197 O197)]
noncomputable def bod146 : Code := Tryz.f146.body.getD .skip
noncomputable def run146 (k : Nat) (a0 : BY) (a1 : Int) (a2 : Int) (Kt : Tk146) : Option Out := runK Tryz.prog (lookO (gamo146 O197) (gam146 N96)) 12 lvs146 C k Tryz.f146 none [.s (.str a0), .s (.int .i64 a1), .s (.int .i64 a2)] (tok146 Kt)
noncomputable def l1_146 (k : Nat) (j0 : Nat) (v0 : BY) (v1 : Int) (v2 : Int) (v7 : List Int) (v8 : List Int) (v9 : Int) (v10 : Int) (Kt : Tk146) : Option Out := C 1000387 ([.c (.s (.str v0)), .c (.s (.int .i64 v1)), .c (.s (.int .i64 v2)), .u, .u, .u, .u, .box 185 (.ints .u8 v7), .c (.own (.ints .u8 v8)), .c (.s (.int .i64 v9)), .c (.s (.int .i64 v10))] ++ us 53) fun e => headK Tryz.prog (lookO (gamo146 O197) (gam146 N96)) 12 lvs146 C k j0 bod146 [1, 1, 1, 1, 0, 1, 0] e (fin Tryz.prog Tryz.f146 none (tok146 Kt))
theorem run146_eq (k : Nat) (a0 : BY) (a1 : Int) (a2 : Int) (Kt : Tk146) : run146 C N96 O197 k a0 a1 a2 Kt =
  (bif (decide (0 ≤ (IntKind.i64.wrap ((a0.length : Int) + 16))) && decide ((IntKind.i64.wrap ((a0.length : Int) + 16)) ≤ (IntKind.i64.wrap ((a0.length : Int) + 16))) && decide ((IntKind.i64.wrap ((a0.length : Int) + 16)) ≤ 1099511627776)) then (l1_146 C N96 O197 k k a0 a1 a2 (List.replicate 16 (0 : Int)) (List.replicate (IntKind.i64.wrap ((a0.length : Int) + 16)).toNat (0 : Int)) ((List.replicate (IntKind.i64.wrap ((a0.length : Int) + 16)).toNat (0 : Int)).length : Int) (IntKind.i64.wrap ((a0.length : Int) - 1)) Kt) else none) := by kernel_rfl
theorem l1_146_eq (hC : ∀ key e t, C key e t = t e) (k : Nat) (j0 : Nat) (v0 : BY) (v1 : Int) (v2 : Int) (v7 : List Int) (v8 : List Int) (v9 : Int) (v10 : Int) (Kt : Tk146) : l1_146 C N96 O197 k (j0 + 1) v0 v1 v2 v7 v8 v9 v10 Kt =
  (bif (decide (v10 ≥ 0)) then ((at? v0 v10).bind fun b1 => (bif (decide (0 ≤ (IntKind.i64.wrap (v9 - 1))) && decide ((IntKind.i64.wrap (v9 - 1)) < (v8.length : Int))) then (bif decide ((IntKind.i64.wrap (v9 - 1)).toNat < v8.length) then (l1_146 C N96 O197 k j0 v0 v1 (IntKind.i64.wrap ((IntKind.i64.wrap (v2 + (IntKind.i64.wrap ((IntKind.i64.wrap (IntKind.u8.wrap ((b1.toNat : Int) - 48))) * v1)))).tdiv 10)) v7 (v8.set (IntKind.i64.wrap (v9 - 1)).toNat (IntKind.u8.wrap (IntKind.i64.wrap ((48 : Int) + ((IntKind.i64.wrap (v2 + (IntKind.i64.wrap ((IntKind.i64.wrap (IntKind.u8.wrap ((b1.toNat : Int) - 48))) * v1)))).tmod 10))))) (IntKind.i64.wrap (v9 - 1)) (IntKind.i64.wrap (v10 - 1)) Kt) else none) else none)) else (bif decide (16 ≤ v7.length) then (O197 ((v7.drop 0).take 0) v2 10 fun r2 => ((cutN v8.length (some (IntKind.i64.wrap (v9 - (r2.length : Int)))) (some v9)).bind fun p3 => ((cutN (v8.take p3.1 ++ r2.take (min r2.length p3.2) ++ v8.drop (p3.1 + (min r2.length p3.2))).length (some (IntKind.i64.wrap (v9 - (((min r2.length p3.2) : Nat) : Int)))) none).bind fun p4 => (N96 false ((((v8.take p3.1 ++ r2.take (min r2.length p3.2) ++ v8.drop (p3.1 + (min r2.length p3.2))).drop p4.1).take p4.2).map fun n => UInt8.ofNat n.toNat) fun r5 => (Kt r5))))) else none)) := (hC _ _ _).trans (by kernel_rfl)
end
theorem as146 {G : World → Prop} {ng : Nat} (S : Stays Tryz.prog G ng) {N96 : Ty96} {O197 : TyO197} (h96 : FnIs Tryz.prog G ng 96 (adp96 N96)) (ho197 : OwnIs Tryz.prog G ng 197 (adO197 O197)) {A : Ty146} (hA : ∀ (a0 : BY) (a1 : Int) (a2 : Int) (Kt : Tk146) (r : Out), A a0 a1 a2 Kt = some r → run146 cut0 N96 O197 big a0 a1 a2 Kt = some r) : FnIs Tryz.prog G ng 146 (adp146 A) := by
  refine spec_runO cut0_eq S (lo := gamo146 O197) (by intro p hp; simp only [gamo146, List.mem_cons, List.not_mem_nil, or_false] at hp; rcases hp with rfl <;> assumption) (l := gam146 N96) (by intro p hp; simp only [gam146, List.mem_cons, List.not_mem_nil, or_false] at hp; rcases hp with rfl <;> assumption) Tryz.func146 (by kernel_rfl) (nn := 12) (Lv := lvs146) (k := big) fun rc cs K r h => ?_
  unfold adp146 at h
  split at h
  · exact ⟨_, hA _ _ _ _ _ h, fun p hp => by unfold tok146 at hp; split at hp; exact hp; cases hp⟩
  · cases h

/-! internal/strconv.AppendUint -/
def lvsO245 : Nat → Option (List (Nat × Co))
  | _ => none
section
variable (C : Nat → Env → (Env → Option Out) → Option Out) (N241 : Ty241) (N242 : Ty242) (N244 : Ty244) (O243 : TyO243)
def gamO245 : List (Nat × Fn1) := [(241, adp241 N241), (242, adp242 N242), (244, adp244 N244)]
def gamoO245 : List (Nat × Fn1) := [(243, adO243 O243)]
noncomputable def bodO245 : Code := Tryz.f245.body.getD .skip
noncomputable def runO245 (k : Nat) (a0 : List Int) (a1 : Int) (a2 : Int) (Kt : TkO245) : Option Out := runK Tryz.prog (lookO (gamoO245 O243) (gamO245 N241 N242 N244)) 9 lvsO245 C k Tryz.f245 none [.own (.ints .u8 a0), .s (.int .u64 a1), .s (.int .i64 a2)] (tokO245 Kt)
theorem runO245_eq (k : Nat) (a0 : List Int) (a1 : Int) (a2 : Int) (Kt : TkO245) : runO245 C N241 N242 N244 O243 k a0 a1 a2 Kt =
  (bif (a2 == 10) then (bif (decide (a1 < 100)) then (N241 (IntKind.i64.wrap a1) fun r1 => (bif decide ((a0 ++ (r1.map fun c => (c.toNat : Int))).length ≤ 1099511627776) then (Kt (a0 ++ (r1.map fun c => (c.toNat : Int)))) else none)) else (N242 a1 fun r2 => (bif decide (24 ≤ (List.replicate 24 (0 : Int)).length) then ((cutN 24 none (some r2)).bind fun p3 => (O243 (((List.replicate 24 (0 : Int)).drop 0).take p3.2) a1 fun r4 => (bif decide (24 ≤ ((List.replicate 24 (0 : Int)).take 0 ++ r4.take p3.2 ++ (List.replicate 24 (0 : Int)).drop (0 + p3.2)).length) then ((cutN 24 none (some r2)).bind fun p5 => (bif decide ((a0 ++ ((((List.replicate 24 (0 : Int)).take 0 ++ r4.take p3.2 ++ (List.replicate 24 (0 : Int)).drop (0 + p3.2)).drop 0).take p5.2)).length ≤ 1099511627776) then (Kt (a0 ++ ((((List.replicate 24 (0 : Int)).take 0 ++ r4.take p3.2 ++ (List.replicate 24 (0 : Int)).drop (0 + p3.2)).drop 0).take p5.2))) else none)) else none))) else none))) else (N244 a0 a1 a2 false true fun r6 r7 => (Kt r6))) := by kernel_rfl
end
theorem asO245 {G : World → Prop} {ng : Nat} (S : Stays Tryz.prog G ng) {N241 : Ty241} {N242 : Ty242} {N244 : Ty244} {O243 : TyO243} (h241 : FnIs Tryz.prog G ng 241 (adp241 N241)) (h242 : FnIs Tryz.prog G ng 242 (adp242 N242)) (h244 : FnIs Tryz.prog G ng 244 (adp244 N244)) (ho243 : OwnIs Tryz.prog G ng 243 (adO243 O243)) {A : TyO245} (hA : ∀ (a0 : List Int) (a1 : Int) (a2 : Int) (Kt : TkO245) (r : Out), A a0 a1 a2 Kt = some r → runO245 cut0 N241 N242 N244 O243 big a0 a1 a2 Kt = some r) : OwnIs Tryz.prog G ng 245 (adO245 A) := by
  refine spec_own cut0_eq S (lo := gamoO245 O243) (by intro p hp; simp only [gamoO245, List.mem_cons, List.not_mem_nil, or_false] at hp; rcases hp with rfl <;> assumption) (l := gamO245 N241 N242 N244) (by intro p hp; simp only [gamO245, List.mem_cons, List.not_mem_nil, or_false] at hp; rcases hp with rfl | rfl | rfl <;> assumption) Tryz.func245 (by kernel_rfl) (nn := 9) (Lv := lvsO245) (k := big) fun rc cs K r hrc hcs h => ?_
  unfold adO245 at h
  split at h
  · exact ⟨_, hA _ _ _ _ _ h, fun p hp => by unfold tokO245 at hp; split at hp; exact hp; cases hp⟩
  · cases h

end Go.Proofs.YtffmgholjdfcnaaGreatDoor
