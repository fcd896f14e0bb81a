/- Pieces of the program's functions, printed by gen.py (a program of this session's own), and the equations that the kernel finds. -/
import Derived.Test.YtnfjggagenmkjaaDoorFW
import Derived.Test.YtnfjggagenmkjaaDoorProg
set_option maxRecDepth 100000
set_option linter.unusedVariables false
namespace Go.Proofs.YtnfjggagenmkjaaDoor
open Go Go.Proofs AM
/-! targum/targumref4.IsDigit -/
def lvs35 : Nat → Option (List (Nat × Co))
  | _ => none
section
variable (C : Nat → Env → (Env → Option Out) → Option Out)
def gam35 : List (Nat × Fn1) := []
noncomputable def bod35 : Code := Tryd.f35.body.getD .skip
noncomputable def run35 (k : Nat) (a0 : Int) (Kt : Tk35) : Option Out := runK Tryd.prog (lookG (gam35)) 3 lvs35 C k Tryd.f35 none [.s (.int .u8 a0)] (tok35 Kt)
theorem run35_eq (k : Nat) (a0 : Int) (Kt : Tk35) : run35 C k a0 Kt =
  (bif (decide (a0 ≥ 48)) then (Kt (decide (a0 ≤ 57))) else (Kt false)) := by kernel_rfl
end
theorem is35 {G : World → Prop} {ng : Nat} (S : Stays Tryd.prog G ng) : FnIs Tryd.prog G ng 35 (adp35 (run35 cut0 big)) := by
  refine spec_run cut0_eq S (l := gam35) (by intro p hp; cases hp) Tryd.func35 (by kernel_rfl) (nn := 3) (Lv := lvs35) (k := big) fun rc cs K r h => ?_
  unfold adp35 at h
  split at h
  · refine ⟨_, h, fun p hp => ?_⟩
    unfold tok35 at hp
    split at hp
    · exact hp
    · cases hp
  · cases h
theorem as35 {G : World → Prop} {ng : Nat} (S : Stays Tryd.prog G ng) {A : Ty35} (hA : ∀ (a0 : Int) (Kt : Tk35) (r : Out), A a0 Kt = some r → run35 cut0 big a0 Kt = some r) : FnIs Tryd.prog G ng 35 (adp35 A) :=
  (is35 S).weaken fun rc cs K r h => by
    unfold adp35 at h ⊢
    split at h
    · exact hA _ _ _ h
    · cases h

/-! targum/targumref10.zone -/
def lvs36 : Nat → Option (List (Nat × Co))
  | 450 => some [(0, .k), (1, .k), (43, .k)]
  | 642 => some [(0, .k), (1, .k), (6, .k), (7, .k), (55, .k)]
  | 962 => some [(0, .k), (1, .k), (6, .k), (9, .k), (73, .k)]
  | 1090 => some [(0, .k), (1, .k), (6, .k), (8, .k)]
  | 1000259 => some [(0, .k), (1, .k)]
  | _ => none
section
variable (C : Nat → Env → (Env → Option Out) → Option Out) (N22 : Ty22)
def gam36 : List (Nat × Fn1) := [(22, adp22 N22)]
noncomputable def bod36 : Code := Tryd.f36.body.getD .skip
noncomputable def run36 (k : Nat) (a0 : List UInt8) (a1 : Int) (Kt : Tk36) : Option Out := runK Tryd.prog (lookG (gam36 N22)) 6 lvs36 C k Tryd.f36 none [.s (.str a0), .s (.int .i64 a1)] (tok36 Kt)
noncomputable def l1_36 (k : Nat) (j0 : Nat) (v0 : List UInt8) (v1 : Int) (Kt : Tk36) : Option Out := C 1000259 [.c (.s (.str v0)), .c (.s (.int .i64 v1)), .u, .u, .u, .u, .u, .u, .u, .u, .u, .u, .u, .u, .u, .u, .u, .u, .u, .u, .u, .u, .u, .u, .u, .u, .u, .u, .u, .u, .u, .u, .u, .u, .u, .u, .u, .u, .u, .u, .u, .u, .u, .u, .u, .u, .u, .u, .u, .u, .u, .u, .u, .u, .u, .u, .u, .u, .u, .u, .u, .u, .u, .u, .u, .u, .u, .u, .u, .u, .u, .u, .u, .u, .u, .u, .u, .u, .u, .u, .u, .u, .u, .u, .u, .u, .u] fun e => headK Tryd.prog (lookG (gam36 N22)) 6 lvs36 C k j0 bod36 [1, 1, 0, 0] e (fin Tryd.prog Tryd.f36 none (tok36 Kt))
noncomputable def p2_36 (k : Nat) (v0 : List UInt8) (v1 : Int) (v43 : Bool) (Kt : Tk36) : Option Out := C 450 [.c (.s (.str v0)), .c (.s (.int .i64 v1)), .u, .u, .u, .u, .u, .u, .u, .u, .u, .u, .u, .u, .u, .u, .u, .u, .u, .u, .u, .u, .u, .u, .u, .u, .u, .u, .u, .u, .u, .u, .u, .u, .u, .u, .u, .u, .u, .u, .u, .u, .u, .c (.s (.bool v43)), .u, .u, .u, .u, .u, .u, .u, .u, .u, .u, .u, .u, .u, .u, .u, .u, .u, .u, .u, .u, .u, .u, .u, .u, .u, .u, .u, .u, .u, .u, .u, .u, .u, .u, .u, .u, .u, .u, .u, .u, .u, .u, .u] fun e => atK Tryd.prog (lookG (gam36 N22)) 6 lvs36 C k bod36 [1, 1, 1, 0, 1] e (fin Tryd.prog Tryd.f36 none (tok36 Kt))
noncomputable def p3_36 (k : Nat) (v0 : List UInt8) (v1 : Int) (v6 : Int) (v7 : Int) (v55 : Bool) (Kt : Tk36) : Option Out := C 642 [.c (.s (.str v0)), .c (.s (.int .i64 v1)), .u, .u, .u, .u, .c (.s (.int .i64 v6)), .c (.s (.int .i64 v7)), .u, .u, .u, .u, .u, .u, .u, .u, .u, .u, .u, .u, .u, .u, .u, .u, .u, .u, .u, .u, .u, .u, .u, .u, .u, .u, .u, .u, .u, .u, .u, .u, .u, .u, .u, .u, .u, .u, .u, .u, .u, .u, .u, .u, .u, .u, .u, .c (.s (.bool v55)), .u, .u, .u, .u, .u, .u, .u, .u, .u, .u, .u, .u, .u, .u, .u, .u, .u, .u, .u, .u, .u, .u, .u, .u, .u, .u, .u, .u, .u, .u, .u] fun e => atK Tryd.prog (lookG (gam36 N22)) 6 lvs36 C k bod36 [1, 1, 1, 1, 1, 0, 1] e (fin Tryd.prog Tryd.f36 none (tok36 Kt))
noncomputable def p4_36 (k : Nat) (v0 : List UInt8) (v1 : Int) (v6 : Int) (v9 : Int) (v73 : Bool) (Kt : Tk36) : Option Out := C 962 [.c (.s (.str v0)), .c (.s (.int .i64 v1)), .u, .u, .u, .u, .c (.s (.int .i64 v6)), .u, .u, .c (.s (.int .i64 v9)), .u, .u, .u, .u, .u, .u, .u, .u, .u, .u, .u, .u, .u, .u, .u, .u, .u, .u, .u, .u, .u, .u, .u, .u, .u, .u, .u, .u, .u, .u, .u, .u, .u, .u, .u, .u, .u, .u, .u, .u, .u, .u, .u, .u, .u, .u, .u, .u, .u, .u, .u, .u, .u, .u, .u, .u, .u, .u, .u, .u, .u, .u, .u, .c (.s (.bool v73)), .u, .u, .u, .u, .u, .u, .u, .u, .u, .u, .u, .u, .u] fun e => atK Tryd.prog (lookG (gam36 N22)) 6 lvs36 C k bod36 [1, 1, 1, 1, 1, 1, 1, 0, 1, 0, 1, 0, 1] e (fin Tryd.prog Tryd.f36 none (tok36 Kt))
noncomputable def p5_36 (k : Nat) (v0 : List UInt8) (v1 : Int) (v6 : Int) (v8 : Int) (Kt : Tk36) : Option Out := C 1090 [.c (.s (.str v0)), .c (.s (.int .i64 v1)), .u, .u, .u, .u, .c (.s (.int .i64 v6)), .u, .c (.s (.int .i64 v8)), .u, .u, .u, .u, .u, .u, .u, .u, .u, .u, .u, .u, .u, .u, .u, .u, .u, .u, .u, .u, .u, .u, .u, .u, .u, .u, .u, .u, .u, .u, .u, .u, .u, .u, .u, .u, .u, .u, .u, .u, .u, .u, .u, .u, .u, .u, .u, .u, .u, .u, .u, .u, .u, .u, .u, .u, .u, .u, .u, .u, .u, .u, .u, .u, .u, .u, .u, .u, .u, .u, .u, .u, .u, .u, .u, .u, .u, .u] fun e => atK Tryd.prog (lookG (gam36 N22)) 6 lvs36 C k bod36 [1, 1, 1, 1, 1, 1, 1, 1] e (fin Tryd.prog Tryd.f36 none (tok36 Kt))
theorem run36_eq (k : Nat) (a0 : List UInt8) (a1 : Int) (Kt : Tk36) : run36 C N22 k a0 a1 Kt =
  (bif (a1 == (a0.length : Int)) then (Kt 0 true) else (l1_36 C N22 k k a0 a1 Kt)) := by kernel_rfl
theorem l1_36_eq (hC : ∀ key e t, C key e t = t e) (k : Nat) (j0 : Nat) (v0 : List UInt8) (v1 : Int) (Kt : Tk36) : l1_36 C N22 k (j0 + 1) v0 v1 Kt =
  (bif (decide (v1 < (v0.length : Int))) then ((at? v0 v1).bind fun b1 => (bif ((b1.toNat : Int) == 32) then (l1_36 C N22 k j0 v0 (IntKind.i64.wrap (v1 + 1)) Kt) else ((at? v0 v1).bind fun b2 => (bif ((b2.toNat : Int) == 9) then (l1_36 C N22 k j0 v0 (IntKind.i64.wrap (v1 + 1)) Kt) else (bif ((IntKind.i64.wrap (v1 + 1)) == (v0.length : Int)) then ((at? v0 v1).bind fun b3 => (p2_36 C N22 k v0 v1 ((b3.toNat : Int) == 90) Kt)) else (p2_36 C N22 k v0 v1 false Kt)))))) else (bif ((IntKind.i64.wrap (v1 + 1)) == (v0.length : Int)) then ((at? v0 v1).bind fun b4 => (p2_36 C N22 k v0 v1 ((b4.toNat : Int) == 90) Kt)) else (p2_36 C N22 k v0 v1 false Kt))) := (hC _ _ _).trans (by kernel_rfl)
theorem p2_36_eq (hC : ∀ key e t, C key e t = t e) (k : Nat) (v0 : List UInt8) (v1 : Int) (v43 : Bool) (Kt : Tk36) : p2_36 C N22 k v0 v1 v43 Kt =
  (bif v43 then (Kt 0 true) else (N22 v0 v1 ([43, 45] : List UInt8) 1 2 fun r5 r6 => (bif (decide (r6 < 0)) then (p3_36 C N22 k v0 v1 r5 r6 true Kt) else (p3_36 C N22 k v0 v1 r5 r6 (decide (r5 > 23)) Kt)))) := (hC _ _ _).trans (by kernel_rfl)
theorem p3_36_eq (hC : ∀ key e t, C key e t = t e) (k : Nat) (v0 : List UInt8) (v1 : Int) (v6 : Int) (v7 : Int) (v55 : Bool) (Kt : Tk36) : p3_36 C N22 k v0 v1 v6 v7 v55 Kt =
  (bif v55 then (Kt 0 false) else (bif (decide (v7 < (v0.length : Int))) then (N22 v0 v7 ([58] : List UInt8) 2 2 fun r7 r8 => (bif (r8 != (v0.length : Int)) then (p4_36 C N22 k v0 v1 v6 r7 true Kt) else (p4_36 C N22 k v0 v1 v6 r7 (decide (r7 > 59)) Kt))) else (p5_36 C N22 k v0 v1 v6 0 Kt))) := (hC _ _ _).trans (by kernel_rfl)
theorem p4_36_eq (hC : ∀ key e t, C key e t = t e) (k : Nat) (v0 : List UInt8) (v1 : Int) (v6 : Int) (v9 : Int) (v73 : Bool) (Kt : Tk36) : p4_36 C N22 k v0 v1 v6 v9 v73 Kt =
  (bif v73 then (Kt 0 false) else (p5_36 C N22 k v0 v1 v6 v9 Kt)) := (hC _ _ _).trans (by kernel_rfl)
theorem p5_36_eq (hC : ∀ key e t, C key e t = t e) (k : Nat) (v0 : List UInt8) (v1 : Int) (v6 : Int) (v8 : Int) (Kt : Tk36) : p5_36 C N22 k v0 v1 v6 v8 Kt =
  ((at? v0 v1).bind fun b9 => (bif ((b9.toNat : Int) == 45) then (Kt (IntKind.i64.wrap ((IntKind.i64.wrap (((-60) : Int) * v6)) - v8)) true) else (Kt (IntKind.i64.wrap ((IntKind.i64.wrap ((60 : Int) * v6)) + v8)) true))) := (hC _ _ _).trans (by kernel_rfl)
end
theorem is36 {G : World → Prop} {ng : Nat} (S : Stays Tryd.prog G ng) {N22 : Ty22} (h22 : FnIs Tryd.prog G ng 22 (adp22 N22)) : FnIs Tryd.prog G ng 36 (adp36 (run36 cut0 N22 big)) := by
  refine spec_run cut0_eq S (l := gam36 N22) (by intro p hp; simp only [gam36, List.mem_cons, List.not_mem_nil, or_false] at hp; rcases hp with rfl <;> assumption) Tryd.func36 (by kernel_rfl) (nn := 6) (Lv := lvs36) (k := big) fun rc cs K r h => ?_
  unfold adp36 at h
  split at h
  · refine ⟨_, h, fun p hp => ?_⟩
    unfold tok36 at hp
    split at hp
    · exact hp
    · cases hp
  · cases h
theorem as36 {G : World → Prop} {ng : Nat} (S : Stays Tryd.prog G ng) {N22 : Ty22} (h22 : FnIs Tryd.prog G ng 22 (adp22 N22)) {A : Ty36} (hA : ∀ (a0 : List UInt8) (a1 : Int) (Kt : Tk36) (r : Out), A a0 a1 Kt = some r → run36 cut0 N22 big a0 a1 Kt = some r) : FnIs Tryd.prog G ng 36 (adp36 A) :=
  (is36 S h22).weaken fun rc cs K r h => by
    unfold adp36 at h ⊢
    split at h
    · exact hA _ _ _ _ h
    · cases h

/-! targum/targumref10.moved -/
def lvs37 : Nat → Option (List (Nat × Co))
  | 258 => some [(0, .k), (1, .k), (2, .k), (3, .k)]
  | 386 => some [(0, .k), (1, .k), (2, .k), (3, .k)]
  | 640 => some [(0, .k), (1, .k), (3, .k)]
  | 1026 => some [(0, .k), (1, .k), (2, .k), (3, .k)]
  | 1090 => some [(0, .k), (1, .k), (2, .k), (3, .k), (49, .k)]
  | _ => none
section
variable (C : Nat → Env → (Env → Option Out) → Option Out) (N12 : Ty12) (N38 : Ty38) (N52 : Ty52)
def gam37 : List (Nat × Fn1) := [(12, adp12 N12), (38, adp38 N38), (52, adp52 N52)]
noncomputable def bod37 : Code := Tryd.f37.body.getD .skip
noncomputable def run37 (k : Nat) (a0 : Int) (a1 : Int) (a2 : Int) (a3 : Int) (Kt : Tk37) : Option Out := runK Tryd.prog (lookG (gam37 N12 N38 N52)) 10 lvs37 C k Tryd.f37 none [.s (.int .i64 a0), .s (.int .i64 a1), .s (.int .i64 a2), .s (.int .i64 a3)] (tok37 Kt)
noncomputable def p1_37 (k : Nat) (v0 : Int) (v1 : Int) (v2 : Int) (v3 : Int) (Kt : Tk37) : Option Out := C 258 [.c (.s (.int .i64 v0)), .c (.s (.int .i64 v1)), .c (.s (.int .i64 v2)), .c (.s (.int .i64 v3)), .u, .u, .u, .u, .u, .u, .u, .u, .u, .u, .u, .u, .u, .u, .u, .u, .u, .u, .u, .u, .u, .u, .u, .u, .u, .u, .u, .u, .u, .u, .u, .u, .u, .u, .u, .u, .u, .u, .u, .u, .u, .u, .u, .u, .u, .u, .u, .u, .u, .u, .u, .u, .u, .u, .u, .u, .u, .u, .u, .u] fun e => atK Tryd.prog (lookG (gam37 N12 N38 N52)) 10 lvs37 C k bod37 [1, 1] e (fin Tryd.prog Tryd.f37 none (tok37 Kt))
noncomputable def p2_37 (k : Nat) (v0 : Int) (v1 : Int) (v2 : Int) (v3 : Int) (Kt : Tk37) : Option Out := C 386 [.c (.s (.int .i64 v0)), .c (.s (.int .i64 v1)), .c (.s (.int .i64 v2)), .c (.s (.int .i64 v3)), .u, .u, .u, .u, .u, .u, .u, .u, .u, .u, .u, .u, .u, .u, .u, .u, .u, .u, .u, .u, .u, .u, .u, .u, .u, .u, .u, .u, .u, .u, .u, .u, .u, .u, .u, .u, .u, .u, .u, .u, .u, .u, .u, .u, .u, .u, .u, .u, .u, .u, .u, .u, .u, .u, .u, .u, .u, .u, .u, .u] fun e => atK Tryd.prog (lookG (gam37 N12 N38 N52)) 10 lvs37 C k bod37 [1, 1, 1] e (fin Tryd.prog Tryd.f37 none (tok37 Kt))
noncomputable def p3_37 (k : Nat) (v0 : Int) (v1 : Int) (v3 : Int) (Kt : Tk37) : Option Out := C 640 [.c (.s (.int .i64 v0)), .c (.s (.int .i64 v1)), .u, .c (.s (.int .i64 v3)), .u, .u, .u, .u, .u, .u, .u, .u, .u, .u, .u, .u, .u, .u, .u, .u, .u, .u, .u, .u, .u, .u, .u, .u, .u, .u, .u, .u, .u, .u, .u, .u, .u, .u, .u, .u, .u, .u, .u, .u, .u, .u, .u, .u, .u, .u, .u, .u, .u, .u, .u, .u, .u, .u, .u, .u, .u, .u, .u, .u] fun e => atK Tryd.prog (lookG (gam37 N12 N38 N52)) 10 lvs37 C k bod37 [1, 1, 1, 0, 1, 0, 1, 1] e (fin Tryd.prog Tryd.f37 none (tok37 Kt))
noncomputable def p4_37 (k : Nat) (v0 : Int) (v1 : Int) (v2 : Int) (v3 : Int) (Kt : Tk37) : Option Out := C 1026 [.c (.s (.int .i64 v0)), .c (.s (.int .i64 v1)), .c (.s (.int .i64 v2)), .c (.s (.int .i64 v3)), .u, .u, .u, .u, .u, .u, .u, .u, .u, .u, .u, .u, .u, .u, .u, .u, .u, .u, .u, .u, .u, .u, .u, .u, .u, .u, .u, .u, .u, .u, .u, .u, .u, .u, .u, .u, .u, .u, .u, .u, .u, .u, .u, .u, .u, .u, .u, .u, .u, .u, .u, .u, .u, .u, .u, .u, .u, .u, .u, .u] fun e => atK Tryd.prog (lookG (gam37 N12 N38 N52)) 10 lvs37 C k bod37 [1, 1, 1, 1] e (fin Tryd.prog Tryd.f37 none (tok37 Kt))
noncomputable def p5_37 (k : Nat) (v0 : Int) (v1 : Int) (v2 : Int) (v3 : Int) (v49 : Bool) (Kt : Tk37) : Option Out := C 1090 [.c (.s (.int .i64 v0)), .c (.s (.int .i64 v1)), .c (.s (.int .i64 v2)), .c (.s (.int .i64 v3)), .u, .u, .u, .u, .u, .u, .u, .u, .u, .u, .u, .u, .u, .u, .u, .u, .u, .u, .u, .u, .u, .u, .u, .u, .u, .u, .u, .u, .u, .u, .u, .u, .u, .u, .u, .u, .u, .u, .u, .u, .u, .u, .u, .u, .u, .c (.s (.bool v49)), .u, .u, .u, .u, .u, .u, .u, .u, .u, .u, .u, .u, .u, .u] fun e => atK Tryd.prog (lookG (gam37 N12 N38 N52)) 10 lvs37 C k bod37 [1, 1, 1, 1, 0, 1] e (fin Tryd.prog Tryd.f37 none (tok37 Kt))
theorem run37_eq (k : Nat) (a0 : Int) (a1 : Int) (a2 : Int) (a3 : Int) (Kt : Tk37) : run37 C N12 N38 N52 k a0 a1 a2 a3 Kt =
  (bif (decide (a3 < 0)) then (p1_37 C N12 N38 N52 k a0 a1 (IntKind.i64.wrap (a2 - 1)) (IntKind.i64.wrap (a3 + 1440)) Kt) else (p1_37 C N12 N38 N52 k a0 a1 a2 a3 Kt)) := by kernel_rfl
theorem p1_37_eq (hC : ∀ key e t, C key e t = t e) (k : Nat) (v0 : Int) (v1 : Int) (v2 : Int) (v3 : Int) (Kt : Tk37) : p1_37 C N12 N38 N52 k v0 v1 v2 v3 Kt =
  (bif (decide (v3 ≥ 1440)) then (p2_37 C N12 N38 N52 k v0 v1 (IntKind.i64.wrap (v2 + 1)) (IntKind.i64.wrap (v3 - 1440)) Kt) else (p2_37 C N12 N38 N52 k v0 v1 v2 v3 Kt)) := (hC _ _ _).trans (by kernel_rfl)
theorem p2_37_eq (hC : ∀ key e t, C key e t = t e) (k : Nat) (v0 : Int) (v1 : Int) (v2 : Int) (v3 : Int) (Kt : Tk37) : p2_37 C N12 N38 N52 k v0 v1 v2 v3 Kt =
  (bif (decide (v2 < 1)) then (bif (decide ((IntKind.i64.wrap (v1 - 1)) < 1)) then (p3_37 C N12 N38 N52 k (IntKind.i64.wrap (v0 - 1)) 12 v3 Kt) else (p3_37 C N12 N38 N52 k v0 (IntKind.i64.wrap (v1 - 1)) v3 Kt)) else (N12 v0 v1 fun r1 => (bif (decide (v2 > r1)) then (bif (decide ((IntKind.i64.wrap (v1 + 1)) > 12)) then (p4_37 C N12 N38 N52 k (IntKind.i64.wrap (v0 + 1)) 1 1 v3 Kt) else (p4_37 C N12 N38 N52 k v0 (IntKind.i64.wrap (v1 + 1)) 1 v3 Kt)) else (p4_37 C N12 N38 N52 k v0 v1 v2 v3 Kt)))) := (hC _ _ _).trans (by kernel_rfl)
theorem p3_37_eq (hC : ∀ key e t, C key e t = t e) (k : Nat) (v0 : Int) (v1 : Int) (v3 : Int) (Kt : Tk37) : p3_37 C N12 N38 N52 k v0 v1 v3 Kt =
  (N12 v0 v1 fun r2 => (p4_37 C N12 N38 N52 k v0 v1 r2 v3 Kt)) := (hC _ _ _).trans (by kernel_rfl)
theorem p4_37_eq (hC : ∀ key e t, C key e t = t e) (k : Nat) (v0 : Int) (v1 : Int) (v2 : Int) (v3 : Int) (Kt : Tk37) : p4_37 C N12 N38 N52 k v0 v1 v2 v3 Kt =
  (bif (decide (v0 < 0)) then (p5_37 C N12 N38 N52 k v0 v1 v2 v3 true Kt) else (p5_37 C N12 N38 N52 k v0 v1 v2 v3 (decide (v0 > 9999)) Kt)) := (hC _ _ _).trans (by kernel_rfl)
theorem p5_37_eq (hC : ∀ key e t, C key e t = t e) (k : Nat) (v0 : Int) (v1 : Int) (v2 : Int) (v3 : Int) (v49 : Bool) (Kt : Tk37) : p5_37 C N12 N38 N52 k v0 v1 v2 v3 v49 Kt =
  (bif v49 then (Kt ([] : List UInt8) false) else (N52 v0 v1 v2 fun r3 => ((cat r3 ([84] : List UInt8)).bind fun s4 => (N38 (IntKind.i64.wrap (v3.tdiv 60)) fun r5 => ((cat s4 r5).bind fun s6 => ((cat s6 ([58] : List UInt8)).bind fun s7 => (N38 (v3.tmod 60) fun r8 => ((cat s7 r8).bind fun s9 => (Kt s9 true))))))))) := (hC _ _ _).trans (by kernel_rfl)
end
theorem is37 {G : World → Prop} {ng : Nat} (S : Stays Tryd.prog G ng) {N12 : Ty12} {N38 : Ty38} {N52 : Ty52} (h12 : FnIs Tryd.prog G ng 12 (adp12 N12)) (h38 : FnIs Tryd.prog G ng 38 (adp38 N38)) (h52 : FnIs Tryd.prog G ng 52 (adp52 N52)) : FnIs Tryd.prog G ng 37 (adp37 (run37 cut0 N12 N38 N52 big)) := by
  refine spec_run cut0_eq S (l := gam37 N12 N38 N52) (by intro p hp; simp only [gam37, List.mem_cons, List.not_mem_nil, or_false] at hp; rcases hp with rfl | rfl | rfl <;> assumption) Tryd.func37 (by kernel_rfl) (nn := 10) (Lv := lvs37) (k := big) fun rc cs K r h => ?_
  unfold adp37 at h
  split at h
  · refine ⟨_, h, fun p hp => ?_⟩
    unfold tok37 at hp
    split at hp
    · exact hp
    · cases hp
  · cases h
theorem as37 {G : World → Prop} {ng : Nat} (S : Stays Tryd.prog G ng) {N12 : Ty12} {N38 : Ty38} {N52 : Ty52} (h12 : FnIs Tryd.prog G ng 12 (adp12 N12)) (h38 : FnIs Tryd.prog G ng 38 (adp38 N38)) (h52 : FnIs Tryd.prog G ng 52 (adp52 N52)) {A : Ty37} (hA : ∀ (a0 : Int) (a1 : Int) (a2 : Int) (a3 : Int) (Kt : Tk37) (r : Out), A a0 a1 a2 a3 Kt = some r → run37 cut0 N12 N38 N52 big a0 a1 a2 a3 Kt = some r) : FnIs Tryd.prog G ng 37 (adp37 A) :=
  (is37 S h12 h38 h52).weaken fun rc cs K r h => by
    unfold adp37 at h ⊢
    split at h
    · exact hA _ _ _ _ _ _ h
    · cases h

/-! targum/targumref10.two -/
def lvs38 : Nat → Option (List (Nat × Co))
  | _ => none
section
variable (C : Nat → Env → (Env → Option Out) → Option Out) (N13 : Ty13)
def gam38 : List (Nat × Fn1) := [(13, adp13 N13)]
noncomputable def bod38 : Code := Tryd.f38.body.getD .skip
noncomputable def run38 (k : Nat) (a0 : Int) (Kt : Tk38) : Option Out := runK Tryd.prog (lookG (gam38 N13)) 3 lvs38 C k Tryd.f38 none [.s (.int .i64 a0)] (tok38 Kt)
theorem run38_eq (k : Nat) (a0 : Int) (Kt : Tk38) : run38 C N13 k a0 Kt =
  (N13 (IntKind.i64.wrap (a0.tdiv 10)) fun r1 => (N13 (a0.tmod 10) fun r2 => ((cat r1 r2).bind fun s3 => (Kt s3)))) := by kernel_rfl
end
theorem is38 {G : World → Prop} {ng : Nat} (S : Stays Tryd.prog G ng) {N13 : Ty13} (h13 : FnIs Tryd.prog G ng 13 (adp13 N13)) : FnIs Tryd.prog G ng 38 (adp38 (run38 cut0 N13 big)) := by
  refine spec_run cut0_eq S (l := gam38 N13) (by intro p hp; simp only [gam38, List.mem_cons, List.not_mem_nil, or_false] at hp; rcases hp with rfl <;> assumption) Tryd.func38 (by kernel_rfl) (nn := 3) (Lv := lvs38) (k := big) fun rc cs K r h => ?_
  unfold adp38 at h
  split at h
  · refine ⟨_, h, fun p hp => ?_⟩
    unfold tok38 at hp
    split at hp
    · exact hp
    · cases hp
  · cases h
theorem as38 {G : World → Prop} {ng : Nat} (S : Stays Tryd.prog G ng) {N13 : Ty13} (h13 : FnIs Tryd.prog G ng 13 (adp13 N13)) {A : Ty38} (hA : ∀ (a0 : Int) (Kt : Tk38) (r : Out), A a0 Kt = some r → run38 cut0 N13 big a0 Kt = some r) : FnIs Tryd.prog G ng 38 (adp38 A) :=
  (is38 S h13).weaken fun rc cs K r h => by
    unfold adp38 at h ⊢
    split at h
    · exact hA _ _ _ h
    · cases h

/-! targum/targumref10.day -/
def lvs52 : Nat → Option (List (Nat × Co))
  | _ => none
section
variable (C : Nat → Env → (Env → Option Out) → Option Out) (N38 : Ty38)
def gam52 : List (Nat × Fn1) := [(38, adp38 N38)]
noncomputable def bod52 : Code := Tryd.f52.body.getD .skip
noncomputable def run52 (k : Nat) (a0 : Int) (a1 : Int) (a2 : Int) (Kt : Tk52) : Option Out := runK Tryd.prog (lookG (gam52 N38)) 7 lvs52 C k Tryd.f52 none [.s (.int .i64 a0), .s (.int .i64 a1), .s (.int .i64 a2)] (tok52 Kt)
theorem run52_eq (k : Nat) (a0 : Int) (a1 : Int) (a2 : Int) (Kt : Tk52) : run52 C N38 k a0 a1 a2 Kt =
  (N38 (IntKind.i64.wrap (a0.tdiv 100)) fun r1 => (N38 (a0.tmod 100) fun r2 => ((cat r1 r2).bind fun s3 => ((cat s3 ([45] : List UInt8)).bind fun s4 => (N38 a1 fun r5 => ((cat s4 r5).bind fun s6 => ((cat s6 ([45] : List UInt8)).bind fun s7 => (N38 a2 fun r8 => ((cat s7 r8).bind fun s9 => (Kt s9)))))))))) := by kernel_rfl
end
theorem is52 {G : World → Prop} {ng : Nat} (S : Stays Tryd.prog G ng) {N38 : Ty38} (h38 : FnIs Tryd.prog G ng 38 (adp38 N38)) : FnIs Tryd.prog G ng 52 (adp52 (run52 cut0 N38 big)) := by
  refine spec_run cut0_eq S (l := gam52 N38) (by intro p hp; simp only [gam52, List.mem_cons, List.not_mem_nil, or_false] at hp; rcases hp with rfl <;> assumption) Tryd.func52 (by kernel_rfl) (nn := 7) (Lv := lvs52) (k := big) fun rc cs K r h => ?_
  unfold adp52 at h
  split at h
  · refine ⟨_, h, fun p hp => ?_⟩
    unfold tok52 at hp
    split at hp
    · exact hp
    · cases hp
  · cases h
theorem as52 {G : World → Prop} {ng : Nat} (S : Stays Tryd.prog G ng) {N38 : Ty38} (h38 : FnIs Tryd.prog G ng 38 (adp38 N38)) {A : Ty52} (hA : ∀ (a0 : Int) (a1 : Int) (a2 : Int) (Kt : Tk52) (r : Out), A a0 a1 a2 Kt = some r → run52 cut0 N38 big a0 a1 a2 Kt = some r) : FnIs Tryd.prog G ng 52 (adp52 A) :=
  (is52 S h38).weaken fun rc cs K r h => by
    unfold adp52 at h ⊢
    split at h
    · exact hA _ _ _ _ _ h
    · cases h

end Go.Proofs.YtnfjggagenmkjaaDoor
