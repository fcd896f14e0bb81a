/- Pieces of the program's functions, printed by gen.py (a program of this session's own), and the equations that the kernel finds. -/
import Derived.Test.YtnfjggagenmkjaaDoorFW
import Derived.Test.YtnfjggagenmkjaaDoorProg
set_option maxRecDepth 100000
set_option linter.unusedVariables false
namespace Go.Proofs.YtnfjggagenmkjaaDoor
open Go Go.Proofs AM
/-! targum/stamp.Days -/
def lvs11 : Nat → Option (List (Nat × Co))
  | 194 => some [(0, .k), (1, .k), (5, .k)]
  | 322 => some [(1, .k), (16, .k)]
  | 578 => some [(37, .k)]
  | _ => none
section
variable (C : Nat → Env → (Env → Option Out) → Option Out)
def gam11 : List (Nat × Fn1) := []
noncomputable def bod11 : Code := Tryd.f11.body.getD .skip
noncomputable def run11 (k : Nat) (a0 : Int) (a1 : Int) (Kt : Tk11) : Option Out := runK Tryd.prog (lookG (gam11)) 5 lvs11 C k Tryd.f11 none [.s (.int .i64 a0), .s (.int .i64 a1)] (tok11 Kt)
noncomputable def p1_11 (k : Nat) (v0 : Int) (v1 : Int) (v5 : Bool) (Kt : Tk11) : Option Out := C 194 [.c (.s (.int .i64 v0)), .c (.s (.int .i64 v1)), .u, .u, .u, .c (.s (.bool v5)), .u, .u, .u, .u, .u, .u, .u, .u, .u, .u, .u, .u, .u, .u, .u, .u, .u, .u, .u, .u, .u, .u, .u, .u, .u, .u, .u, .u, .u, .u, .u, .u, .u, .u, .u, .u, .u, .u, .u, .u, .u, .u, .u, .u, .u, .u] fun e => atK Tryd.prog (lookG (gam11)) 5 lvs11 C k bod11 [1, 0, 0, 1] e (fin Tryd.prog Tryd.f11 none (tok11 Kt))
noncomputable def p2_11 (k : Nat) (v1 : Int) (v16 : Bool) (Kt : Tk11) : Option Out := C 322 [.u, .c (.s (.int .i64 v1)), .u, .u, .u, .u, .u, .u, .u, .u, .u, .u, .u, .u, .u, .u, .c (.s (.bool v16)), .u, .u, .u, .u, .u, .u, .u, .u, .u, .u, .u, .u, .u, .u, .u, .u, .u, .u, .u, .u, .u, .u, .u, .u, .u, .u, .u, .u, .u, .u, .u, .u, .u, .u, .u] fun e => atK Tryd.prog (lookG (gam11)) 5 lvs11 C k bod11 [1, 0, 0, 1, 1, 1] e (fin Tryd.prog Tryd.f11 none (tok11 Kt))
noncomputable def p3_11 (k : Nat) (v37 : Bool) (Kt : Tk11) : Option Out := C 578 [.u, .u, .u, .u, .u, .u, .u, .u, .u, .u, .u, .u, .u, .u, .u, .u, .u, .u, .u, .u, .u, .u, .u, .u, .u, .u, .u, .u, .u, .u, .u, .u, .u, .u, .u, .u, .u, .c (.s (.bool v37)), .u, .u, .u, .u, .u, .u, .u, .u, .u, .u, .u, .u, .u, .u] fun e => atK Tryd.prog (lookG (gam11)) 5 lvs11 C k bod11 [1, 0, 0, 1, 1, 1, 1, 1, 1, 1] e (fin Tryd.prog Tryd.f11 none (tok11 Kt))
theorem run11_eq (k : Nat) (a0 : Int) (a1 : Int) (Kt : Tk11) : run11 C k a0 a1 Kt =
  (bif (decide (a0 < 0)) then (p1_11 C k a0 a1 true Kt) else (bif (decide (a1 < 1)) then (p1_11 C k a0 a1 true Kt) else (p1_11 C k a0 a1 (decide (a1 > 12)) Kt))) := by kernel_rfl
theorem p1_11_eq (hC : ∀ key e t, C key e t = t e) (k : Nat) (v0 : Int) (v1 : Int) (v5 : Bool) (Kt : Tk11) : p1_11 C k v0 v1 v5 Kt =
  (bif v5 then (Kt 0) else (bif (v1 == 2) then (bif ((v0.tmod 4) == 0) then (bif ((v0.tmod 100) != 0) then (p2_11 C k v1 true Kt) else (p2_11 C k v1 ((v0.tmod 400) == 0) Kt)) else (p2_11 C k v1 false Kt)) else (p2_11 C k v1 false Kt))) := (hC _ _ _).trans (by kernel_rfl)
theorem p2_11_eq (hC : ∀ key e t, C key e t = t e) (k : Nat) (v1 : Int) (v16 : Bool) (Kt : Tk11) : p2_11 C k v1 v16 Kt =
  (bif v16 then (Kt 29) else (bif (v1 == 2) then (Kt 28) else (bif (v1 == 4) then (p3_11 C k true Kt) else (bif (v1 == 6) then (p3_11 C k true Kt) else (bif (v1 == 9) then (p3_11 C k true Kt) else (p3_11 C k (v1 == 11) Kt)))))) := (hC _ _ _).trans (by kernel_rfl)
theorem p3_11_eq (hC : ∀ key e t, C key e t = t e) (k : Nat) (v37 : Bool) (Kt : Tk11) : p3_11 C k v37 Kt =
  (bif v37 then (Kt 30) else (Kt 31)) := (hC _ _ _).trans (by kernel_rfl)
end
theorem is11 {G : World → Prop} {ng : Nat} (S : Stays Tryd.prog G ng) : FnIs Tryd.prog G ng 11 (adp11 (run11 cut0 big)) := by
  refine spec_run cut0_eq S (l := gam11) (by intro p hp; cases hp) Tryd.func11 (by kernel_rfl) (nn := 5) (Lv := lvs11) (k := big) fun rc cs K r h => ?_
  unfold adp11 at h
  split at h
  · refine ⟨_, h, fun p hp => ?_⟩
    unfold tok11 at hp
    split at hp
    · exact hp
    · cases hp
  · cases h
theorem as11 {G : World → Prop} {ng : Nat} (S : Stays Tryd.prog G ng) {A : Ty11} (hA : ∀ (a0 : Int) (a1 : Int) (Kt : Tk11) (r : Out), A a0 a1 Kt = some r → run11 cut0 big a0 a1 Kt = some r) : FnIs Tryd.prog G ng 11 (adp11 A) :=
  (is11 S).weaken fun rc cs K r h => by
    unfold adp11 at h ⊢
    split at h
    · exact hA _ _ _ _ h
    · cases h

/-! strings.Clone -/
def lvs18 : Nat → Option (List (Nat × Co))
  | _ => none
section
variable (C : Nat → Env → (Env → Option Out) → Option Out) (N32 : Ty32)
def gam18 : List (Nat × Fn1) := [(32, adp32 N32)]
noncomputable def bod18 : Code := Tryd.f18.body.getD .skip
noncomputable def run18 (k : Nat) (a0 : List UInt8) (Kt : Tk18) : Option Out := runK Tryd.prog (lookG (gam18 N32)) 3 lvs18 C k Tryd.f18 none [.s (.str a0)] (tok18 Kt)
theorem run18_eq (k : Nat) (a0 : List UInt8) (Kt : Tk18) : run18 C N32 k a0 Kt =
  (N32 a0 fun r1 => (Kt r1)) := by kernel_rfl
end
theorem is18 {G : World → Prop} {ng : Nat} (S : Stays Tryd.prog G ng) {N32 : Ty32} (h32 : FnIs Tryd.prog G ng 32 (adp32 N32)) : FnIs Tryd.prog G ng 18 (adp18 (run18 cut0 N32 big)) := by
  refine spec_run cut0_eq S (l := gam18 N32) (by intro p hp; simp only [gam18, List.mem_cons, List.not_mem_nil, or_false] at hp; rcases hp with rfl <;> assumption) Tryd.func18 (by kernel_rfl) (nn := 3) (Lv := lvs18) (k := big) fun rc cs K r h => ?_
  unfold adp18 at h
  split at h
  · refine ⟨_, h, fun p hp => ?_⟩
    unfold tok18 at hp
    split at hp
    · exact hp
    · cases hp
  · cases h
theorem as18 {G : World → Prop} {ng : Nat} (S : Stays Tryd.prog G ng) {N32 : Ty32} (h32 : FnIs Tryd.prog G ng 32 (adp32 N32)) {A : Ty18} (hA : ∀ (a0 : List UInt8) (Kt : Tk18) (r : Out), A a0 Kt = some r → run18 cut0 N32 big a0 Kt = some r) : FnIs Tryd.prog G ng 18 (adp18 A) :=
  (is18 S h32).weaken fun rc cs K r h => by
    unfold adp18 at h ⊢
    split at h
    · exact hA _ _ _ h
    · cases h

/-! (targum/stamp.moment).put -/
def lvs19 : Nat → Option (List (Nat × Co))
  | 577 => some [(1, .k), (2, .k), (4, .k)]
  | 834 => some [(1, .k), (2, .k)]
  | 1026 => some [(1, .k), (2, .k)]
  | 1344 => some [(1, .k), (2, .k)]
  | 1409 => some [(1, .k), (2, .k)]
  | _ => none
section
variable (C : Nat → Env → (Env → Option Out) → Option Out) (N11 : Ty11)
def gam19 : List (Nat × Fn1) := [(11, adp11 N11)]
noncomputable def bod19 : Code := Tryd.f19.body.getD .skip
noncomputable def run19 (k : Nat) (a0_year : Int) (a0_month : Int) (a0_day : Int) (a0_hour : Int) (a0_minute : Int) (a0_second : Int) (a0_frac : List UInt8) (a0_zone : Int) (Kt : Tk19) : Option Out := runK Tryd.prog (lookG (gam19 N11)) 4 lvs19 C k Tryd.f19 none [.agg (.ss [.int .i64 a0_year, .int .i64 a0_month, .int .i64 a0_day, .int .i64 a0_hour, .int .i64 a0_minute, .int .i64 a0_second, .str a0_frac, .int .i64 a0_zone])] (tok19 Kt)
noncomputable def p1_19 (k : Nat) (v1_0 : Int) (v1_1 : Int) (v1_2 : Int) (v1_3 : Int) (v1_4 : Int) (v1_5 : Int) (v1_6 : List UInt8) (v1_7 : Int) (v2_0 : Int) (v2_1 : Int) (v2_2 : Int) (v2_3 : Int) (v2_4 : Int) (v2_5 : Int) (v2_6 : List UInt8) (v2_7 : Int) (v4 : Int) (Kt : Tk19) : Option Out := C 577 [.u, .box 40 (.ss [.int .i64 v1_0, .int .i64 v1_1, .int .i64 v1_2, .int .i64 v1_3, .int .i64 v1_4, .int .i64 v1_5, .str v1_6, .int .i64 v1_7]), .box 40 (.ss [.int .i64 v2_0, .int .i64 v2_1, .int .i64 v2_2, .int .i64 v2_3, .int .i64 v2_4, .int .i64 v2_5, .str v2_6, .int .i64 v2_7]), .u, .c (.s (.int .i64 v4)), .u, .u, .u, .u, .u, .u, .u, .u, .u, .u, .u, .u, .u, .u, .u, .u, .u, .u, .u, .u, .u, .u, .u, .u, .u, .u, .u, .u, .u, .u, .u, .u, .u, .u, .u, .u, .u, .u, .u, .u, .u, .u, .u, .u, .u, .u, .u, .u, .u, .u, .u, .u, .u, .u, .u, .u, .u, .u, .u, .u, .u, .u, .u, .u, .u, .u, .u, .u, .u, .u, .u, .u, .u, .u, .u, .u, .u, .u, .u, .u, .u, .u, .u, .u] fun e => atK Tryd.prog (lookG (gam19 N11)) 4 lvs19 C k bod19 [1, 1, 1] e (fin Tryd.prog Tryd.f19 none (tok19 Kt))
noncomputable def p2_19 (k : Nat) (v1_0 : Int) (v1_1 : Int) (v1_2 : Int) (v1_3 : Int) (v1_4 : Int) (v1_5 : Int) (v1_6 : List UInt8) (v1_7 : Int) (v2_0 : Int) (v2_1 : Int) (v2_2 : Int) (v2_3 : Int) (v2_4 : Int) (v2_5 : Int) (v2_6 : List UInt8) (v2_7 : Int) (Kt : Tk19) : Option Out := C 834 [.u, .box 40 (.ss [.int .i64 v1_0, .int .i64 v1_1, .int .i64 v1_2, .int .i64 v1_3, .int .i64 v1_4, .int .i64 v1_5, .str v1_6, .int .i64 v1_7]), .box 40 (.ss [.int .i64 v2_0, .int .i64 v2_1, .int .i64 v2_2, .int .i64 v2_3, .int .i64 v2_4, .int .i64 v2_5, .str v2_6, .int .i64 v2_7]), .u, .u, .u, .u, .u, .u, .u, .u, .u, .u, .u, .u, .u, .u, .u, .u, .u, .u, .u, .u, .u, .u, .u, .u, .u, .u, .u, .u, .u, .u, .u, .u, .u, .u, .u, .u, .u, .u, .u, .u, .u, .u, .u, .u, .u, .u, .u, .u, .u, .u, .u, .u, .u, .u, .u, .u, .u, .u, .u, .u, .u, .u, .u, .u, .u, .u, .u, .u, .u, .u, .u, .u, .u, .u, .u, .u, .u, .u, .u, .u, .u, .u, .u, .u, .u, .u] fun e => atK Tryd.prog (lookG (gam19 N11)) 4 lvs19 C k bod19 [1, 1, 1, 1, 1] e (fin Tryd.prog Tryd.f19 none (tok19 Kt))
noncomputable def p3_19 (k : Nat) (v1_0 : Int) (v1_1 : Int) (v1_2 : Int) (v1_3 : Int) (v1_4 : Int) (v1_5 : Int) (v1_6 : List UInt8) (v1_7 : Int) (v2_0 : Int) (v2_1 : Int) (v2_2 : Int) (v2_3 : Int) (v2_4 : Int) (v2_5 : Int) (v2_6 : List UInt8) (v2_7 : Int) (Kt : Tk19) : Option Out := C 1026 [.u, .box 40 (.ss [.int .i64 v1_0, .int .i64 v1_1, .int .i64 v1_2, .int .i64 v1_3, .int .i64 v1_4, .int .i64 v1_5, .str v1_6, .int .i64 v1_7]), .box 40 (.ss [.int .i64 v2_0, .int .i64 v2_1, .int .i64 v2_2, .int .i64 v2_3, .int .i64 v2_4, .int .i64 v2_5, .str v2_6, .int .i64 v2_7]), .u, .u, .u, .u, .u, .u, .u, .u, .u, .u, .u, .u, .u, .u, .u, .u, .u, .u, .u, .u, .u, .u, .u, .u, .u, .u, .u, .u, .u, .u, .u, .u, .u, .u, .u, .u, .u, .u, .u, .u, .u, .u, .u, .u, .u, .u, .u, .u, .u, .u, .u, .u, .u, .u, .u, .u, .u, .u, .u, .u, .u, .u, .u, .u, .u, .u, .u, .u, .u, .u, .u, .u, .u, .u, .u, .u, .u, .u, .u, .u, .u, .u, .u, .u, .u, .u] fun e => atK Tryd.prog (lookG (gam19 N11)) 4 lvs19 C k bod19 [1, 1, 1, 1, 1, 1] e (fin Tryd.prog Tryd.f19 none (tok19 Kt))
noncomputable def p4_19 (k : Nat) (v1_0 : Int) (v1_1 : Int) (v1_2 : Int) (v1_3 : Int) (v1_4 : Int) (v1_5 : Int) (v1_6 : List UInt8) (v1_7 : Int) (v2_0 : Int) (v2_1 : Int) (v2_2 : Int) (v2_3 : Int) (v2_4 : Int) (v2_5 : Int) (v2_6 : List UInt8) (v2_7 : Int) (Kt : Tk19) : Option Out := C 1344 [.u, .box 40 (.ss [.int .i64 v1_0, .int .i64 v1_1, .int .i64 v1_2, .int .i64 v1_3, .int .i64 v1_4, .int .i64 v1_5, .str v1_6, .int .i64 v1_7]), .box 40 (.ss [.int .i64 v2_0, .int .i64 v2_1, .int .i64 v2_2, .int .i64 v2_3, .int .i64 v2_4, .int .i64 v2_5, .str v2_6, .int .i64 v2_7]), .u, .u, .u, .u, .u, .u, .u, .u, .u, .u, .u, .u, .u, .u, .u, .u, .u, .u, .u, .u, .u, .u, .u, .u, .u, .u, .u, .u, .u, .u, .u, .u, .u, .u, .u, .u, .u, .u, .u, .u, .u, .u, .u, .u, .u, .u, .u, .u, .u, .u, .u, .u, .u, .u, .u, .u, .u, .u, .u, .u, .u, .u, .u, .u, .u, .u, .u, .u, .u, .u, .u, .u, .u, .u, .u, .u, .u, .u, .u, .u, .u, .u, .u, .u, .u, .u] fun e => atK Tryd.prog (lookG (gam19 N11)) 4 lvs19 C k bod19 [1, 1, 1, 1, 1, 1, 0, 1, 0, 1, 1] e (fin Tryd.prog Tryd.f19 none (tok19 Kt))
noncomputable def p5_19 (k : Nat) (v1_0 : Int) (v1_1 : Int) (v1_2 : Int) (v1_3 : Int) (v1_4 : Int) (v1_5 : Int) (v1_6 : List UInt8) (v1_7 : Int) (v2_0 : Int) (v2_1 : Int) (v2_2 : Int) (v2_3 : Int) (v2_4 : Int) (v2_5 : Int) (v2_6 : List UInt8) (v2_7 : Int) (Kt : Tk19) : Option Out := C 1409 [.u, .box 40 (.ss [.int .i64 v1_0, .int .i64 v1_1, .int .i64 v1_2, .int .i64 v1_3, .int .i64 v1_4, .int .i64 v1_5, .str v1_6, .int .i64 v1_7]), .box 40 (.ss [.int .i64 v2_0, .int .i64 v2_1, .int .i64 v2_2, .int .i64 v2_3, .int .i64 v2_4, .int .i64 v2_5, .str v2_6, .int .i64 v2_7]), .u, .u, .u, .u, .u, .u, .u, .u, .u, .u, .u, .u, .u, .u, .u, .u, .u, .u, .u, .u, .u, .u, .u, .u, .u, .u, .u, .u, .u, .u, .u, .u, .u, .u, .u, .u, .u, .u, .u, .u, .u, .u, .u, .u, .u, .u, .u, .u, .u, .u, .u, .u, .u, .u, .u, .u, .u, .u, .u, .u, .u, .u, .u, .u, .u, .u, .u, .u, .u, .u, .u, .u, .u, .u, .u, .u, .u, .u, .u, .u, .u, .u, .u, .u, .u, .u] fun e => atK Tryd.prog (lookG (gam19 N11)) 4 lvs19 C k bod19 [1, 1, 1, 1, 1, 1, 1] e (fin Tryd.prog Tryd.f19 none (tok19 Kt))
theorem run19_eq (k : Nat) (a0_year : Int) (a0_month : Int) (a0_day : Int) (a0_hour : Int) (a0_minute : Int) (a0_second : Int) (a0_frac : List UInt8) (a0_zone : Int) (Kt : Tk19) : run19 C N11 k a0_year a0_month a0_day a0_hour a0_minute a0_second a0_frac a0_zone Kt =
  (bif (decide ((IntKind.i64.wrap ((IntKind.i64.wrap ((IntKind.i64.wrap ((60 : Int) * a0_hour)) + a0_minute)) - a0_zone)) < 0)) then (p1_19 C N11 k a0_year a0_month (IntKind.i64.wrap (a0_day - 1)) a0_hour a0_minute a0_second a0_frac a0_zone 0 0 0 0 0 0 ([] : List UInt8) 0 (IntKind.i64.wrap ((IntKind.i64.wrap ((IntKind.i64.wrap ((IntKind.i64.wrap ((60 : Int) * a0_hour)) + a0_minute)) - a0_zone)) + 1440)) Kt) else (bif (decide ((IntKind.i64.wrap ((IntKind.i64.wrap ((IntKind.i64.wrap ((60 : Int) * a0_hour)) + a0_minute)) - a0_zone)) ≥ 1440)) then (p1_19 C N11 k a0_year a0_month (IntKind.i64.wrap (a0_day + 1)) a0_hour a0_minute a0_second a0_frac a0_zone 0 0 0 0 0 0 ([] : List UInt8) 0 (IntKind.i64.wrap ((IntKind.i64.wrap ((IntKind.i64.wrap ((IntKind.i64.wrap ((60 : Int) * a0_hour)) + a0_minute)) - a0_zone)) - 1440)) Kt) else (p1_19 C N11 k a0_year a0_month a0_day a0_hour a0_minute a0_second a0_frac a0_zone 0 0 0 0 0 0 ([] : List UInt8) 0 (IntKind.i64.wrap ((IntKind.i64.wrap ((IntKind.i64.wrap ((60 : Int) * a0_hour)) + a0_minute)) - a0_zone)) Kt))) := by kernel_rfl
theorem p1_19_eq (hC : ∀ key e t, C key e t = t e) (k : Nat) (v1_0 : Int) (v1_1 : Int) (v1_2 : Int) (v1_3 : Int) (v1_4 : Int) (v1_5 : Int) (v1_6 : List UInt8) (v1_7 : Int) (v2_0 : Int) (v2_1 : Int) (v2_2 : Int) (v2_3 : Int) (v2_4 : Int) (v2_5 : Int) (v2_6 : List UInt8) (v2_7 : Int) (v4 : Int) (Kt : Tk19) : p1_19 C N11 k v1_0 v1_1 v1_2 v1_3 v1_4 v1_5 v1_6 v1_7 v2_0 v2_1 v2_2 v2_3 v2_4 v2_5 v2_6 v2_7 v4 Kt =
  (N11 v1_0 v1_1 fun r1 => (bif (decide (v1_2 > r1)) then (p2_19 C N11 k v1_0 (IntKind.i64.wrap (v1_1 + 1)) 1 (IntKind.i64.wrap (v4.tdiv 60)) (v4.tmod 60) v1_5 v1_6 v1_7 v2_0 v2_1 v2_2 v2_3 v2_4 v2_5 v2_6 v2_7 Kt) else (p2_19 C N11 k v1_0 v1_1 v1_2 (IntKind.i64.wrap (v4.tdiv 60)) (v4.tmod 60) v1_5 v1_6 v1_7 v2_0 v2_1 v2_2 v2_3 v2_4 v2_5 v2_6 v2_7 Kt))) := (hC _ _ _).trans (by kernel_rfl)
theorem p2_19_eq (hC : ∀ key e t, C key e t = t e) (k : Nat) (v1_0 : Int) (v1_1 : Int) (v1_2 : Int) (v1_3 : Int) (v1_4 : Int) (v1_5 : Int) (v1_6 : List UInt8) (v1_7 : Int) (v2_0 : Int) (v2_1 : Int) (v2_2 : Int) (v2_3 : Int) (v2_4 : Int) (v2_5 : Int) (v2_6 : List UInt8) (v2_7 : Int) (Kt : Tk19) : p2_19 C N11 k v1_0 v1_1 v1_2 v1_3 v1_4 v1_5 v1_6 v1_7 v2_0 v2_1 v2_2 v2_3 v2_4 v2_5 v2_6 v2_7 Kt =
  (bif (decide (v1_1 > 12)) then (p3_19 C N11 k (IntKind.i64.wrap (v1_0 + 1)) 1 v1_2 v1_3 v1_4 v1_5 v1_6 v1_7 v2_0 v2_1 v2_2 v2_3 v2_4 v2_5 v2_6 v2_7 Kt) else (p3_19 C N11 k v1_0 v1_1 v1_2 v1_3 v1_4 v1_5 v1_6 v1_7 v2_0 v2_1 v2_2 v2_3 v2_4 v2_5 v2_6 v2_7 Kt)) := (hC _ _ _).trans (by kernel_rfl)
theorem p3_19_eq (hC : ∀ key e t, C key e t = t e) (k : Nat) (v1_0 : Int) (v1_1 : Int) (v1_2 : Int) (v1_3 : Int) (v1_4 : Int) (v1_5 : Int) (v1_6 : List UInt8) (v1_7 : Int) (v2_0 : Int) (v2_1 : Int) (v2_2 : Int) (v2_3 : Int) (v2_4 : Int) (v2_5 : Int) (v2_6 : List UInt8) (v2_7 : Int) (Kt : Tk19) : p3_19 C N11 k v1_0 v1_1 v1_2 v1_3 v1_4 v1_5 v1_6 v1_7 v2_0 v2_1 v2_2 v2_3 v2_4 v2_5 v2_6 v2_7 Kt =
  (bif (decide (v1_2 < 1)) then (bif (decide ((IntKind.i64.wrap (v1_1 - 1)) < 1)) then (p4_19 C N11 k (IntKind.i64.wrap (v1_0 - 1)) 12 v1_2 v1_3 v1_4 v1_5 v1_6 v1_7 v2_0 v2_1 v2_2 v2_3 v2_4 v2_5 v2_6 v2_7 Kt) else (p4_19 C N11 k v1_0 (IntKind.i64.wrap (v1_1 - 1)) v1_2 v1_3 v1_4 v1_5 v1_6 v1_7 v2_0 v2_1 v2_2 v2_3 v2_4 v2_5 v2_6 v2_7 Kt)) else (p5_19 C N11 k v1_0 v1_1 v1_2 v1_3 v1_4 v1_5 v1_6 v1_7 v2_0 v2_1 v2_2 v2_3 v2_4 v2_5 v2_6 v2_7 Kt)) := (hC _ _ _).trans (by kernel_rfl)
theorem p4_19_eq (hC : ∀ key e t, C key e t = t e) (k : Nat) (v1_0 : Int) (v1_1 : Int) (v1_2 : Int) (v1_3 : Int) (v1_4 : Int) (v1_5 : Int) (v1_6 : List UInt8) (v1_7 : Int) (v2_0 : Int) (v2_1 : Int) (v2_2 : Int) (v2_3 : Int) (v2_4 : Int) (v2_5 : Int) (v2_6 : List UInt8) (v2_7 : Int) (Kt : Tk19) : p4_19 C N11 k v1_0 v1_1 v1_2 v1_3 v1_4 v1_5 v1_6 v1_7 v2_0 v2_1 v2_2 v2_3 v2_4 v2_5 v2_6 v2_7 Kt =
  (N11 v1_0 v1_1 fun r2 => (p5_19 C N11 k v1_0 v1_1 r2 v1_3 v1_4 v1_5 v1_6 v1_7 v2_0 v2_1 v2_2 v2_3 v2_4 v2_5 v2_6 v2_7 Kt)) := (hC _ _ _).trans (by kernel_rfl)
theorem p5_19_eq (hC : ∀ key e t, C key e t = t e) (k : Nat) (v1_0 : Int) (v1_1 : Int) (v1_2 : Int) (v1_3 : Int) (v1_4 : Int) (v1_5 : Int) (v1_6 : List UInt8) (v1_7 : Int) (v2_0 : Int) (v2_1 : Int) (v2_2 : Int) (v2_3 : Int) (v2_4 : Int) (v2_5 : Int) (v2_6 : List UInt8) (v2_7 : Int) (Kt : Tk19) : p5_19 C N11 k v1_0 v1_1 v1_2 v1_3 v1_4 v1_5 v1_6 v1_7 v2_0 v2_1 v2_2 v2_3 v2_4 v2_5 v2_6 v2_7 Kt =
  (bif (decide (v1_0 ≥ 0)) then (Kt v1_0 v1_1 v1_2 v1_3 v1_4 v1_5 v1_6 v1_7 (decide (v1_0 ≤ 9999))) else (Kt v1_0 v1_1 v1_2 v1_3 v1_4 v1_5 v1_6 v1_7 false)) := (hC _ _ _).trans (by kernel_rfl)
end
theorem is19 {G : World → Prop} {ng : Nat} (S : Stays Tryd.prog G ng) {N11 : Ty11} (h11 : FnIs Tryd.prog G ng 11 (adp11 N11)) : FnIs Tryd.prog G ng 19 (adp19 (run19 cut0 N11 big)) := by
  refine spec_run cut0_eq S (l := gam19 N11) (by intro p hp; simp only [gam19, List.mem_cons, List.not_mem_nil, or_false] at hp; rcases hp with rfl <;> assumption) Tryd.func19 (by kernel_rfl) (nn := 4) (Lv := lvs19) (k := big) fun rc cs K r h => ?_
  unfold adp19 at h
  split at h
  · refine ⟨_, h, fun p hp => ?_⟩
    unfold tok19 at hp
    split at hp
    · exact hp
    · cases hp
  · cases h
theorem as19 {G : World → Prop} {ng : Nat} (S : Stays Tryd.prog G ng) {N11 : Ty11} (h11 : FnIs Tryd.prog G ng 11 (adp11 N11)) {A : Ty19} (hA : ∀ (a0_year : Int) (a0_month : Int) (a0_day : Int) (a0_hour : Int) (a0_minute : Int) (a0_second : Int) (a0_frac : List UInt8) (a0_zone : Int) (Kt : Tk19) (r : Out), A a0_year a0_month a0_day a0_hour a0_minute a0_second a0_frac a0_zone Kt = some r → run19 cut0 N11 big a0_year a0_month a0_day a0_hour a0_minute a0_second a0_frac a0_zone Kt = some r) : FnIs Tryd.prog G ng 19 (adp19 A) :=
  (is19 S h11).weaken fun rc cs K r h => by
    unfold adp19 at h ⊢
    split at h
    · exact hA _ _ _ _ _ _ _ _ _ _ h
    · cases h

/-! targum/stamp.wide -/
def lvs20 : Nat → Option (List (Nat × Co))
  | _ => none
section
variable (C : Nat → Env → (Env → Option Out) → Option Out) (N33 : Ty33) (N34 : Ty34)
def gam20 : List (Nat × Fn1) := [(33, adp33 N33), (34, adp34 N34)]
noncomputable def bod20 : Code := Tryd.f20.body.getD .skip
noncomputable def run20 (k : Nat) (a0 : Int) (a1 : Int) (Kt : Tk20) : Option Out := runK Tryd.prog (lookG (gam20 N33 N34)) 6 lvs20 C k Tryd.f20 none [.s (.int .i64 a0), .s (.int .i64 a1)] (tok20 Kt)
theorem run20_eq (k : Nat) (a0 : Int) (a1 : Int) (Kt : Tk20) : run20 C N33 N34 k a0 a1 Kt =
  (N33 a0 fun r1 => (N34 ([48] : List UInt8) (IntKind.i64.wrap (a1 - (r1.length : Int))) fun r2 => ((cat r2 r1).bind fun s3 => (Kt s3)))) := by kernel_rfl
end
theorem is20 {G : World → Prop} {ng : Nat} (S : Stays Tryd.prog G ng) {N33 : Ty33} {N34 : Ty34} (h33 : FnIs Tryd.prog G ng 33 (adp33 N33)) (h34 : FnIs Tryd.prog G ng 34 (adp34 N34)) : FnIs Tryd.prog G ng 20 (adp20 (run20 cut0 N33 N34 big)) := by
  refine spec_run cut0_eq S (l := gam20 N33 N34) (by intro p hp; simp only [gam20, List.mem_cons, List.not_mem_nil, or_false] at hp; rcases hp with rfl | rfl <;> assumption) Tryd.func20 (by kernel_rfl) (nn := 6) (Lv := lvs20) (k := big) fun rc cs K r h => ?_
  unfold adp20 at h
  split at h
  · refine ⟨_, h, fun p hp => ?_⟩
    unfold tok20 at hp
    split at hp
    · exact hp
    · cases hp
  · cases h
theorem as20 {G : World → Prop} {ng : Nat} (S : Stays Tryd.prog G ng) {N33 : Ty33} {N34 : Ty34} (h33 : FnIs Tryd.prog G ng 33 (adp33 N33)) (h34 : FnIs Tryd.prog G ng 34 (adp34 N34)) {A : Ty20} (hA : ∀ (a0 : Int) (a1 : Int) (Kt : Tk20) (r : Out), A a0 a1 Kt = some r → run20 cut0 N33 N34 big a0 a1 Kt = some r) : FnIs Tryd.prog G ng 20 (adp20 A) :=
  (is20 S h33 h34).weaken fun rc cs K r h => by
    unfold adp20 at h ⊢
    split at h
    · exact hA _ _ _ _ h
    · cases h

/-! (*targum/stamp.text).digits -/
def lvs25 : Nat → Option (List (Nat × Co))
  | 513 => some [(0, .k), (1, .k), (7, .k), (8, .k)]
  | 577 => some [(0, .k), (7, .k)]
  | 1000195 => some [(0, .k), (1, .k), (2, .k), (7, .k), (8, .k)]
  | _ => none
section
variable (C : Nat → Env → (Env → Option Out) → Option Out) (N27 : Ty27)
def gam25 : List (Nat × Fn1) := [(27, adp27 N27)]
noncomputable def bod25 : Code := Tryd.f25.body.getD .skip
noncomputable def run25 (k : Nat) (q_s : List UInt8) (q_bad : Bool) (a1 : Int) (a2 : Int) (Kt : Tk25) : Option Out := runK Tryd.prog (lookG (gam25 N27)) 10 lvs25 C k Tryd.f25 (some (54, (.ss [.str q_s, .bool q_bad]))) [.s (.int .i64 a1), .s (.int .i64 a2)] (tok25 Kt)
noncomputable def l1_25 (k : Nat) (j0 : Nat) (v0_0 : List UInt8) (v0_1 : Bool) (v1 : Int) (v2 : Int) (v7 : Int) (v8 : Int) (Kt : Tk25) : Option Out := C 1000195 [.box 54 (.ss [.str v0_0, .bool v0_1]), .c (.s (.int .i64 v1)), .c (.s (.int .i64 v2)), .u, .u, .u, .u, .c (.s (.int .i64 v7)), .c (.s (.int .i64 v8)), .u, .u, .u, .u, .u, .u, .u, .u, .u, .u, .u, .u, .u, .u, .u, .u, .u, .u, .u, .u, .u, .u, .u, .u, .u, .u, .u, .u, .u] fun e => headK Tryd.prog (lookG (gam25 N27)) 10 lvs25 C k j0 bod25 [1, 1, 0, 0] e (fin Tryd.prog Tryd.f25 (some 54) (tok25 Kt))
noncomputable def p2_25 (k : Nat) (v0_0 : List UInt8) (v0_1 : Bool) (v1 : Int) (v7 : Int) (v8 : Int) (Kt : Tk25) : Option Out := C 513 [.box 54 (.ss [.str v0_0, .bool v0_1]), .c (.s (.int .i64 v1)), .u, .u, .u, .u, .u, .c (.s (.int .i64 v7)), .c (.s (.int .i64 v8)), .u, .u, .u, .u, .u, .u, .u, .u, .u, .u, .u, .u, .u, .u, .u, .u, .u, .u, .u, .u, .u, .u, .u, .u, .u, .u, .u, .u, .u] fun e => atK Tryd.prog (lookG (gam25 N27)) 10 lvs25 C k bod25 [1, 1, 1] e (fin Tryd.prog Tryd.f25 (some 54) (tok25 Kt))
noncomputable def p3_25 (k : Nat) (v0_0 : List UInt8) (v0_1 : Bool) (v7 : Int) (Kt : Tk25) : Option Out := C 577 [.box 54 (.ss [.str v0_0, .bool v0_1]), .u, .u, .u, .u, .u, .u, .c (.s (.int .i64 v7)), .u, .u, .u, .u, .u, .u, .u, .u, .u, .u, .u, .u, .u, .u, .u, .u, .u, .u, .u, .u, .u, .u, .u, .u, .u, .u, .u, .u, .u, .u] fun e => atK Tryd.prog (lookG (gam25 N27)) 10 lvs25 C k bod25 [1, 1, 1, 1] e (fin Tryd.prog Tryd.f25 (some 54) (tok25 Kt))
theorem run25_eq (k : Nat) (q_s : List UInt8) (q_bad : Bool) (a1 : Int) (a2 : Int) (Kt : Tk25) : run25 C N27 k q_s q_bad a1 a2 Kt =
  (l1_25 C N27 k k q_s q_bad a1 a2 0 0 Kt) := by kernel_rfl
theorem l1_25_eq (hC : ∀ key e t, C key e t = t e) (k : Nat) (j0 : Nat) (v0_0 : List UInt8) (v0_1 : Bool) (v1 : Int) (v2 : Int) (v7 : Int) (v8 : Int) (Kt : Tk25) : l1_25 C N27 k (j0 + 1) v0_0 v0_1 v1 v2 v7 v8 Kt =
  (bif (decide (v8 < v2)) then (N27 v0_0 v0_1 ([48, 49, 50, 51, 52, 53, 54, 55, 56, 57] : List UInt8) fun r1 r2 r3 => (bif (r1 == 0) then (p2_25 C N27 k r2 r3 v1 v7 v8 Kt) else (l1_25 C N27 k j0 r2 r3 v1 v2 (IntKind.i64.wrap ((IntKind.i64.wrap ((10 : Int) * v7)) + (IntKind.i64.wrap (IntKind.u8.wrap (r1 - 48))))) (IntKind.i64.wrap (v8 + 1)) Kt))) else (p2_25 C N27 k v0_0 v0_1 v1 v7 v8 Kt)) := (hC _ _ _).trans (by kernel_rfl)
theorem p2_25_eq (hC : ∀ key e t, C key e t = t e) (k : Nat) (v0_0 : List UInt8) (v0_1 : Bool) (v1 : Int) (v7 : Int) (v8 : Int) (Kt : Tk25) : p2_25 C N27 k v0_0 v0_1 v1 v7 v8 Kt =
  (bif v0_1 then (p3_25 C N27 k v0_0 true v7 Kt) else (p3_25 C N27 k v0_0 (decide (v8 < v1)) v7 Kt)) := (hC _ _ _).trans (by kernel_rfl)
theorem p3_25_eq (hC : ∀ key e t, C key e t = t e) (k : Nat) (v0_0 : List UInt8) (v0_1 : Bool) (v7 : Int) (Kt : Tk25) : p3_25 C N27 k v0_0 v0_1 v7 Kt =
  (Kt v7 v0_0 v0_1) := (hC _ _ _).trans (by kernel_rfl)
end
theorem is25 {G : World → Prop} {ng : Nat} (S : Stays Tryd.prog G ng) {N27 : Ty27} (h27 : FnIs Tryd.prog G ng 27 (adp27 N27)) : FnIs Tryd.prog G ng 25 (adp25 (run25 cut0 N27 big)) := by
  refine spec_run cut0_eq S (l := gam25 N27) (by intro p hp; simp only [gam25, List.mem_cons, List.not_mem_nil, or_false] at hp; rcases hp with rfl <;> assumption) Tryd.func25 (by kernel_rfl) (nn := 10) (Lv := lvs25) (k := big) fun rc cs K r h => ?_
  unfold adp25 at h
  split at h
  · refine ⟨_, h, fun p hp => ?_⟩
    unfold tok25 at hp
    split at hp
    · exact hp
    · cases hp
  · cases h
theorem as25 {G : World → Prop} {ng : Nat} (S : Stays Tryd.prog G ng) {N27 : Ty27} (h27 : FnIs Tryd.prog G ng 27 (adp27 N27)) {A : Ty25} (hA : ∀ (q_s : List UInt8) (q_bad : Bool) (a1 : Int) (a2 : Int) (Kt : Tk25) (r : Out), A q_s q_bad a1 a2 Kt = some r → run25 cut0 N27 big q_s q_bad a1 a2 Kt = some r) : FnIs Tryd.prog G ng 25 (adp25 A) :=
  (is25 S h27).weaken fun rc cs K r h => by
    unfold adp25 at h ⊢
    split at h
    · exact hA _ _ _ _ _ _ h
    · cases h

/-! (*targum/stamp.text).must -/
def lvs26 : Nat → Option (List (Nat × Co))
  | 257 => some [(0, .k), (5, .k)]
  | _ => none
section
variable (C : Nat → Env → (Env → Option Out) → Option Out) (N27 : Ty27)
def gam26 : List (Nat × Fn1) := [(27, adp27 N27)]
noncomputable def bod26 : Code := Tryd.f26.body.getD .skip
noncomputable def run26 (k : Nat) (q_s : List UInt8) (q_bad : Bool) (a1 : List UInt8) (Kt : Tk26) : Option Out := runK Tryd.prog (lookG (gam26 N27)) 6 lvs26 C k Tryd.f26 (some (54, (.ss [.str q_s, .bool q_bad]))) [.s (.str a1)] (tok26 Kt)
noncomputable def p1_26 (k : Nat) (v0_0 : List UInt8) (v0_1 : Bool) (v5 : Int) (Kt : Tk26) : Option Out := C 257 [.box 54 (.ss [.str v0_0, .bool v0_1]), .u, .u, .u, .u, .c (.s (.int .u8 v5)), .u, .u, .u, .u, .u, .u, .u, .u, .u, .u, .u, .u, .u, .u, .u] fun e => atK Tryd.prog (lookG (gam26 N27)) 6 lvs26 C k bod26 [1, 1, 1] e (fin Tryd.prog Tryd.f26 (some 54) (tok26 Kt))
theorem run26_eq (k : Nat) (q_s : List UInt8) (q_bad : Bool) (a1 : List UInt8) (Kt : Tk26) : run26 C N27 k q_s q_bad a1 Kt =
  (N27 q_s q_bad a1 fun r1 r2 r3 => (bif r3 then (p1_26 C N27 k r2 true r1 Kt) else (p1_26 C N27 k r2 (r1 == 0) r1 Kt))) := by kernel_rfl
theorem p1_26_eq (hC : ∀ key e t, C key e t = t e) (k : Nat) (v0_0 : List UInt8) (v0_1 : Bool) (v5 : Int) (Kt : Tk26) : p1_26 C N27 k v0_0 v0_1 v5 Kt =
  (Kt v5 v0_0 v0_1) := (hC _ _ _).trans (by kernel_rfl)
end
theorem is26 {G : World → Prop} {ng : Nat} (S : Stays Tryd.prog G ng) {N27 : Ty27} (h27 : FnIs Tryd.prog G ng 27 (adp27 N27)) : FnIs Tryd.prog G ng 26 (adp26 (run26 cut0 N27 big)) := by
  refine spec_run cut0_eq S (l := gam26 N27) (by intro p hp; simp only [gam26, List.mem_cons, List.not_mem_nil, or_false] at hp; rcases hp with rfl <;> assumption) Tryd.func26 (by kernel_rfl) (nn := 6) (Lv := lvs26) (k := big) fun rc cs K r h => ?_
  unfold adp26 at h
  split at h
  · refine ⟨_, h, fun p hp => ?_⟩
    unfold tok26 at hp
    split at hp
    · exact hp
    · cases hp
  · cases h
theorem as26 {G : World → Prop} {ng : Nat} (S : Stays Tryd.prog G ng) {N27 : Ty27} (h27 : FnIs Tryd.prog G ng 27 (adp27 N27)) {A : Ty26} (hA : ∀ (q_s : List UInt8) (q_bad : Bool) (a1 : List UInt8) (Kt : Tk26) (r : Out), A q_s q_bad a1 Kt = some r → run26 cut0 N27 big q_s q_bad a1 Kt = some r) : FnIs Tryd.prog G ng 26 (adp26 A) :=
  (is26 S h27).weaken fun rc cs K r h => by
    unfold adp26 at h ⊢
    split at h
    · exact hA _ _ _ _ _ h
    · cases h

/-! (*targum/stamp.text).sign -/
def lvs27 : Nat → Option (List (Nat × Co))
  | 194 => some [(0, .k), (20, .k)]
  | _ => none
section
variable (C : Nat → Env → (Env → Option Out) → Option Out) (N39 : Ty39)
def gam27 : List (Nat × Fn1) := [(39, adp39 N39)]
noncomputable def bod27 : Code := Tryd.f27.body.getD .skip
noncomputable def run27 (k : Nat) (q_s : List UInt8) (q_bad : Bool) (a1 : List UInt8) (Kt : Tk27) : Option Out := runK Tryd.prog (lookG (gam27 N39)) 6 lvs27 C k Tryd.f27 (some (54, (.ss [.str q_s, .bool q_bad]))) [.s (.str a1)] (tok27 Kt)
noncomputable def p1_27 (k : Nat) (v0_0 : List UInt8) (v0_1 : Bool) (v20 : Bool) (Kt : Tk27) : Option Out := C 194 [.box 54 (.ss [.str v0_0, .bool v0_1]), .u, .u, .u, .u, .u, .u, .u, .u, .u, .u, .u, .u, .u, .u, .u, .u, .u, .u, .u, .c (.s (.bool v20)), .u, .u, .u, .u, .u, .u, .u, .u, .u, .u, .u, .u, .u, .u] fun e => atK Tryd.prog (lookG (gam27 N39)) 6 lvs27 C k bod27 [1, 0, 1] e (fin Tryd.prog Tryd.f27 (some 54) (tok27 Kt))
theorem run27_eq (k : Nat) (q_s : List UInt8) (q_bad : Bool) (a1 : List UInt8) (Kt : Tk27) : run27 C N39 k q_s q_bad a1 Kt =
  (bif (q_s == ([] : List UInt8)) then (p1_27 C N39 k q_s q_bad true Kt) else ((at? q_s 0).bind fun b1 => (N39 a1 (b1.toNat : Int) fun r2 => (p1_27 C N39 k q_s q_bad (decide (r2 < 0)) Kt)))) := by kernel_rfl
theorem p1_27_eq (hC : ∀ key e t, C key e t = t e) (k : Nat) (v0_0 : List UInt8) (v0_1 : Bool) (v20 : Bool) (Kt : Tk27) : p1_27 C N39 k v0_0 v0_1 v20 Kt =
  (bif v20 then (Kt 0 v0_0 v0_1) else ((at? v0_0 0).bind fun b3 => ((cut v0_0 (some (1 : Int)) none).bind fun s4 => (Kt (b3.toNat : Int) s4 v0_1)))) := (hC _ _ _).trans (by kernel_rfl)
end
theorem is27 {G : World → Prop} {ng : Nat} (S : Stays Tryd.prog G ng) {N39 : Ty39} (h39 : FnIs Tryd.prog G ng 39 (adp39 N39)) : FnIs Tryd.prog G ng 27 (adp27 (run27 cut0 N39 big)) := by
  refine spec_run cut0_eq S (l := gam27 N39) (by intro p hp; simp only [gam27, List.mem_cons, List.not_mem_nil, or_false] at hp; rcases hp with rfl <;> assumption) Tryd.func27 (by kernel_rfl) (nn := 6) (Lv := lvs27) (k := big) fun rc cs K r h => ?_
  unfold adp27 at h
  split at h
  · refine ⟨_, h, fun p hp => ?_⟩
    unfold tok27 at hp
    split at hp
    · exact hp
    · cases hp
  · cases h
theorem as27 {G : World → Prop} {ng : Nat} (S : Stays Tryd.prog G ng) {N39 : Ty39} (h39 : FnIs Tryd.prog G ng 39 (adp39 N39)) {A : Ty27} (hA : ∀ (q_s : List UInt8) (q_bad : Bool) (a1 : List UInt8) (Kt : Tk27) (r : Out), A q_s q_bad a1 Kt = some r → run27 cut0 N39 big q_s q_bad a1 Kt = some r) : FnIs Tryd.prog G ng 27 (adp27 A) :=
  (is27 S h39).weaken fun rc cs K r h => by
    unfold adp27 at h ⊢
    split at h
    · exact hA _ _ _ _ _ h
    · cases h

/-! (*targum/stamp.text).row -/
def lvs28 : Nat → Option (List (Nat × Co))
  | _ => none
section
variable (C : Nat → Env → (Env → Option Out) → Option Out) (N40 : Ty40)
def gam28 : List (Nat × Fn1) := [(40, adp40 N40)]
noncomputable def bod28 : Code := Tryd.f28.body.getD .skip
noncomputable def run28 (k : Nat) (q_s : List UInt8) (q_bad : Bool) (a1 : List UInt8) (Kt : Tk28) : Option Out := runK Tryd.prog (lookG (gam28 N40)) 6 lvs28 C k Tryd.f28 (some (54, (.ss [.str q_s, .bool q_bad]))) [.s (.str a1)] (tok28 Kt)
theorem run28_eq (k : Nat) (q_s : List UInt8) (q_bad : Bool) (a1 : List UInt8) (Kt : Tk28) : run28 C N40 k q_s q_bad a1 Kt =
  (N40 q_s a1 fun r1 => ((cut q_s none (some (IntKind.i64.wrap ((q_s.length : Int) - (r1.length : Int))))).bind fun s2 => (Kt s2 r1 q_bad))) := by kernel_rfl
end
theorem is28 {G : World → Prop} {ng : Nat} (S : Stays Tryd.prog G ng) {N40 : Ty40} (h40 : FnIs Tryd.prog G ng 40 (adp40 N40)) : FnIs Tryd.prog G ng 28 (adp28 (run28 cut0 N40 big)) := by
  refine spec_run cut0_eq S (l := gam28 N40) (by intro p hp; simp only [gam28, List.mem_cons, List.not_mem_nil, or_false] at hp; rcases hp with rfl <;> assumption) Tryd.func28 (by kernel_rfl) (nn := 6) (Lv := lvs28) (k := big) fun rc cs K r h => ?_
  unfold adp28 at h
  split at h
  · refine ⟨_, h, fun p hp => ?_⟩
    unfold tok28 at hp
    split at hp
    · exact hp
    · cases hp
  · cases h
theorem as28 {G : World → Prop} {ng : Nat} (S : Stays Tryd.prog G ng) {N40 : Ty40} (h40 : FnIs Tryd.prog G ng 40 (adp40 N40)) {A : Ty28} (hA : ∀ (q_s : List UInt8) (q_bad : Bool) (a1 : List UInt8) (Kt : Tk28) (r : Out), A q_s q_bad a1 Kt = some r → run28 cut0 N40 big q_s q_bad a1 Kt = some r) : FnIs Tryd.prog G ng 28 (adp28 A) :=
  (is28 S h40).weaken fun rc cs K r h => by
    unfold adp28 at h ⊢
    split at h
    · exact hA _ _ _ _ _ h
    · cases h

/-! (*targum/stamp.text).zone -/
def lvs30 : Nat → Option (List (Nat × Co))
  | 321 => some [(0, .k), (3, .k), (4, .k)]
  | 385 => some [(0, .k), (3, .k), (4, .k)]
  | _ => none
section
variable (C : Nat → Env → (Env → Option Out) → Option Out) (N25 : Ty25) (N27 : Ty27)
def gam30 : List (Nat × Fn1) := [(25, adp25 N25), (27, adp27 N27)]
noncomputable def bod30 : Code := Tryd.f30.body.getD .skip
noncomputable def run30 (k : Nat) (q_s : List UInt8) (q_bad : Bool) (Kt : Tk30) : Option Out := runK Tryd.prog (lookG (gam30 N25 N27)) 5 lvs30 C k Tryd.f30 (some (54, (.ss [.str q_s, .bool q_bad]))) [] (tok30 Kt)
noncomputable def p1_30 (k : Nat) (v0_0 : List UInt8) (v0_1 : Bool) (v3 : Int) (v4 : Int) (Kt : Tk30) : Option Out := C 321 [.box 54 (.ss [.str v0_0, .bool v0_1]), .u, .u, .c (.s (.int .i64 v3)), .c (.s (.int .i64 v4)), .u, .u, .u, .u, .u, .u, .u, .u, .u, .u, .u, .u, .u, .u, .u, .u, .u, .u, .u, .u, .u, .u, .u, .u, .u, .u] fun e => atK Tryd.prog (lookG (gam30 N25 N27)) 5 lvs30 C k bod30 [1, 1, 1] e (fin Tryd.prog Tryd.f30 (some 54) (tok30 Kt))
noncomputable def p2_30 (k : Nat) (v0_0 : List UInt8) (v0_1 : Bool) (v3 : Int) (v4 : Int) (Kt : Tk30) : Option Out := C 385 [.box 54 (.ss [.str v0_0, .bool v0_1]), .u, .u, .c (.s (.int .i64 v3)), .c (.s (.int .i64 v4)), .u, .u, .u, .u, .u, .u, .u, .u, .u, .u, .u, .u, .u, .u, .u, .u, .u, .u, .u, .u, .u, .u, .u, .u, .u, .u] fun e => atK Tryd.prog (lookG (gam30 N25 N27)) 5 lvs30 C k bod30 [1, 1, 1, 1] e (fin Tryd.prog Tryd.f30 (some 54) (tok30 Kt))
theorem run30_eq (k : Nat) (q_s : List UInt8) (q_bad : Bool) (Kt : Tk30) : run30 C N25 N27 k q_s q_bad Kt =
  (N25 q_s q_bad 1 2 fun r1 r2 r3 => (N27 r2 r3 ([58] : List UInt8) fun r4 r5 r6 => (bif (r4 != 0) then (N25 r5 r6 2 2 fun r7 r8 r9 => (p1_30 C N25 N27 k r8 r9 r1 r7 Kt)) else (p1_30 C N25 N27 k r5 r6 r1 0 Kt)))) := by kernel_rfl
theorem p1_30_eq (hC : ∀ key e t, C key e t = t e) (k : Nat) (v0_0 : List UInt8) (v0_1 : Bool) (v3 : Int) (v4 : Int) (Kt : Tk30) : p1_30 C N25 N27 k v0_0 v0_1 v3 v4 Kt =
  (bif v0_1 then (p2_30 C N25 N27 k v0_0 true v3 v4 Kt) else (bif (decide (v3 > 23)) then (p2_30 C N25 N27 k v0_0 true v3 v4 Kt) else (p2_30 C N25 N27 k v0_0 (decide (v4 > 59)) v3 v4 Kt))) := (hC _ _ _).trans (by kernel_rfl)
theorem p2_30_eq (hC : ∀ key e t, C key e t = t e) (k : Nat) (v0_0 : List UInt8) (v0_1 : Bool) (v3 : Int) (v4 : Int) (Kt : Tk30) : p2_30 C N25 N27 k v0_0 v0_1 v3 v4 Kt =
  (Kt (IntKind.i64.wrap ((IntKind.i64.wrap ((60 : Int) * v3)) + v4)) v0_0 v0_1) := (hC _ _ _).trans (by kernel_rfl)
end
theorem is30 {G : World → Prop} {ng : Nat} (S : Stays Tryd.prog G ng) {N25 : Ty25} {N27 : Ty27} (h25 : FnIs Tryd.prog G ng 25 (adp25 N25)) (h27 : FnIs Tryd.prog G ng 27 (adp27 N27)) : FnIs Tryd.prog G ng 30 (adp30 (run30 cut0 N25 N27 big)) := by
  refine spec_run cut0_eq S (l := gam30 N25 N27) (by intro p hp; simp only [gam30, List.mem_cons, List.not_mem_nil, or_false] at hp; rcases hp with rfl | rfl <;> assumption) Tryd.func30 (by kernel_rfl) (nn := 5) (Lv := lvs30) (k := big) fun rc cs K r h => ?_
  unfold adp30 at h
  split at h
  · refine ⟨_, h, fun p hp => ?_⟩
    unfold tok30 at hp
    split at hp
    · exact hp
    · cases hp
  · cases h
theorem as30 {G : World → Prop} {ng : Nat} (S : Stays Tryd.prog G ng) {N25 : Ty25} {N27 : Ty27} (h25 : FnIs Tryd.prog G ng 25 (adp25 N25)) (h27 : FnIs Tryd.prog G ng 27 (adp27 N27)) {A : Ty30} (hA : ∀ (q_s : List UInt8) (q_bad : Bool) (Kt : Tk30) (r : Out), A q_s q_bad Kt = some r → run30 cut0 N25 N27 big q_s q_bad Kt = some r) : FnIs Tryd.prog G ng 30 (adp30 A) :=
  (is30 S h25 h27).weaken fun rc cs K r h => by
    unfold adp30 at h ⊢
    split at h
    · exact hA _ _ _ _ h
    · cases h

/-! (targum/stamp.moment).may -/
def lvs31 : Nat → Option (List (Nat × Co))
  | _ => none
section
variable (C : Nat → Env → (Env → Option Out) → Option Out) (N11 : Ty11)
def gam31 : List (Nat × Fn1) := [(11, adp11 N11)]
noncomputable def bod31 : Code := Tryd.f31.body.getD .skip
noncomputable def run31 (k : Nat) (a0_year : Int) (a0_month : Int) (a0_day : Int) (a0_hour : Int) (a0_minute : Int) (a0_second : Int) (a0_frac : List UInt8) (a0_zone : Int) (Kt : Tk31) : Option Out := runK Tryd.prog (lookG (gam31 N11)) 3 lvs31 C k Tryd.f31 none [.agg (.ss [.int .i64 a0_year, .int .i64 a0_month, .int .i64 a0_day, .int .i64 a0_hour, .int .i64 a0_minute, .int .i64 a0_second, .str a0_frac, .int .i64 a0_zone])] (tok31 Kt)
theorem run31_eq (k : Nat) (a0_year : Int) (a0_month : Int) (a0_day : Int) (a0_hour : Int) (a0_minute : Int) (a0_second : Int) (a0_frac : List UInt8) (a0_zone : Int) (Kt : Tk31) : run31 C N11 k a0_year a0_month a0_day a0_hour a0_minute a0_second a0_frac a0_zone Kt =
  (bif (decide (a0_day ≥ 1)) then (N11 a0_year a0_month fun r1 => (bif (decide (a0_day ≤ r1)) then (bif (decide (a0_hour < 24)) then (bif (decide (a0_minute < 60)) then (Kt (decide (a0_second < 60))) else (Kt false)) else (Kt false)) else (Kt false))) else (Kt false)) := by kernel_rfl
end
theorem is31 {G : World → Prop} {ng : Nat} (S : Stays Tryd.prog G ng) {N11 : Ty11} (h11 : FnIs Tryd.prog G ng 11 (adp11 N11)) : FnIs Tryd.prog G ng 31 (adp31 (run31 cut0 N11 big)) := by
  refine spec_run cut0_eq S (l := gam31 N11) (by intro p hp; simp only [gam31, List.mem_cons, List.not_mem_nil, or_false] at hp; rcases hp with rfl <;> assumption) Tryd.func31 (by kernel_rfl) (nn := 3) (Lv := lvs31) (k := big) fun rc cs K r h => ?_
  unfold adp31 at h
  split at h
  · refine ⟨_, h, fun p hp => ?_⟩
    unfold tok31 at hp
    split at hp
    · exact hp
    · cases hp
  · cases h
theorem as31 {G : World → Prop} {ng : Nat} (S : Stays Tryd.prog G ng) {N11 : Ty11} (h11 : FnIs Tryd.prog G ng 11 (adp11 N11)) {A : Ty31} (hA : ∀ (a0_year : Int) (a0_month : Int) (a0_day : Int) (a0_hour : Int) (a0_minute : Int) (a0_second : Int) (a0_frac : List UInt8) (a0_zone : Int) (Kt : Tk31) (r : Out), A a0_year a0_month a0_day a0_hour a0_minute a0_second a0_frac a0_zone Kt = some r → run31 cut0 N11 big a0_year a0_month a0_day a0_hour a0_minute a0_second a0_frac a0_zone Kt = some r) : FnIs Tryd.prog G ng 31 (adp31 A) :=
  (is31 S h11).weaken fun rc cs K r h => by
    unfold adp31 at h ⊢
    split at h
    · exact hA _ _ _ _ _ _ _ _ _ _ h
    · cases h

/-! targum/stamp.cutLeft -/
def lvs40 : Nat → Option (List (Nat × Co))
  | 1000194 => some [(0, .k), (1, .k), (11, .k)]
  | 1000450 => some [(0, .k), (1, .k), (5, .k), (6, .k), (7, .k), (11, .k), (17, .k)]
  | _ => none
section
variable (C : Nat → Env → (Env → Option Out) → Option Out)
def gam40 : List (Nat × Fn1) := []
noncomputable def bod40 : Code := Tryd.f40.body.getD .skip
noncomputable def run40 (k : Nat) (a0 : List UInt8) (a1 : List UInt8) (Kt : Tk40) : Option Out := runK Tryd.prog (lookG (gam40)) 10 lvs40 C k Tryd.f40 none [.s (.str a0), .s (.str a1)] (tok40 Kt)
noncomputable def l1_40 (k : Nat) (j0 : Nat) (v0 : List UInt8) (v1 : List UInt8) (v11_s : List UInt8) (v11_p : Nat) (Kt : Tk40) : Option Out := C 1000194 [.c (.s (.str v0)), .c (.s (.str v1)), .u, .u, .u, .u, .u, .u, .u, .u, .u, .iter v11_s v11_p, .u, .u, .u, .u, .u, .u, .u, .u, .u, .u, .u, .u, .u, .u, .u, .u, .u, .u, .u, .u] fun e => headK Tryd.prog (lookG (gam40)) 10 lvs40 C k j0 bod40 [1, 0, 1, 0] e (fin Tryd.prog Tryd.f40 none (tok40 Kt))
noncomputable def l2_40 (k : Nat) (j0 : Nat) (j1 : Nat) (v0 : List UInt8) (v1 : List UInt8) (v5 : Int) (v6 : Int) (v7 : Bool) (v11_s : List UInt8) (v11_p : Nat) (v17_s : List UInt8) (v17_p : Nat) (Kt : Tk40) : Option Out := C 1000450 [.c (.s (.str v0)), .c (.s (.str v1)), .u, .u, .u, .c (.s (.int .i64 v5)), .c (.s (.int .i32 v6)), .c (.s (.bool v7)), .u, .u, .u, .iter v11_s v11_p, .u, .u, .u, .u, .u, .iter v17_s v17_p, .u, .u, .u, .u, .u, .u, .u, .u, .u, .u, .u, .u, .u, .u] fun e => headK Tryd.prog (lookG (gam40)) 10 lvs40 C k j1 bod40 [1, 0, 1, 0, j0, 1, 1, 0, 1, 1, 0, 1, 0] e (fin Tryd.prog Tryd.f40 none (tok40 Kt))
theorem run40_eq (k : Nat) (a0 : List UInt8) (a1 : List UInt8) (Kt : Tk40) : run40 C k a0 a1 Kt =
  (l1_40 C k k a0 a1 a0 0 Kt) := by kernel_rfl
theorem l1_40_eq (hC : ∀ key e t, C key e t = t e) (k : Nat) (j0 : Nat) (v0 : List UInt8) (v1 : List UInt8) (v11_s : List UInt8) (v11_p : Nat) (Kt : Tk40) : l1_40 C k (j0 + 1) v0 v1 v11_s v11_p Kt =
  (bif decide (v11_p < v11_s.length) then (l2_40 C k j0 k v0 v1 (v11_p : Int) ((Utf8.decode ⟨⟨v11_s⟩⟩ v11_p).1 : Int) false v11_s (v11_p + (Utf8.decode ⟨⟨v11_s⟩⟩ v11_p).2) v1 0 Kt) else (Kt ([] : List UInt8))) := (hC _ _ _).trans (by kernel_rfl)
theorem l2_40_eq (hC : ∀ key e t, C key e t = t e) (k : Nat) (j0 : Nat) (j1 : Nat) (v0 : List UInt8) (v1 : List UInt8) (v5 : Int) (v6 : Int) (v7 : Bool) (v11_s : List UInt8) (v11_p : Nat) (v17_s : List UInt8) (v17_p : Nat) (Kt : Tk40) : l2_40 C k j0 (j1 + 1) v0 v1 v5 v6 v7 v11_s v11_p v17_s v17_p Kt =
  (bif decide (v17_p < v17_s.length) then (bif v7 then (l2_40 C k j0 j1 v0 v1 v5 v6 true v11_s v11_p v17_s (v17_p + (Utf8.decode ⟨⟨v17_s⟩⟩ v17_p).2) Kt) else (l2_40 C k j0 j1 v0 v1 v5 v6 (v6 == ((Utf8.decode ⟨⟨v17_s⟩⟩ v17_p).1 : Int)) v11_s v11_p v17_s (v17_p + (Utf8.decode ⟨⟨v17_s⟩⟩ v17_p).2) Kt)) else (bif (!v7) then ((cut v0 (some v5) none).bind fun s1 => (Kt s1)) else (l1_40 C k j0 v0 v1 v11_s v11_p Kt))) := (hC _ _ _).trans (by kernel_rfl)
end
theorem is40 {G : World → Prop} {ng : Nat} (S : Stays Tryd.prog G ng) : FnIs Tryd.prog G ng 40 (adp40 (run40 cut0 big)) := by
  refine spec_run cut0_eq S (l := gam40) (by intro p hp; cases hp) Tryd.func40 (by kernel_rfl) (nn := 10) (Lv := lvs40) (k := big) fun rc cs K r h => ?_
  unfold adp40 at h
  split at h
  · refine ⟨_, h, fun p hp => ?_⟩
    unfold tok40 at hp
    split at hp
    · exact hp
    · cases hp
  · cases h
theorem as40 {G : World → Prop} {ng : Nat} (S : Stays Tryd.prog G ng) {A : Ty40} (hA : ∀ (a0 : List UInt8) (a1 : List UInt8) (Kt : Tk40) (r : Out), A a0 a1 Kt = some r → run40 cut0 big a0 a1 Kt = some r) : FnIs Tryd.prog G ng 40 (adp40 A) :=
  (is40 S).weaken fun rc cs K r h => by
    unfold adp40 at h ⊢
    split at h
    · exact hA _ _ _ _ h
    · cases h

end Go.Proofs.YtnfjggagenmkjaaDoor
