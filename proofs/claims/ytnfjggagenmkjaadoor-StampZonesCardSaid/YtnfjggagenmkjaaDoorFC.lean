/- Pieces of the program's functions, printed by gen.py (a program of this session's own), and the equations that the kernel finds. -/
import Derived.Test.YtnfjggagenmkjaaDoorFW
import Derived.Test.YtnfjggagenmkjaaDoorProg
set_option maxRecDepth 100000
set_option linter.unusedVariables false
namespace Go.Proofs.YtnfjggagenmkjaaDoor
open Go Go.Proofs AM
/-! targum/targumlaw10.two -/
def lvs10 : Nat → Option (List (Nat × Co))
  | _ => none
section
variable (C : Nat → Env → (Env → Option Out) → Option Out) (N13 : Ty13)
def gam10 : List (Nat × Fn1) := [(13, adp13 N13)]
noncomputable def bod10 : Code := Tryd.f10.body.getD .skip
noncomputable def run10 (k : Nat) (a0 : Int) (Kt : Tk10) : Option Out := runK Tryd.prog (lookG (gam10 N13)) 3 lvs10 C k Tryd.f10 none [.s (.int .i64 a0)] (tok10 Kt)
theorem run10_eq (k : Nat) (a0 : Int) (Kt : Tk10) : run10 C N13 k a0 Kt =
  (N13 ((IntKind.i64.wrap (a0.tdiv 10)).tmod 10) fun r1 => (N13 (a0.tmod 10) fun r2 => ((cat r1 r2).bind fun s3 => (Kt s3)))) := by kernel_rfl
end
theorem is10 {G : World → Prop} {ng : Nat} (S : Stays Tryd.prog G ng) {N13 : Ty13} (h13 : FnIs Tryd.prog G ng 13 (adp13 N13)) : FnIs Tryd.prog G ng 10 (adp10 (run10 cut0 N13 big)) := by
  refine spec_run cut0_eq S (l := gam10 N13) (by intro p hp; simp only [gam10, List.mem_cons, List.not_mem_nil, or_false] at hp; rcases hp with rfl <;> assumption) Tryd.func10 (by kernel_rfl) (nn := 3) (Lv := lvs10) (k := big) fun rc cs K r h => ?_
  unfold adp10 at h
  split at h
  · refine ⟨_, h, fun p hp => ?_⟩
    unfold tok10 at hp
    split at hp
    · exact hp
    · cases hp
  · cases h
theorem as10 {G : World → Prop} {ng : Nat} (S : Stays Tryd.prog G ng) {N13 : Ty13} (h13 : FnIs Tryd.prog G ng 13 (adp13 N13)) {A : Ty10} (hA : ∀ (a0 : Int) (Kt : Tk10) (r : Out), A a0 Kt = some r → run10 cut0 N13 big a0 Kt = some r) : FnIs Tryd.prog G ng 10 (adp10 A) :=
  (is10 S h13).weaken fun rc cs K r h => by
    unfold adp10 at h ⊢
    split at h
    · exact hA _ _ _ h
    · cases h

/-! targum/targumref10.Days -/
def lvs12 : Nat → Option (List (Nat × Co))
  | 194 => some [(0, .k), (1, .k), (14, .k)]
  | 386 => some [(29, .k)]
  | 578 => some [(43, .k)]
  | _ => none
section
variable (C : Nat → Env → (Env → Option Out) → Option Out)
def gam12 : List (Nat × Fn1) := []
noncomputable def bod12 : Code := Tryd.f12.body.getD .skip
noncomputable def run12 (k : Nat) (a0 : Int) (a1 : Int) (Kt : Tk12) : Option Out := runK Tryd.prog (lookG (gam12)) 5 lvs12 C k Tryd.f12 none [.s (.int .i64 a0), .s (.int .i64 a1)] (tok12 Kt)
noncomputable def p1_12 (k : Nat) (v0 : Int) (v1 : Int) (v14 : Bool) (Kt : Tk12) : Option Out := C 194 [.c (.s (.int .i64 v0)), .c (.s (.int .i64 v1)), .u, .u, .u, .u, .u, .u, .u, .u, .u, .u, .u, .u, .c (.s (.bool v14)), .u, .u, .u, .u, .u, .u, .u, .u, .u, .u, .u, .u, .u, .u, .u, .u, .u, .u, .u, .u, .u, .u, .u, .u, .u, .u, .u, .u, .u] fun e => atK Tryd.prog (lookG (gam12)) 5 lvs12 C k bod12 [1, 0, 1] e (fin Tryd.prog Tryd.f12 none (tok12 Kt))
noncomputable def p2_12 (k : Nat) (v29 : Bool) (Kt : Tk12) : Option Out := C 386 [.u, .u, .u, .u, .u, .u, .u, .u, .u, .u, .u, .u, .u, .u, .u, .u, .u, .u, .u, .u, .u, .u, .u, .u, .u, .u, .u, .u, .u, .c (.s (.bool v29)), .u, .u, .u, .u, .u, .u, .u, .u, .u, .u, .u, .u, .u, .u] fun e => atK Tryd.prog (lookG (gam12)) 5 lvs12 C k bod12 [1, 1, 0, 1, 0, 0, 1] e (fin Tryd.prog Tryd.f12 none (tok12 Kt))
noncomputable def p3_12 (k : Nat) (v43 : Bool) (Kt : Tk12) : Option Out := C 578 [.u, .u, .u, .u, .u, .u, .u, .u, .u, .u, .u, .u, .u, .u, .u, .u, .u, .u, .u, .u, .u, .u, .u, .u, .u, .u, .u, .u, .u, .u, .u, .u, .u, .u, .u, .u, .u, .u, .u, .u, .u, .u, .u, .c (.s (.bool v43))] fun e => atK Tryd.prog (lookG (gam12)) 5 lvs12 C k bod12 [1, 1, 1, 0, 1] e (fin Tryd.prog Tryd.f12 none (tok12 Kt))
theorem run12_eq (k : Nat) (a0 : Int) (a1 : Int) (Kt : Tk12) : run12 C k a0 a1 Kt =
  (bif (decide (a0 < 0)) then (p1_12 C k a0 a1 true Kt) else (bif (decide (a1 < 1)) then (p1_12 C k a0 a1 true Kt) else (p1_12 C k a0 a1 (decide (a1 > 12)) Kt))) := by kernel_rfl
theorem p1_12_eq (hC : ∀ key e t, C key e t = t e) (k : Nat) (v0 : Int) (v1 : Int) (v14 : Bool) (Kt : Tk12) : p1_12 C k v0 v1 v14 Kt =
  (bif v14 then (Kt 0) else (bif (v1 == 2) then (bif ((v0.tmod 4) == 0) then (bif ((v0.tmod 100) != 0) then (p2_12 C k true Kt) else (p2_12 C k ((v0.tmod 400) == 0) Kt)) else (p2_12 C k false Kt)) else (bif (v1 == 4) then (p3_12 C k true Kt) else (bif (v1 == 6) then (p3_12 C k true Kt) else (bif (v1 == 9) then (p3_12 C k true Kt) else (p3_12 C k (v1 == 11) Kt)))))) := (hC _ _ _).trans (by kernel_rfl)
theorem p2_12_eq (hC : ∀ key e t, C key e t = t e) (k : Nat) (v29 : Bool) (Kt : Tk12) : p2_12 C k v29 Kt =
  (bif v29 then (Kt 29) else (Kt 28)) := (hC _ _ _).trans (by kernel_rfl)
theorem p3_12_eq (hC : ∀ key e t, C key e t = t e) (k : Nat) (v43 : Bool) (Kt : Tk12) : p3_12 C k v43 Kt =
  (bif v43 then (Kt 30) else (Kt 31)) := (hC _ _ _).trans (by kernel_rfl)
end
theorem is12 {G : World → Prop} {ng : Nat} (S : Stays Tryd.prog G ng) : FnIs Tryd.prog G ng 12 (adp12 (run12 cut0 big)) := by
  refine spec_run cut0_eq S (l := gam12) (by intro p hp; cases hp) Tryd.func12 (by kernel_rfl) (nn := 5) (Lv := lvs12) (k := big) fun rc cs K r h => ?_
  unfold adp12 at h
  split at h
  · refine ⟨_, h, fun p hp => ?_⟩
    unfold tok12 at hp
    split at hp
    · exact hp
    · cases hp
  · cases h
theorem as12 {G : World → Prop} {ng : Nat} (S : Stays Tryd.prog G ng) {A : Ty12} (hA : ∀ (a0 : Int) (a1 : Int) (Kt : Tk12) (r : Out), A a0 a1 Kt = some r → run12 cut0 big a0 a1 Kt = some r) : FnIs Tryd.prog G ng 12 (adp12 A) :=
  (is12 S).weaken fun rc cs K r h => by
    unfold adp12 at h ⊢
    split at h
    · exact hA _ _ _ _ h
    · cases h

/-! targum/targumref4.Text -/
def lvs13 : Nat → Option (List (Nat × Co))
  | 1000195 => some [(0, .k), (3, .k)]
  | _ => none
section
variable (C : Nat → Env → (Env → Option Out) → Option Out)
def gam13 : List (Nat × Fn1) := []
noncomputable def bod13 : Code := Tryd.f13.body.getD .skip
noncomputable def run13 (k : Nat) (a0 : Int) (Kt : Tk13) : Option Out := runK Tryd.prog (lookG (gam13)) 4 lvs13 C k Tryd.f13 none [.s (.int .i64 a0)] (tok13 Kt)
noncomputable def l1_13 (k : Nat) (j0 : Nat) (v0 : Int) (v3 : List UInt8) (Kt : Tk13) : Option Out := C 1000195 [.c (.s (.int .i64 v0)), .u, .u, .c (.s (.str v3)), .u, .u, .u, .u, .u, .u, .u, .u, .u, .u, .u, .u, .u] fun e => headK Tryd.prog (lookG (gam13)) 4 lvs13 C k j0 bod13 [1, 1, 0] e (fin Tryd.prog Tryd.f13 none (tok13 Kt))
theorem run13_eq (k : Nat) (a0 : Int) (Kt : Tk13) : run13 C k a0 Kt =
  (l1_13 C k k a0 ([] : List UInt8) Kt) := by kernel_rfl
theorem l1_13_eq (hC : ∀ key e t, C key e t = t e) (k : Nat) (j0 : Nat) (v0 : Int) (v3 : List UInt8) (Kt : Tk13) : l1_13 C k (j0 + 1) v0 v3 Kt =
  ((cat (([(IntKind.u8.wrap (IntKind.i64.wrap ((48 : Int) + (v0.tmod 10))))] : List Int).map fun n => UInt8.ofNat n.toNat) v3).bind fun s1 => (bif ((IntKind.i64.wrap (v0.tdiv 10)) == 0) then (Kt s1) else (l1_13 C k j0 (IntKind.i64.wrap (v0.tdiv 10)) s1 Kt))) := (hC _ _ _).trans (by kernel_rfl)
end
theorem is13 {G : World → Prop} {ng : Nat} (S : Stays Tryd.prog G ng) : FnIs Tryd.prog G ng 13 (adp13 (run13 cut0 big)) := by
  refine spec_run cut0_eq S (l := gam13) (by intro p hp; cases hp) Tryd.func13 (by kernel_rfl) (nn := 4) (Lv := lvs13) (k := big) fun rc cs K r h => ?_
  unfold adp13 at h
  split at h
  · refine ⟨_, h, fun p hp => ?_⟩
    unfold tok13 at hp
    split at hp
    · exact hp
    · cases hp
  · cases h
theorem as13 {G : World → Prop} {ng : Nat} (S : Stays Tryd.prog G ng) {A : Ty13} (hA : ∀ (a0 : Int) (Kt : Tk13) (r : Out), A a0 Kt = some r → run13 cut0 big a0 Kt = some r) : FnIs Tryd.prog G ng 13 (adp13 A) :=
  (is13 S).weaken fun rc cs K r h => by
    unfold adp13 at h ⊢
    split at h
    · exact hA _ _ _ h
    · cases h

/-! targum/targumlaw10.moment -/
def lvs14 : Nat → Option (List (Nat × Co))
  | 1000259 => some [(0, .k), (3, .k), (4, .k)]
  | _ => none
section
variable (C : Nat → Env → (Env → Option Out) → Option Out)
def gam14 : List (Nat × Fn1) := []
noncomputable def bod14 : Code := Tryd.f14.body.getD .skip
noncomputable def run14 (k : Nat) (a0 : List Int) (Kt : Tk14) : Option Out := runK Tryd.prog (lookG (gam14)) 5 lvs14 C k Tryd.f14 none [.ro (.ints .u8 a0)] (tok14 Kt)
noncomputable def l1_14 (k : Nat) (j0 : Nat) (v0 : List Int) (v3 : List UInt8) (v4 : Int) (Kt : Tk14) : Option Out := C 1000259 [.c (.ro (.ints .u8 v0)), .u, .u, .c (.s (.str v3)), .c (.s (.int .i64 v4)), .u, .u, .u, .u, .u, .u, .u, .u, .u, .u, .u, .u, .u, .u, .u, .u, .u, .u, .u, .u, .u, .u, .u] fun e => headK Tryd.prog (lookG (gam14)) 5 lvs14 C k j0 bod14 [1, 1, 0, 1, 0] e (fin Tryd.prog Tryd.f14 none (tok14 Kt))
theorem run14_eq (k : Nat) (a0 : List Int) (Kt : Tk14) : run14 C k a0 Kt =
  (l1_14 C k k a0 ([] : List UInt8) 0 Kt) := by kernel_rfl
theorem l1_14_eq (hC : ∀ key e t, C key e t = t e) (k : Nat) (j0 : Nat) (v0 : List Int) (v3 : List UInt8) (v4 : Int) (Kt : Tk14) : l1_14 C k (j0 + 1) v0 v3 v4 Kt =
  (bif (decide (v4 < (v0.length : Int))) then (bif (decide (0 ≤ v4) && decide (v4 < (v0.length : Int))) then ((v0[v4.toNat]?).bind fun x1 => (bif (decide (0 ≤ v4) && decide (v4 < (v0.length : Int))) then ((v0[v4.toNat]?).bind fun x2 => ((cut ([48, 49, 50, 51, 52, 53, 54, 55, 56, 57, 45, 58, 84, 32, 116, 90, 43, 46, 9] : List UInt8) (some ((IntKind.i64.wrap x1).tmod 19)) (some (IntKind.i64.wrap (((IntKind.i64.wrap x2).tmod 19) + 1)))).bind fun s3 => ((cat v3 s3).bind fun s4 => (l1_14 C k j0 v0 s4 (IntKind.i64.wrap (v4 + 1)) Kt)))) else none)) else none) else (Kt v3)) := (hC _ _ _).trans (by kernel_rfl)
end
theorem is14 {G : World → Prop} {ng : Nat} (S : Stays Tryd.prog G ng) : FnIs Tryd.prog G ng 14 (adp14 (run14 cut0 big)) := by
  refine spec_run cut0_eq S (l := gam14) (by intro p hp; cases hp) Tryd.func14 (by kernel_rfl) (nn := 5) (Lv := lvs14) (k := big) fun rc cs K r h => ?_
  unfold adp14 at h
  split at h
  · refine ⟨_, h, fun p hp => ?_⟩
    unfold tok14 at hp
    split at hp
    · exact hp
    · cases hp
  · cases h
theorem as14 {G : World → Prop} {ng : Nat} (S : Stays Tryd.prog G ng) {A : Ty14} (hA : ∀ (a0 : List Int) (Kt : Tk14) (r : Out), A a0 Kt = some r → run14 cut0 big a0 Kt = some r) : FnIs Tryd.prog G ng 14 (adp14 A) :=
  (is14 S).weaken fun rc cs K r h => by
    unfold adp14 at h ⊢
    split at h
    · exact hA _ _ _ h
    · cases h

/-! targum/targumref10.Of -/
def lvs15 : Nat → Option (List (Nat × Co))
  | 642 => some [(0, .k), (4, .k), (6, .k), (8, .k), (9, .k), (44, .k)]
  | 1001027 => some [(0, .k), (4, .k), (6, .k), (8, .k), (9, .k), (10, .k)]
  | _ => none
section
variable (C : Nat → Env → (Env → Option Out) → Option Out) (N12 : Ty12) (N21 : Ty21) (N22 : Ty22) (N23 : Ty23) (N24 : Ty24)
def gam15 : List (Nat × Fn1) := [(12, adp12 N12), (21, adp21 N21), (22, adp22 N22), (23, adp23 N23), (24, adp24 N24)]
noncomputable def bod15 : Code := Tryd.f15.body.getD .skip
noncomputable def run15 (k : Nat) (a0 : List UInt8) (Kt : Tk15) : Option Out := runK Tryd.prog (lookG (gam15 N12 N21 N22 N23 N24)) 4 lvs15 C k Tryd.f15 none [.s (.str a0)] (tok15 Kt)
noncomputable def p1_15 (k : Nat) (v0 : List UInt8) (v4 : Int) (v6 : Int) (v8 : Int) (v9 : Int) (v44 : Bool) (Kt : Tk15) : Option Out := C 642 [.c (.s (.str v0)), .u, .u, .u, .c (.s (.int .i64 v4)), .u, .c (.s (.int .i64 v6)), .u, .c (.s (.int .i64 v8)), .c (.s (.int .i64 v9)), .u, .u, .u, .u, .u, .u, .u, .u, .u, .u, .u, .u, .u, .u, .u, .u, .u, .u, .u, .u, .u, .u, .u, .u, .u, .u, .u, .u, .u, .u, .u, .u, .u, .u, .c (.s (.bool v44)), .u, .u, .u, .u, .u, .u, .u, .u, .u, .u, .u, .u, .u, .u, .u, .u, .u, .u, .u, .u, .u, .u, .u, .u, .u, .u, .u, .u, .u, .u, .u, .u, .u, .u, .u, .u, .u, .u, .u, .u, .u, .u, .u, .u, .u, .u, .u, .u, .u, .u, .u, .u, .u, .u, .u, .u, .u, .u, .u] fun e => atK Tryd.prog (lookG (gam15 N12 N21 N22 N23 N24)) 4 lvs15 C k bod15 [1, 1, 1, 1, 1, 1, 0, 1] e (fin Tryd.prog Tryd.f15 none (tok15 Kt))
noncomputable def l2_15 (k : Nat) (j0 : Nat) (v0 : List UInt8) (v4 : Int) (v6 : Int) (v8 : Int) (v9 : Int) (v10 : Int) (Kt : Tk15) : Option Out := C 1001027 [.c (.s (.str v0)), .u, .u, .u, .c (.s (.int .i64 v4)), .u, .c (.s (.int .i64 v6)), .u, .c (.s (.int .i64 v8)), .c (.s (.int .i64 v9)), .c (.s (.int .i64 v10)), .u, .u, .u, .u, .u, .u, .u, .u, .u, .u, .u, .u, .u, .u, .u, .u, .u, .u, .u, .u, .u, .u, .u, .u, .u, .u, .u, .u, .u, .u, .u, .u, .u, .u, .u, .u, .u, .u, .u, .u, .u, .u, .u, .u, .u, .u, .u, .u, .u, .u, .u, .u, .u, .u, .u, .u, .u, .u, .u, .u, .u, .u, .u, .u, .u, .u, .u, .u, .u, .u, .u, .u, .u, .u, .u, .u, .u, .u, .u, .u, .u, .u, .u, .u, .u, .u, .u, .u, .u, .u, .u, .u, .u] fun e => headK Tryd.prog (lookG (gam15 N12 N21 N22 N23 N24)) 4 lvs15 C k j0 bod15 [1, 1, 1, 1, 1, 1, 1, 1, 1, 0, 0] e (fin Tryd.prog Tryd.f15 none (tok15 Kt))
theorem run15_eq (k : Nat) (a0 : List UInt8) (Kt : Tk15) : run15 C N12 N21 N22 N23 N24 k a0 Kt =
  (N21 a0 0 4 4 fun r1 r2 => (bif (decide (r2 < 0)) then (Kt ([] : List UInt8) false) else (N22 a0 r2 ([45] : List UInt8) 1 2 fun r3 r4 => (bif (decide (r4 < 0)) then (Kt ([] : List UInt8) false) else (N22 a0 r4 ([45] : List UInt8) 1 2 fun r5 r6 => (bif (decide (r6 < 0)) then (p1_15 C N12 N21 N22 N23 N24 k a0 r1 r3 r5 r6 true Kt) else (bif (decide (r5 < 1)) then (p1_15 C N12 N21 N22 N23 N24 k a0 r1 r3 r5 r6 true Kt) else (N12 r1 r3 fun r7 => (p1_15 C N12 N21 N22 N23 N24 k a0 r1 r3 r5 r6 (decide (r5 > r7)) Kt))))))))) := by kernel_rfl
theorem p1_15_eq (hC : ∀ key e t, C key e t = t e) (k : Nat) (v0 : List UInt8) (v4 : Int) (v6 : Int) (v8 : Int) (v9 : Int) (v44 : Bool) (Kt : Tk15) : p1_15 C N12 N21 N22 N23 N24 k v0 v4 v6 v8 v9 v44 Kt =
  (bif v44 then (Kt ([] : List UInt8) false) else (bif (v9 == (v0.length : Int)) then (bif (v9 != 10) then (Kt ([] : List UInt8) false) else (Kt v0 true)) else (N23 v0 v9 ([84, 116] : List UInt8) fun r8 => (l2_15 C N12 N21 N22 N23 N24 k k v0 v4 v6 v8 v9 r8 Kt)))) := (hC _ _ _).trans (by kernel_rfl)
theorem l2_15_eq (hC : ∀ key e t, C key e t = t e) (k : Nat) (j0 : Nat) (v0 : List UInt8) (v4 : Int) (v6 : Int) (v8 : Int) (v9 : Int) (v10 : Int) (Kt : Tk15) : l2_15 C N12 N21 N22 N23 N24 k (j0 + 1) v0 v4 v6 v8 v9 v10 Kt =
  (bif (decide (v10 < 0)) then (bif (decide (v9 < (v0.length : Int))) then ((at? v0 v9).bind fun b9 => (bif ((b9.toNat : Int) == 32) then (bif ((IntKind.i64.wrap (v9 + 1)) == (v0.length : Int)) then (l2_15 C N12 N21 N22 N23 N24 k j0 v0 v4 v6 v8 (IntKind.i64.wrap (v9 + 1)) (IntKind.i64.wrap (v9 + 1)) Kt) else ((at? v0 (IntKind.i64.wrap (v9 + 1))).bind fun b10 => (bif ((b10.toNat : Int) != 32) then ((at? v0 (IntKind.i64.wrap (v9 + 1))).bind fun b11 => (bif ((b11.toNat : Int) != 9) then (l2_15 C N12 N21 N22 N23 N24 k j0 v0 v4 v6 v8 (IntKind.i64.wrap (v9 + 1)) (IntKind.i64.wrap (v9 + 1)) Kt) else (l2_15 C N12 N21 N22 N23 N24 k j0 v0 v4 v6 v8 (IntKind.i64.wrap (v9 + 1)) v10 Kt))) else (l2_15 C N12 N21 N22 N23 N24 k j0 v0 v4 v6 v8 (IntKind.i64.wrap (v9 + 1)) v10 Kt)))) else ((at? v0 v9).bind fun b12 => (bif ((b12.toNat : Int) == 9) then (bif ((IntKind.i64.wrap (v9 + 1)) == (v0.length : Int)) then (l2_15 C N12 N21 N22 N23 N24 k j0 v0 v4 v6 v8 (IntKind.i64.wrap (v9 + 1)) (IntKind.i64.wrap (v9 + 1)) Kt) else ((at? v0 (IntKind.i64.wrap (v9 + 1))).bind fun b13 => (bif ((b13.toNat : Int) != 32) then ((at? v0 (IntKind.i64.wrap (v9 + 1))).bind fun b14 => (bif ((b14.toNat : Int) != 9) then (l2_15 C N12 N21 N22 N23 N24 k j0 v0 v4 v6 v8 (IntKind.i64.wrap (v9 + 1)) (IntKind.i64.wrap (v9 + 1)) Kt) else (l2_15 C N12 N21 N22 N23 N24 k j0 v0 v4 v6 v8 (IntKind.i64.wrap (v9 + 1)) v10 Kt))) else (l2_15 C N12 N21 N22 N23 N24 k j0 v0 v4 v6 v8 (IntKind.i64.wrap (v9 + 1)) v10 Kt)))) else (bif (decide (v10 < 0)) then (Kt ([] : List UInt8) false) else (N24 v0 v10 v4 v6 v8 fun r15 r16 => (Kt r15 r16))))))) else (bif (decide (v10 < 0)) then (Kt ([] : List UInt8) false) else (N24 v0 v10 v4 v6 v8 fun r17 r18 => (Kt r17 r18)))) else (bif (decide (v10 < 0)) then (Kt ([] : List UInt8) false) else (N24 v0 v10 v4 v6 v8 fun r19 r20 => (Kt r19 r20)))) := (hC _ _ _).trans (by kernel_rfl)
end
theorem is15 {G : World → Prop} {ng : Nat} (S : Stays Tryd.prog G ng) {N12 : Ty12} {N21 : Ty21} {N22 : Ty22} {N23 : Ty23} {N24 : Ty24} (h12 : FnIs Tryd.prog G ng 12 (adp12 N12)) (h21 : FnIs Tryd.prog G ng 21 (adp21 N21)) (h22 : FnIs Tryd.prog G ng 22 (adp22 N22)) (h23 : FnIs Tryd.prog G ng 23 (adp23 N23)) (h24 : FnIs Tryd.prog G ng 24 (adp24 N24)) : FnIs Tryd.prog G ng 15 (adp15 (run15 cut0 N12 N21 N22 N23 N24 big)) := by
  refine spec_run cut0_eq S (l := gam15 N12 N21 N22 N23 N24) (by intro p hp; simp only [gam15, List.mem_cons, List.not_mem_nil, or_false] at hp; rcases hp with rfl | rfl | rfl | rfl | rfl <;> assumption) Tryd.func15 (by kernel_rfl) (nn := 4) (Lv := lvs15) (k := big) fun rc cs K r h => ?_
  unfold adp15 at h
  split at h
  · refine ⟨_, h, fun p hp => ?_⟩
    unfold tok15 at hp
    split at hp
    · exact hp
    · cases hp
  · cases h
theorem as15 {G : World → Prop} {ng : Nat} (S : Stays Tryd.prog G ng) {N12 : Ty12} {N21 : Ty21} {N22 : Ty22} {N23 : Ty23} {N24 : Ty24} (h12 : FnIs Tryd.prog G ng 12 (adp12 N12)) (h21 : FnIs Tryd.prog G ng 21 (adp21 N21)) (h22 : FnIs Tryd.prog G ng 22 (adp22 N22)) (h23 : FnIs Tryd.prog G ng 23 (adp23 N23)) (h24 : FnIs Tryd.prog G ng 24 (adp24 N24)) {A : Ty15} (hA : ∀ (a0 : List UInt8) (Kt : Tk15) (r : Out), A a0 Kt = some r → run15 cut0 N12 N21 N22 N23 N24 big a0 Kt = some r) : FnIs Tryd.prog G ng 15 (adp15 A) :=
  (is15 S h12 h21 h22 h23 h24).weaken fun rc cs K r h => by
    unfold adp15 at h ⊢
    split at h
    · exact hA _ _ _ h
    · cases h

/-! targum/targumref10.digits -/
def lvs21 : Nat → Option (List (Nat × Co))
  | 1000195 => some [(0, .k), (1, .k), (2, .k), (3, .k), (10, .k), (11, .k)]
  | _ => none
section
variable (C : Nat → Env → (Env → Option Out) → Option Out) (N35 : Ty35)
def gam21 : List (Nat × Fn1) := [(35, adp35 N35)]
noncomputable def bod21 : Code := Tryd.f21.body.getD .skip
noncomputable def run21 (k : Nat) (a0 : List UInt8) (a1 : Int) (a2 : Int) (a3 : Int) (Kt : Tk21) : Option Out := runK Tryd.prog (lookG (gam21 N35)) 12 lvs21 C k Tryd.f21 none [.s (.str a0), .s (.int .i64 a1), .s (.int .i64 a2), .s (.int .i64 a3)] (tok21 Kt)
noncomputable def l1_21 (k : Nat) (j0 : Nat) (v0 : List UInt8) (v1 : Int) (v2 : Int) (v3 : Int) (v10 : Int) (v11 : Int) (Kt : Tk21) : Option Out := C 1000195 [.c (.s (.str v0)), .c (.s (.int .i64 v1)), .c (.s (.int .i64 v2)), .c (.s (.int .i64 v3)), .u, .u, .u, .u, .u, .u, .c (.s (.int .i64 v10)), .c (.s (.int .i64 v11)), .u, .u, .u, .u, .u, .u, .u, .u, .u, .u, .u, .u, .u, .u, .u, .u, .u, .u, .u, .u, .u, .u, .u, .u, .u, .u, .u, .u, .u, .u, .u, .u, .u, .u, .u] fun e => headK Tryd.prog (lookG (gam21 N35)) 12 lvs21 C k j0 bod21 [1, 1, 0, 0] e (fin Tryd.prog Tryd.f21 none (tok21 Kt))
theorem run21_eq (k : Nat) (a0 : List UInt8) (a1 : Int) (a2 : Int) (a3 : Int) (Kt : Tk21) : run21 C N35 k a0 a1 a2 a3 Kt =
  (l1_21 C N35 k k a0 a1 a2 a3 0 a1 Kt) := by kernel_rfl
theorem l1_21_eq (hC : ∀ key e t, C key e t = t e) (k : Nat) (j0 : Nat) (v0 : List UInt8) (v1 : Int) (v2 : Int) (v3 : Int) (v10 : Int) (v11 : Int) (Kt : Tk21) : l1_21 C N35 k (j0 + 1) v0 v1 v2 v3 v10 v11 Kt =
  (bif (decide (v11 < (v0.length : Int))) then (bif (decide ((IntKind.i64.wrap (v11 - v1)) < v3)) then ((at? v0 v11).bind fun b1 => (N35 (b1.toNat : Int) fun r2 => (bif r2 then ((at? v0 v11).bind fun b3 => (l1_21 C N35 k j0 v0 v1 v2 v3 (IntKind.i64.wrap ((IntKind.i64.wrap ((10 : Int) * v10)) + (IntKind.i64.wrap (IntKind.u8.wrap ((b3.toNat : Int) - 48))))) (IntKind.i64.wrap (v11 + 1)) Kt)) else (bif (decide ((IntKind.i64.wrap (v11 - v1)) < v2)) then (Kt 0 (-1)) else (Kt v10 v11))))) else (bif (decide ((IntKind.i64.wrap (v11 - v1)) < v2)) then (Kt 0 (-1)) else (Kt v10 v11))) else (bif (decide ((IntKind.i64.wrap (v11 - v1)) < v2)) then (Kt 0 (-1)) else (Kt v10 v11))) := (hC _ _ _).trans (by kernel_rfl)
end
theorem is21 {G : World → Prop} {ng : Nat} (S : Stays Tryd.prog G ng) {N35 : Ty35} (h35 : FnIs Tryd.prog G ng 35 (adp35 N35)) : FnIs Tryd.prog G ng 21 (adp21 (run21 cut0 N35 big)) := by
  refine spec_run cut0_eq S (l := gam21 N35) (by intro p hp; simp only [gam21, List.mem_cons, List.not_mem_nil, or_false] at hp; rcases hp with rfl <;> assumption) Tryd.func21 (by kernel_rfl) (nn := 12) (Lv := lvs21) (k := big) fun rc cs K r h => ?_
  unfold adp21 at h
  split at h
  · refine ⟨_, h, fun p hp => ?_⟩
    unfold tok21 at hp
    split at hp
    · exact hp
    · cases hp
  · cases h
theorem as21 {G : World → Prop} {ng : Nat} (S : Stays Tryd.prog G ng) {N35 : Ty35} (h35 : FnIs Tryd.prog G ng 35 (adp35 N35)) {A : Ty21} (hA : ∀ (a0 : List UInt8) (a1 : Int) (a2 : Int) (a3 : Int) (Kt : Tk21) (r : Out), A a0 a1 a2 a3 Kt = some r → run21 cut0 N35 big a0 a1 a2 a3 Kt = some r) : FnIs Tryd.prog G ng 21 (adp21 A) :=
  (is21 S h35).weaken fun rc cs K r h => by
    unfold adp21 at h ⊢
    split at h
    · exact hA _ _ _ _ _ _ h
    · cases h

/-! targum/targumref10.part -/
def lvs22 : Nat → Option (List (Nat × Co))
  | _ => none
section
variable (C : Nat → Env → (Env → Option Out) → Option Out) (N21 : Ty21) (N23 : Ty23)
def gam22 : List (Nat × Fn1) := [(21, adp21 N21), (23, adp23 N23)]
noncomputable def bod22 : Code := Tryd.f22.body.getD .skip
noncomputable def run22 (k : Nat) (a0 : List UInt8) (a1 : Int) (a2 : List UInt8) (a3 : Int) (a4 : Int) (Kt : Tk22) : Option Out := runK Tryd.prog (lookG (gam22 N21 N23)) 13 lvs22 C k Tryd.f22 none [.s (.str a0), .s (.int .i64 a1), .s (.str a2), .s (.int .i64 a3), .s (.int .i64 a4)] (tok22 Kt)
theorem run22_eq (k : Nat) (a0 : List UInt8) (a1 : Int) (a2 : List UInt8) (a3 : Int) (a4 : Int) (Kt : Tk22) : run22 C N21 N23 k a0 a1 a2 a3 a4 Kt =
  (N23 a0 a1 a2 fun r1 => (bif (decide (r1 < 0)) then (Kt 0 (-1)) else (N21 a0 r1 a3 a4 fun r2 r3 => (Kt r2 r3)))) := by kernel_rfl
end
theorem is22 {G : World → Prop} {ng : Nat} (S : Stays Tryd.prog G ng) {N21 : Ty21} {N23 : Ty23} (h21 : FnIs Tryd.prog G ng 21 (adp21 N21)) (h23 : FnIs Tryd.prog G ng 23 (adp23 N23)) : FnIs Tryd.prog G ng 22 (adp22 (run22 cut0 N21 N23 big)) := by
  refine spec_run cut0_eq S (l := gam22 N21 N23) (by intro p hp; simp only [gam22, List.mem_cons, List.not_mem_nil, or_false] at hp; rcases hp with rfl | rfl <;> assumption) Tryd.func22 (by kernel_rfl) (nn := 13) (Lv := lvs22) (k := big) fun rc cs K r h => ?_
  unfold adp22 at h
  split at h
  · refine ⟨_, h, fun p hp => ?_⟩
    unfold tok22 at hp
    split at hp
    · exact hp
    · cases hp
  · cases h
theorem as22 {G : World → Prop} {ng : Nat} (S : Stays Tryd.prog G ng) {N21 : Ty21} {N23 : Ty23} (h21 : FnIs Tryd.prog G ng 21 (adp21 N21)) (h23 : FnIs Tryd.prog G ng 23 (adp23 N23)) {A : Ty22} (hA : ∀ (a0 : List UInt8) (a1 : Int) (a2 : List UInt8) (a3 : Int) (a4 : Int) (Kt : Tk22) (r : Out), A a0 a1 a2 a3 a4 Kt = some r → run22 cut0 N21 N23 big a0 a1 a2 a3 a4 Kt = some r) : FnIs Tryd.prog G ng 22 (adp22 A) :=
  (is22 S h21 h23).weaken fun rc cs K r h => by
    unfold adp22 at h ⊢
    split at h
    · exact hA _ _ _ _ _ _ _ h
    · cases h

/-! targum/targumref10.sign -/
def lvs23 : Nat → Option (List (Nat × Co))
  | 194 => some [(0, .k), (1, .k), (2, .k), (15, .k)]
  | 1000323 => some [(0, .k), (1, .k), (2, .k), (7, .k)]
  | _ => none
section
variable (C : Nat → Env → (Env → Option Out) → Option Out)
def gam23 : List (Nat × Fn1) := []
noncomputable def bod23 : Code := Tryd.f23.body.getD .skip
noncomputable def run23 (k : Nat) (a0 : List UInt8) (a1 : Int) (a2 : List UInt8) (Kt : Tk23) : Option Out := runK Tryd.prog (lookG (gam23)) 8 lvs23 C k Tryd.f23 none [.s (.str a0), .s (.int .i64 a1), .s (.str a2)] (tok23 Kt)
noncomputable def p1_23 (k : Nat) (v0 : List UInt8) (v1 : Int) (v2 : List UInt8) (v15 : Bool) (Kt : Tk23) : Option Out := C 194 [.c (.s (.str v0)), .c (.s (.int .i64 v1)), .c (.s (.str v2)), .u, .u, .u, .u, .u, .u, .u, .u, .u, .u, .u, .u, .c (.s (.bool v15)), .u, .u, .u, .u, .u, .u, .u, .u, .u, .u, .u, .u, .u, .u, .u] fun e => atK Tryd.prog (lookG (gam23)) 8 lvs23 C k bod23 [1, 0, 1] e (fin Tryd.prog Tryd.f23 none (tok23 Kt))
noncomputable def l2_23 (k : Nat) (j0 : Nat) (v0 : List UInt8) (v1 : Int) (v2 : List UInt8) (v7 : Int) (Kt : Tk23) : Option Out := C 1000323 [.c (.s (.str v0)), .c (.s (.int .i64 v1)), .c (.s (.str v2)), .u, .u, .u, .u, .c (.s (.int .i64 v7)), .u, .u, .u, .u, .u, .u, .u, .u, .u, .u, .u, .u, .u, .u, .u, .u, .u, .u, .u, .u, .u, .u, .u] fun e => headK Tryd.prog (lookG (gam23)) 8 lvs23 C k j0 bod23 [1, 1, 0, 1, 0] e (fin Tryd.prog Tryd.f23 none (tok23 Kt))
theorem run23_eq (k : Nat) (a0 : List UInt8) (a1 : Int) (a2 : List UInt8) (Kt : Tk23) : run23 C k a0 a1 a2 Kt =
  (bif (decide (a1 < 0)) then (p1_23 C k a0 a1 a2 true Kt) else (p1_23 C k a0 a1 a2 (decide (a1 ≥ (a0.length : Int))) Kt)) := by kernel_rfl
theorem p1_23_eq (hC : ∀ key e t, C key e t = t e) (k : Nat) (v0 : List UInt8) (v1 : Int) (v2 : List UInt8) (v15 : Bool) (Kt : Tk23) : p1_23 C k v0 v1 v2 v15 Kt =
  (bif v15 then (Kt (-1)) else (l2_23 C k k v0 v1 v2 0 Kt)) := (hC _ _ _).trans (by kernel_rfl)
theorem l2_23_eq (hC : ∀ key e t, C key e t = t e) (k : Nat) (j0 : Nat) (v0 : List UInt8) (v1 : Int) (v2 : List UInt8) (v7 : Int) (Kt : Tk23) : l2_23 C k (j0 + 1) v0 v1 v2 v7 Kt =
  (bif (decide (v7 < (v2.length : Int))) then ((at? v0 v1).bind fun b1 => ((at? v2 v7).bind fun b2 => (bif ((b1.toNat : Int) == (b2.toNat : Int)) then (Kt (IntKind.i64.wrap (v1 + 1))) else (l2_23 C k j0 v0 v1 v2 (IntKind.i64.wrap (v7 + 1)) Kt)))) else (Kt (-1))) := (hC _ _ _).trans (by kernel_rfl)
end
theorem is23 {G : World → Prop} {ng : Nat} (S : Stays Tryd.prog G ng) : FnIs Tryd.prog G ng 23 (adp23 (run23 cut0 big)) := by
  refine spec_run cut0_eq S (l := gam23) (by intro p hp; cases hp) Tryd.func23 (by kernel_rfl) (nn := 8) (Lv := lvs23) (k := big) fun rc cs K r h => ?_
  unfold adp23 at h
  split at h
  · refine ⟨_, h, fun p hp => ?_⟩
    unfold tok23 at hp
    split at hp
    · exact hp
    · cases hp
  · cases h
theorem as23 {G : World → Prop} {ng : Nat} (S : Stays Tryd.prog G ng) {A : Ty23} (hA : ∀ (a0 : List UInt8) (a1 : Int) (a2 : List UInt8) (Kt : Tk23) (r : Out), A a0 a1 a2 Kt = some r → run23 cut0 big a0 a1 a2 Kt = some r) : FnIs Tryd.prog G ng 23 (adp23 A) :=
  (is23 S).weaken fun rc cs K r h => by
    unfold adp23 at h ⊢
    split at h
    · exact hA _ _ _ _ _ h
    · cases h

/-! targum/targumref10.clock -/
def lvs24 : Nat → Option (List (Nat × Co))
  | 642 => some [(0, .k), (2, .k), (3, .k), (4, .k), (12, .k), (14, .k), (16, .k), (17, .k), (60, .k)]
  | 1157 => some [(0, .k), (2, .k), (3, .k), (4, .k), (12, .k), (14, .k), (16, .k), (17, .k), (18, .k)]
  | 1857 => some [(23, .k)]
  | 1000963 => some [(0, .k), (2, .k), (3, .k), (4, .k), (12, .k), (14, .k), (16, .k), (19, .k), (20, .k)]
  | 1001155 => some [(0, .k), (2, .k), (3, .k), (4, .k), (12, .k), (14, .k), (16, .k), (17, .k), (18, .k)]
  | _ => none
section
variable (C : Nat → Env → (Env → Option Out) → Option Out) (N21 : Ty21) (N22 : Ty22) (N23 : Ty23) (N35 : Ty35) (N36 : Ty36) (N37 : Ty37) (N38 : Ty38)
def gam24 : List (Nat × Fn1) := [(21, adp21 N21), (22, adp22 N22), (23, adp23 N23), (35, adp35 N35), (36, adp36 N36), (37, adp37 N37), (38, adp38 N38)]
noncomputable def bod24 : Code := Tryd.f24.body.getD .skip
noncomputable def run24 (k : Nat) (a0 : List UInt8) (a1 : Int) (a2 : Int) (a3 : Int) (a4 : Int) (Kt : Tk24) : Option Out := runK Tryd.prog (lookG (gam24 N21 N22 N23 N35 N36 N37 N38)) 12 lvs24 C k Tryd.f24 none [.s (.str a0), .s (.int .i64 a1), .s (.int .i64 a2), .s (.int .i64 a3), .s (.int .i64 a4)] (tok24 Kt)
noncomputable def p1_24 (k : Nat) (v0 : List UInt8) (v2 : Int) (v3 : Int) (v4 : Int) (v12 : Int) (v14 : Int) (v16 : Int) (v17 : Int) (v60 : Bool) (Kt : Tk24) : Option Out := C 642 [.c (.s (.str v0)), .u, .c (.s (.int .i64 v2)), .c (.s (.int .i64 v3)), .c (.s (.int .i64 v4)), .u, .u, .u, .u, .u, .u, .u, .c (.s (.int .i64 v12)), .u, .c (.s (.int .i64 v14)), .u, .c (.s (.int .i64 v16)), .c (.s (.int .i64 v17)), .u, .u, .u, .u, .u, .u, .u, .u, .u, .u, .u, .u, .u, .u, .u, .u, .u, .u, .u, .u, .u, .u, .u, .u, .u, .u, .u, .u, .u, .u, .u, .u, .u, .u, .u, .u, .u, .u, .u, .u, .u, .u, .c (.s (.bool v60)), .u, .u, .u, .u, .u, .u, .u, .u, .u, .u, .u, .u, .u, .u, .u, .u, .u, .u, .u, .u, .u, .u, .u, .u, .u, .u, .u, .u, .u, .u, .u, .u, .u, .u, .u, .u, .u, .u, .u, .u, .u, .u, .u, .u, .u, .u, .u, .u, .u, .u, .u, .u, .u, .u, .u, .u, .u, .u, .u, .u, .u, .u, .u, .u, .u, .u, .u, .u, .u, .u, .u, .u, .u, .u, .u] fun e => atK Tryd.prog (lookG (gam24 N21 N22 N23 N35 N36 N37 N38)) 12 lvs24 C k bod24 [1, 1, 1, 1, 1, 1, 0, 1] e (fin Tryd.prog Tryd.f24 none (tok24 Kt))
noncomputable def l2_24 (k : Nat) (j0 : Nat) (v0 : List UInt8) (v2 : Int) (v3 : Int) (v4 : Int) (v12 : Int) (v14 : Int) (v16 : Int) (v19 : Int) (v20 : Int) (Kt : Tk24) : Option Out := C 1000963 [.c (.s (.str v0)), .u, .c (.s (.int .i64 v2)), .c (.s (.int .i64 v3)), .c (.s (.int .i64 v4)), .u, .u, .u, .u, .u, .u, .u, .c (.s (.int .i64 v12)), .u, .c (.s (.int .i64 v14)), .u, .c (.s (.int .i64 v16)), .u, .u, .c (.s (.int .i64 v19)), .c (.s (.int .i64 v20)), .u, .u, .u, .u, .u, .u, .u, .u, .u, .u, .u, .u, .u, .u, .u, .u, .u, .u, .u, .u, .u, .u, .u, .u, .u, .u, .u, .u, .u, .u, .u, .u, .u, .u, .u, .u, .u, .u, .u, .u, .u, .u, .u, .u, .u, .u, .u, .u, .u, .u, .u, .u, .u, .u, .u, .u, .u, .u, .u, .u, .u, .u, .u, .u, .u, .u, .u, .u, .u, .u, .u, .u, .u, .u, .u, .u, .u, .u, .u, .u, .u, .u, .u, .u, .u, .u, .u, .u, .u, .u, .u, .u, .u, .u, .u, .u, .u, .u, .u, .u, .u, .u, .u, .u, .u, .u, .u, .u, .u, .u, .u, .u, .u, .u, .u] fun e => headK Tryd.prog (lookG (gam24 N21 N22 N23 N35 N36 N37 N38)) 12 lvs24 C k j0 bod24 [1, 1, 1, 1, 1, 1, 1, 1, 0, 1, 1, 0, 1, 0, 0] e (fin Tryd.prog Tryd.f24 none (tok24 Kt))
noncomputable def p3_24 (k : Nat) (v0 : List UInt8) (v2 : Int) (v3 : Int) (v4 : Int) (v12 : Int) (v14 : Int) (v16 : Int) (v17 : Int) (v18 : List UInt8) (Kt : Tk24) : Option Out := C 1157 [.c (.s (.str v0)), .u, .c (.s (.int .i64 v2)), .c (.s (.int .i64 v3)), .c (.s (.int .i64 v4)), .u, .u, .u, .u, .u, .u, .u, .c (.s (.int .i64 v12)), .u, .c (.s (.int .i64 v14)), .u, .c (.s (.int .i64 v16)), .c (.s (.int .i64 v17)), .c (.s (.str v18)), .u, .u, .u, .u, .u, .u, .u, .u, .u, .u, .u, .u, .u, .u, .u, .u, .u, .u, .u, .u, .u, .u, .u, .u, .u, .u, .u, .u, .u, .u, .u, .u, .u, .u, .u, .u, .u, .u, .u, .u, .u, .u, .u, .u, .u, .u, .u, .u, .u, .u, .u, .u, .u, .u, .u, .u, .u, .u, .u, .u, .u, .u, .u, .u, .u, .u, .u, .u, .u, .u, .u, .u, .u, .u, .u, .u, .u, .u, .u, .u, .u, .u, .u, .u, .u, .u, .u, .u, .u, .u, .u, .u, .u, .u, .u, .u, .u, .u, .u, .u, .u, .u, .u, .u, .u, .u, .u, .u, .u, .u, .u, .u, .u, .u, .u, .u, .u] fun e => atK Tryd.prog (lookG (gam24 N21 N22 N23 N35 N36 N37 N38)) 12 lvs24 C k bod24 [1, 1, 1, 1, 1, 1, 1, 1, 1] e (fin Tryd.prog Tryd.f24 none (tok24 Kt))
noncomputable def l4_24 (k : Nat) (j0 : Nat) (v0 : List UInt8) (v2 : Int) (v3 : Int) (v4 : Int) (v12 : Int) (v14 : Int) (v16 : Int) (v17 : Int) (v18 : List UInt8) (Kt : Tk24) : Option Out := C 1001155 [.c (.s (.str v0)), .u, .c (.s (.int .i64 v2)), .c (.s (.int .i64 v3)), .c (.s (.int .i64 v4)), .u, .u, .u, .u, .u, .u, .u, .c (.s (.int .i64 v12)), .u, .c (.s (.int .i64 v14)), .u, .c (.s (.int .i64 v16)), .c (.s (.int .i64 v17)), .c (.s (.str v18)), .u, .u, .u, .u, .u, .u, .u, .u, .u, .u, .u, .u, .u, .u, .u, .u, .u, .u, .u, .u, .u, .u, .u, .u, .u, .u, .u, .u, .u, .u, .u, .u, .u, .u, .u, .u, .u, .u, .u, .u, .u, .u, .u, .u, .u, .u, .u, .u, .u, .u, .u, .u, .u, .u, .u, .u, .u, .u, .u, .u, .u, .u, .u, .u, .u, .u, .u, .u, .u, .u, .u, .u, .u, .u, .u, .u, .u, .u, .u, .u, .u, .u, .u, .u, .u, .u, .u, .u, .u, .u, .u, .u, .u, .u, .u, .u, .u, .u, .u, .u, .u, .u, .u, .u, .u, .u, .u, .u, .u, .u, .u, .u, .u, .u, .u, .u, .u] fun e => headK Tryd.prog (lookG (gam24 N21 N22 N23 N35 N36 N37 N38)) 12 lvs24 C k j0 bod24 [1, 1, 1, 1, 1, 1, 1, 1, 1, 0, 0] e (fin Tryd.prog Tryd.f24 none (tok24 Kt))
noncomputable def p5_24 (k : Nat) (v23 : List UInt8) (Kt : Tk24) : Option Out := C 1857 [.u, .u, .u, .u, .u, .u, .u, .u, .u, .u, .u, .u, .u, .u, .u, .u, .u, .u, .u, .u, .u, .u, .u, .c (.s (.str v23)), .u, .u, .u, .u, .u, .u, .u, .u, .u, .u, .u, .u, .u, .u, .u, .u, .u, .u, .u, .u, .u, .u, .u, .u, .u, .u, .u, .u, .u, .u, .u, .u, .u, .u, .u, .u, .u, .u, .u, .u, .u, .u, .u, .u, .u, .u, .u, .u, .u, .u, .u, .u, .u, .u, .u, .u, .u, .u, .u, .u, .u, .u, .u, .u, .u, .u, .u, .u, .u, .u, .u, .u, .u, .u, .u, .u, .u, .u, .u, .u, .u, .u, .u, .u, .u, .u, .u, .u, .u, .u, .u, .u, .u, .u, .u, .u, .u, .u, .u, .u, .u, .u, .u, .u, .u, .u, .u, .u, .u, .u, .u, .u] fun e => atK Tryd.prog (lookG (gam24 N21 N22 N23 N35 N36 N37 N38)) 12 lvs24 C k bod24 [1, 1, 1, 1, 1, 1, 1, 1, 1, 1, 1, 1, 1, 1, 1, 1] e (fin Tryd.prog Tryd.f24 none (tok24 Kt))
theorem run24_eq (k : Nat) (a0 : List UInt8) (a1 : Int) (a2 : Int) (a3 : Int) (a4 : Int) (Kt : Tk24) : run24 C N21 N22 N23 N35 N36 N37 N38 k a0 a1 a2 a3 a4 Kt =
  (N21 a0 a1 1 2 fun r1 r2 => (bif (decide (r2 < 0)) then (Kt ([] : List UInt8) false) else (N22 a0 r2 ([58] : List UInt8) 2 2 fun r3 r4 => (bif (decide (r4 < 0)) then (Kt ([] : List UInt8) false) else (N22 a0 r4 ([58] : List UInt8) 2 2 fun r5 r6 => (bif (decide (r6 < 0)) then (p1_24 C N21 N22 N23 N35 N36 N37 N38 k a0 a2 a3 a4 r1 r3 r5 r6 true Kt) else (bif (decide (r1 > 23)) then (p1_24 C N21 N22 N23 N35 N36 N37 N38 k a0 a2 a3 a4 r1 r3 r5 r6 true Kt) else (bif (decide (r3 > 59)) then (p1_24 C N21 N22 N23 N35 N36 N37 N38 k a0 a2 a3 a4 r1 r3 r5 r6 true Kt) else (p1_24 C N21 N22 N23 N35 N36 N37 N38 k a0 a2 a3 a4 r1 r3 r5 r6 (decide (r5 > 59)) Kt))))))))) := by kernel_rfl
theorem p1_24_eq (hC : ∀ key e t, C key e t = t e) (k : Nat) (v0 : List UInt8) (v2 : Int) (v3 : Int) (v4 : Int) (v12 : Int) (v14 : Int) (v16 : Int) (v17 : Int) (v60 : Bool) (Kt : Tk24) : p1_24 C N21 N22 N23 N35 N36 N37 N38 k v0 v2 v3 v4 v12 v14 v16 v17 v60 Kt =
  (bif v60 then (Kt ([] : List UInt8) false) else (N23 v0 v17 ([46] : List UInt8) fun r7 => (bif (decide (r7 > 0)) then (l2_24 C N21 N22 N23 N35 N36 N37 N38 k k v0 v2 v3 v4 v12 v14 v16 r7 r7 Kt) else (p3_24 C N21 N22 N23 N35 N36 N37 N38 k v0 v2 v3 v4 v12 v14 v16 v17 ([] : List UInt8) Kt)))) := (hC _ _ _).trans (by kernel_rfl)
theorem l2_24_eq (hC : ∀ key e t, C key e t = t e) (k : Nat) (j0 : Nat) (v0 : List UInt8) (v2 : Int) (v3 : Int) (v4 : Int) (v12 : Int) (v14 : Int) (v16 : Int) (v19 : Int) (v20 : Int) (Kt : Tk24) : l2_24 C N21 N22 N23 N35 N36 N37 N38 k (j0 + 1) v0 v2 v3 v4 v12 v14 v16 v19 v20 Kt =
  (bif (decide (v20 < (v0.length : Int))) then ((at? v0 v20).bind fun b8 => (N35 (b8.toNat : Int) fun r9 => (bif r9 then (l2_24 C N21 N22 N23 N35 N36 N37 N38 k j0 v0 v2 v3 v4 v12 v14 v16 v19 (IntKind.i64.wrap (v20 + 1)) Kt) else ((cut v0 (some v19) (some v20)).bind fun s10 => (p3_24 C N21 N22 N23 N35 N36 N37 N38 k v0 v2 v3 v4 v12 v14 v16 v20 s10 Kt))))) else ((cut v0 (some v19) (some v20)).bind fun s11 => (p3_24 C N21 N22 N23 N35 N36 N37 N38 k v0 v2 v3 v4 v12 v14 v16 v20 s11 Kt))) := (hC _ _ _).trans (by kernel_rfl)
theorem p3_24_eq (hC : ∀ key e t, C key e t = t e) (k : Nat) (v0 : List UInt8) (v2 : Int) (v3 : Int) (v4 : Int) (v12 : Int) (v14 : Int) (v16 : Int) (v17 : Int) (v18 : List UInt8) (Kt : Tk24) : p3_24 C N21 N22 N23 N35 N36 N37 N38 k v0 v2 v3 v4 v12 v14 v16 v17 v18 Kt =
  (l4_24 C N21 N22 N23 N35 N36 N37 N38 k k v0 v2 v3 v4 v12 v14 v16 v17 v18 Kt) := (hC _ _ _).trans (by kernel_rfl)
theorem l4_24_eq (hC : ∀ key e t, C key e t = t e) (k : Nat) (j0 : Nat) (v0 : List UInt8) (v2 : Int) (v3 : Int) (v4 : Int) (v12 : Int) (v14 : Int) (v16 : Int) (v17 : Int) (v18 : List UInt8) (Kt : Tk24) : l4_24 C N21 N22 N23 N35 N36 N37 N38 k (j0 + 1) v0 v2 v3 v4 v12 v14 v16 v17 v18 Kt =
  (bif (decide ((v18.length : Int) > 0)) then ((at? v18 (IntKind.i64.wrap ((v18.length : Int) - 1))).bind fun b12 => (bif ((b12.toNat : Int) == 48) then ((cut v18 none (some (IntKind.i64.wrap ((v18.length : Int) - 1)))).bind fun s13 => (l4_24 C N21 N22 N23 N35 N36 N37 N38 k j0 v0 v2 v3 v4 v12 v14 v16 v17 s13 Kt)) else (N36 v0 v17 fun r14 r15 => (bif (!r15) then (Kt ([] : List UInt8) false) else (N37 v2 v3 v4 (IntKind.i64.wrap ((IntKind.i64.wrap ((IntKind.i64.wrap ((60 : Int) * v12)) + v14)) - r14)) fun r16 r17 => (bif (!r17) then (Kt ([] : List UInt8) false) else ((cat r16 ([58] : List UInt8)).bind fun s18 => (N38 v16 fun r19 => ((cat s18 r19).bind fun s20 => (bif (!(v18 == ([] : List UInt8))) then ((cat s20 ([46] : List UInt8)).bind fun s21 => ((cat s21 v18).bind fun s22 => (p5_24 C N21 N22 N23 N35 N36 N37 N38 k s22 Kt))) else (p5_24 C N21 N22 N23 N35 N36 N37 N38 k s20 Kt))))))))))) else (N36 v0 v17 fun r23 r24 => (bif (!r24) then (Kt ([] : List UInt8) false) else (N37 v2 v3 v4 (IntKind.i64.wrap ((IntKind.i64.wrap ((IntKind.i64.wrap ((60 : Int) * v12)) + v14)) - r23)) fun r25 r26 => (bif (!r26) then (Kt ([] : List UInt8) false) else ((cat r25 ([58] : List UInt8)).bind fun s27 => (N38 v16 fun r28 => ((cat s27 r28).bind fun s29 => (bif (!(v18 == ([] : List UInt8))) then ((cat s29 ([46] : List UInt8)).bind fun s30 => ((cat s30 v18).bind fun s31 => (p5_24 C N21 N22 N23 N35 N36 N37 N38 k s31 Kt))) else (p5_24 C N21 N22 N23 N35 N36 N37 N38 k s29 Kt)))))))))) := (hC _ _ _).trans (by kernel_rfl)
theorem p5_24_eq (hC : ∀ key e t, C key e t = t e) (k : Nat) (v23 : List UInt8) (Kt : Tk24) : p5_24 C N21 N22 N23 N35 N36 N37 N38 k v23 Kt =
  ((cat v23 ([90] : List UInt8)).bind fun s32 => (Kt s32 true)) := (hC _ _ _).trans (by kernel_rfl)
end
theorem is24 {G : World → Prop} {ng : Nat} (S : Stays Tryd.prog G ng) {N21 : Ty21} {N22 : Ty22} {N23 : Ty23} {N35 : Ty35} {N36 : Ty36} {N37 : Ty37} {N38 : Ty38} (h21 : FnIs Tryd.prog G ng 21 (adp21 N21)) (h22 : FnIs Tryd.prog G ng 22 (adp22 N22)) (h23 : FnIs Tryd.prog G ng 23 (adp23 N23)) (h35 : FnIs Tryd.prog G ng 35 (adp35 N35)) (h36 : FnIs Tryd.prog G ng 36 (adp36 N36)) (h37 : FnIs Tryd.prog G ng 37 (adp37 N37)) (h38 : FnIs Tryd.prog G ng 38 (adp38 N38)) : FnIs Tryd.prog G ng 24 (adp24 (run24 cut0 N21 N22 N23 N35 N36 N37 N38 big)) := by
  refine spec_run cut0_eq S (l := gam24 N21 N22 N23 N35 N36 N37 N38) (by intro p hp; simp only [gam24, List.mem_cons, List.not_mem_nil, or_false] at hp; rcases hp with rfl | rfl | rfl | rfl | rfl | rfl | rfl <;> assumption) Tryd.func24 (by kernel_rfl) (nn := 12) (Lv := lvs24) (k := big) fun rc cs K r h => ?_
  unfold adp24 at h
  split at h
  · refine ⟨_, h, fun p hp => ?_⟩
    unfold tok24 at hp
    split at hp
    · exact hp
    · cases hp
  · cases h
theorem as24 {G : World → Prop} {ng : Nat} (S : Stays Tryd.prog G ng) {N21 : Ty21} {N22 : Ty22} {N23 : Ty23} {N35 : Ty35} {N36 : Ty36} {N37 : Ty37} {N38 : Ty38} (h21 : FnIs Tryd.prog G ng 21 (adp21 N21)) (h22 : FnIs Tryd.prog G ng 22 (adp22 N22)) (h23 : FnIs Tryd.prog G ng 23 (adp23 N23)) (h35 : FnIs Tryd.prog G ng 35 (adp35 N35)) (h36 : FnIs Tryd.prog G ng 36 (adp36 N36)) (h37 : FnIs Tryd.prog G ng 37 (adp37 N37)) (h38 : FnIs Tryd.prog G ng 38 (adp38 N38)) {A : Ty24} (hA : ∀ (a0 : List UInt8) (a1 : Int) (a2 : Int) (a3 : Int) (a4 : Int) (Kt : Tk24) (r : Out), A a0 a1 a2 a3 a4 Kt = some r → run24 cut0 N21 N22 N23 N35 N36 N37 N38 big a0 a1 a2 a3 a4 Kt = some r) : FnIs Tryd.prog G ng 24 (adp24 A) :=
  (is24 S h21 h22 h23 h35 h36 h37 h38).weaken fun rc cs K r h => by
    unfold adp24 at h ⊢
    split at h
    · exact hA _ _ _ _ _ _ _ h
    · cases h

end Go.Proofs.YtnfjggagenmkjaaDoor
