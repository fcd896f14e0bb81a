/- Texts of this session, joined. -/
import Derived.Test.YtffmgholjdfcnaaGreatDoorJW
import Derived.Test.YtffmgholjdfcnaaGreatDoorProg
set_option maxRecDepth 100000
set_option linter.unusedVariables false
namespace Go.Proofs.YtffmgholjdfcnaaGreatDoor
open Go Go.Proofs AM
open Go.IntKind (i64 u8)
noncomputable section
section
variable (C : Nat → Env → (Env → Option Out) → Option Out) (N14 : Ty14) (N15 : Ty15) (N16 : Ty16) (N17 : Ty17) (N18 : Ty18)
end
section
variable (C : Nat → Env → (Env → Option Out) → Option Out) (N14 : Ty14) (N15 : Ty15) (N16 : Ty16) (N18 : Ty18) (N19 : Ty19)
end
section
variable (C : Nat → Env → (Env → Option Out) → Option Out) (N14 : Ty14) (N16 : Ty16) (N20 : Ty20) (N21 : Ty21)
end
section
variable (C : Nat → Env → (Env → Option Out) → Option Out) (N16 : Ty16) (N18 : Ty18)
end
section
variable (C : Nat → Env → (Env → Option Out) → Option Out)
end
def lvs19 : Nat → Option (List (Nat × Co))
 | _ => none
section
variable (C : Nat → Env → (Env → Option Out) → Option Out)
def gam19 : List (Nat × Fn1) := []
def run19 (k : Nat) (a0 : Bool) (Kt : Tk19) : Option Out := runK Tryz.prog (lookG (gam19)) 3 lvs19 C k Tryz.f19 none [.s (.bool a0)] (tok19 Kt)
theorem run19_eq (k : Nat) (a0 : Bool) (Kt : Tk19) : run19 C k a0 Kt =
 (bif a0 then (Kt 11) else (Kt 12)) := by kernel_rfl
end
theorem as19 {G : World → Prop} {ng : Nat} (S : Stays Tryz.prog G ng) {A : Ty19} (hA : ∀ (a0 : Bool) (Kt : Tk19) (r : Out), A a0 Kt = some r → run19 cut0 big a0 Kt = some r) : FnIs Tryz.prog G ng 19 (adp19 A) := by
 refine spec_run cut0_eq S (l := gam19) (by intro p hp; cases hp) Tryz.func19 (by kernel_rfl) (nn := 3) (Lv := lvs19) (k := big) fun rc cs K r h => ?_
 unfold adp19 at h
 split at h
 ·exact ⟨_, hA _ _ _ h, fun p hp => by unfold tok19 at hp; split at hp; exact hp; cases hp⟩
 ·cases h
section
variable (C : Nat → Env → (Env → Option Out) → Option Out) (N16 : Ty16)
end
end
end Go.Proofs.YtffmgholjdfcnaaGreatDoor
set_option maxRecDepth 100000
set_option linter.unusedVariables false
namespace Go.Proofs.YtffmgholjdfcnaaGreatDoor
open Go Go.Proofs AM
open Go.IntKind (i64 u8)
noncomputable section
section
variable (C : Nat → Env → (Env → Option Out) → Option Out) (N22 : Ty22) (N23 : Ty23) (N24 : Ty24) (N25 : Ty25) (N26 : Ty26) (N27 : Ty27) (N28 : Ty28)
end
def lvs7 : Nat → Option (List (Nat × Co))
 | 322 => some [(0, .k), (1, .k), (2, .k), (3, .k), (4, .k), (5, .k), (31, .k)]
 | 1024 => some [(2, .k), (3, .k), (4, .k), (13, .k), (37, .k), (38, .k), (39, .k)]
 | 1000514 => some [(2, .k), (3, .k), (4, .k), (13, .k), (37, .k), (38, .k), (39, .k)]
 | _ => none
section
variable (C : Nat → Env → (Env → Option Out) → Option Out) (N19 : Ty19) (N22 : Ty22) (N23 : Ty23) (N24 : Ty24) (N25 : Ty25)
def gam7 : List (Nat × Fn1) := [(19, adp19 N19), (22, adp22 N22), (23, adp23 N23), (24, adp24 N24), (25, adp25 N25)]
def bod7 : Code := Tryz.f7.body.getD .skip
def run7 (k : Nat) (a0 : Bool) (a1 : BY) (a2 : Int) (a3 a4 : Bool) (a5 : List Int) (Kt : Tk7) : Option Out := runK Tryz.prog (lookG (gam7 N19 N22 N23 N24 N25)) 13 lvs7 C k Tryz.f7 none [.s (.bool a0), .s (.str a1), .s (.int .u8 a2), .s (.bool a3), .s (.bool a4), .ro (.ints .u8 a5)] (tok7 Kt)
def p1_7 (k : Nat) (v0 : Bool) (v1 : BY) (v2 : Int) (v3 v4 : Bool) (v5 : List Int) (v31 : Bool) (Kt : Tk7) : Option Out := C 322 ([.c (.s (.bool v0)), .c (.s (.str v1)), .c (.s (.int .u8 v2)), .c (.s (.bool v3)), .c (.s (.bool v4)), .c (.ro (.ints .u8 v5))] ++ us 25 ++ [.c (.s (.bool v31))] ++ us 57) fun e => atK Tryz.prog (lookG (gam7 N19 N22 N23 N24 N25)) 13 lvs7 C k bod7 [1, 1, 0, 1] e (fin Tryz.prog Tryz.f7 none (tok7 Kt))
def l2_7 (k j0 : Nat) (v2 : Int) (v3 v4 : Bool) (v13 : Int) (v37 : List BY) (v38 v39 : Int) (Kt : Tk7) : Option Out := C 1000514 ([.u, .u, .c (.s (.int .u8 v2)), .c (.s (.bool v3)), .c (.s (.bool v4))] ++ us 8 ++ [.c (.s (.int .i64 v13))] ++ us 23 ++ [.c (.own (.strs v37)), .c (.s (.int .i64 v38)), .c (.s (.int .i64 v39))] ++ us 49) fun e => headK Tryz.prog (lookG (gam7 N19 N22 N23 N24 N25)) 13 lvs7 C k j0 bod7 [1, 1, 1, 1, 0, 1, 0] e (fin Tryz.prog Tryz.f7 none (tok7 Kt))
def p3_7 (k j0 : Nat) (v2 : Int) (v3 v4 : Bool) (v13 : Int) (v37 : List BY) (v38 v39 : Int) (Kt : Tk7) : Option Out := C 1024 ([.u, .u, .c (.s (.int .u8 v2)), .c (.s (.bool v3)), .c (.s (.bool v4))] ++ us 8 ++ [.c (.s (.int .i64 v13))] ++ us 23 ++ [.c (.own (.strs v37)), .c (.s (.int .i64 v38)), .c (.s (.int .i64 v39))] ++ us 49) fun e => atK Tryz.prog (lookG (gam7 N19 N22 N23 N24 N25)) 13 lvs7 C k bod7 [1, 1, 1, 1, 0, 1, 0, j0, 1, 1, 1] e (fin Tryz.prog Tryz.f7 none (tok7 Kt))
theorem run7_eq (k : Nat) (a0 : Bool) (a1 : BY) (a2 : Int) (a3 a4 : Bool) (a5 : List Int) (Kt : Tk7) : run7 C N19 N22 N23 N24 N25 k a0 a1 a2 a3 a4 a5 Kt =
 (N22 fun r1 => (bif (!r1) then (Kt false) else (bif (decide ((a1.length : Int) > 60)) then (p1_7 C N19 N22 N23 N24 N25 k a0 a1 a2 a3 a4 a5 true Kt) else (p1_7 C N19 N22 N23 N24 N25 k a0 a1 a2 a3 a4 a5 (decide ((a5.length : Int) > 8)) Kt)))) := by kernel_rfl
theorem p1_7_eq (hC : Cv C) (k : Nat) (v0 : Bool) (v1 : BY) (v2 : Int) (v3 v4 : Bool) (v5 : List Int) (v31 : Bool) (Kt : Tk7) : p1_7 C N19 N22 N23 N24 N25 k v0 v1 v2 v3 v4 v5 v31 Kt =
 (bif v31 then (Kt true) else (N19 v0 fun r2 => (N24 v5 fun r3 => (l2_7 C N19 N22 N23 N24 N25 k k v2 v3 v4 r2 ([v1, r3] : List (BY)) 2 0 Kt)))) := (hC _ _ _).trans (by kernel_rfl)
theorem l2_7_eq (hC : Cv C) (k j0 : Nat) (v2 : Int) (v3 v4 : Bool) (v13 : Int) (v37 : List BY) (v38 v39 : Int) (Kt : Tk7) : l2_7 C N19 N22 N23 N24 N25 k (j0 + 1) v2 v3 v4 v13 v37 v38 v39 Kt =
 (bif (decide (v39 < v38)) then (bif (decide (0 ≤ v39) && decide (v39 < (v37.length : Int))) then ((v37[v39.toNat]?).bind fun x4 => (N23 v2 fun r5 => (N25 v13 r5 x4 v3 fun r6 r7 r8 => (bif (!r8) then (p3_7 C N19 N22 N23 N24 N25 k j0 v2 v3 v4 v13 v37 v38 v39 Kt) else (N25 11 r6 r7 v4 fun r9 r10 r11 => (N25 12 r6 r7 v4 fun r12 r13 r14 => (bif (!r11) then (Kt false) else (bif (!r14) then (Kt false) else (bif (!((r6 == r9) && ((r7 == r10) && true))) then (Kt false) else (bif (!((r6 == r12) && ((r7 == r13) && true))) then (Kt false) else (p3_7 C N19 N22 N23 N24 N25 k j0 v2 v3 v4 v13 v37 v38 v39 Kt))))))))))) else none) else (Kt true)) := (hC _ _ _).trans (by kernel_rfl)
theorem p3_7_eq (hC : Cv C) (k j0 : Nat) (v2 : Int) (v3 v4 : Bool) (v13 : Int) (v37 : List BY) (v38 v39 : Int) (Kt : Tk7) : p3_7 C N19 N22 N23 N24 N25 k j0 v2 v3 v4 v13 v37 v38 v39 Kt =
 (l2_7 C N19 N22 N23 N24 N25 k j0 v2 v3 v4 v13 v37 v38 (i64.wrap (v39 + 1)) Kt) := (hC _ _ _).trans (by kernel_rfl)
end
theorem as7 {G : World → Prop} {ng : Nat} (S : Stays Tryz.prog G ng) {N19 : Ty19} {N22 : Ty22} {N23 : Ty23} {N24 : Ty24} {N25 : Ty25} (h19 : FnIs Tryz.prog G ng 19 (adp19 N19)) (h22 : FnIs Tryz.prog G ng 22 (adp22 N22)) (h23 : FnIs Tryz.prog G ng 23 (adp23 N23)) (h24 : FnIs Tryz.prog G ng 24 (adp24 N24)) (h25 : FnIs Tryz.prog G ng 25 (adp25 N25)) {A : Ty7} (hA : ∀ (a0 : Bool) (a1 : BY) (a2 : Int) (a3 : Bool) (a4 : Bool) (a5 : List Int) (Kt : Tk7) (r : Out), A a0 a1 a2 a3 a4 a5 Kt = some r → run7 cut0 N19 N22 N23 N24 N25 big a0 a1 a2 a3 a4 a5 Kt = some r) : FnIs Tryz.prog G ng 7 (adp7 A) := by
 refine FnIs.norm (hd := by rfl) (A := adq7 A) (spec_run cut0_eq S (l := gam7 N19 N22 N23 N24 N25) (by intro p hp; simp only [gam7, List.mem_cons, List.not_mem_nil, or_false] at hp; rcases hp with rfl | rfl | rfl | rfl | rfl <;> assumption) Tryz.func7 (by kernel_rfl) (nn := 13) (Lv := lvs7) (k := big) fun rc cs K r h => ?_)
 unfold adq7 at h
 split at h
 ·exact ⟨_, hA _ _ _ _ _ _ _ _ h, fun p hp => by unfold tok7 at hp; split at hp; exact hp; cases hp⟩
 ·cases h
def lvs8 : Nat → Option (List (Nat × Co))
 | 322 => some [(0, .k), (1, .k), (2, .k), (3, .k), (30, .k)]
 | _ => none
section
variable (C : Nat → Env → (Env → Option Out) → Option Out) (N16 : Ty16) (N19 : Ty19) (N22 : Ty22) (N25 : Ty25)
def gam8 : List (Nat × Fn1) := [(16, adp16 N16), (19, adp19 N19), (22, adp22 N22), (25, adp25 N25)]
def bod8 : Code := Tryz.f8.body.getD .skip
def run8 (k : Nat) (a0 : Bool) (a1 a2 : BY) (a3 : Bool) (Kt : Tk8) : Option Out := runK Tryz.prog (lookG (gam8 N16 N19 N22 N25)) 9 lvs8 C k Tryz.f8 none [.s (.bool a0), .s (.str a1), .s (.str a2), .s (.bool a3)] (tok8 Kt)
def p1_8 (k : Nat) (v0 : Bool) (v1 v2 : BY) (v3 v30 : Bool) (Kt : Tk8) : Option Out := C 322 ([.c (.s (.bool v0)), .c (.s (.str v1)), .c (.s (.str v2)), .c (.s (.bool v3))] ++ us 26 ++ [.c (.s (.bool v30))] ++ us 84) fun e => atK Tryz.prog (lookG (gam8 N16 N19 N22 N25)) 9 lvs8 C k bod8 [1, 1, 0, 1] e (fin Tryz.prog Tryz.f8 none (tok8 Kt))
theorem run8_eq (k : Nat) (a0 : Bool) (a1 a2 : BY) (a3 : Bool) (Kt : Tk8) : run8 C N16 N19 N22 N25 k a0 a1 a2 a3 Kt =
 (N22 fun r1 => (bif (!r1) then (Kt false) else (bif (decide ((a1.length : Int) > 100)) then (p1_8 C N16 N19 N22 N25 k a0 a1 a2 a3 true Kt) else (p1_8 C N16 N19 N22 N25 k a0 a1 a2 a3 (decide ((a2.length : Int) > 40)) Kt)))) := by kernel_rfl
theorem p1_8_eq (hC : Cv C) (k : Nat) (v0 : Bool) (v1 v2 : BY) (v3 v30 : Bool) (Kt : Tk8) : p1_8 C N16 N19 N22 N25 k v0 v1 v2 v3 v30 Kt =
 (bif v30 then (Kt true) else (N19 v0 fun r2 => (N25 r2 ([] : BY) v1 false fun r3 r4 r5 => (N25 r2 ([33] : BY) v1 v3 fun r6 r7 r8 => (N25 r2 ([116, 97, 103, 58, 121, 97, 109, 108, 46, 111, 114, 103, 44, 50, 48, 48, 50, 58, 115, 116, 114] : BY) v1 v3 fun r9 r10 r11 => ((cat ([33] : BY) v2).bind fun s12 => ((cat s12 ([120] : BY)).bind fun s13 => (N25 r2 s13 v1 v3 fun r14 r15 r16 => (N25 r2 ([] : BY) v1 true fun r17 r18 r19 => (bif r5 then (bif r8 then (bif r11 then (bif r16 then (bif r19 then (bif ((r3 == ([116, 97, 103, 58, 121, 97, 109, 108, 46, 111, 114, 103, 44, 50, 48, 48, 50, 58, 115, 116, 114] : BY)) && ((r4 == v1) && true)) then (bif ((r6 == ([116, 97, 103, 58, 121, 97, 109, 108, 46, 111, 114, 103, 44, 50, 48, 48, 50, 58, 115, 116, 114] : BY)) && ((r7 == v1) && true)) then (bif ((r9 == ([116, 97, 103, 58, 121, 97, 109, 108, 46, 111, 114, 103, 44, 50, 48, 48, 50, 58, 115, 116, 114] : BY)) && ((r10 == v1) && true)) then ((cat ([33] : BY) v2).bind fun s20 => ((cat s20 ([120] : BY)).bind fun s21 => (bif ((r14 == s21) && ((r15 == v1) && true)) then (N16 r2 v1 fun r22 r23 => (Kt ((r17 == r22) && ((r18 == r23) && true)))) else (Kt false)))) else (Kt false)) else (Kt false)) else (Kt false)) else (Kt false)) else (Kt false)) else (Kt false)) else (Kt false)) else (Kt false))))))))))) := (hC _ _ _).trans (by kernel_rfl)
end
theorem as8 {G : World → Prop} {ng : Nat} (S : Stays Tryz.prog G ng) {N16 : Ty16} {N19 : Ty19} {N22 : Ty22} {N25 : Ty25} (h16 : FnIs Tryz.prog G ng 16 (adp16 N16)) (h19 : FnIs Tryz.prog G ng 19 (adp19 N19)) (h22 : FnIs Tryz.prog G ng 22 (adp22 N22)) (h25 : FnIs Tryz.prog G ng 25 (adp25 N25)) {A : Ty8} (hA : ∀ (a0 : Bool) (a1 : BY) (a2 : BY) (a3 : Bool) (Kt : Tk8) (r : Out), A a0 a1 a2 a3 Kt = some r → run8 cut0 N16 N19 N22 N25 big a0 a1 a2 a3 Kt = some r) : FnIs Tryz.prog G ng 8 (adp8 A) := by
 refine spec_run cut0_eq S (l := gam8 N16 N19 N22 N25) (by intro p hp; simp only [gam8, List.mem_cons, List.not_mem_nil, or_false] at hp; rcases hp with rfl | rfl | rfl | rfl <;> assumption) Tryz.func8 (by kernel_rfl) (nn := 9) (Lv := lvs8) (k := big) fun rc cs K r h => ?_
 unfold adp8 at h
 split at h
 ·exact ⟨_, hA _ _ _ _ _ _ h, fun p hp => by unfold tok8 at hp; split at hp; exact hp; cases hp⟩
 ·cases h
def lvs9 : Nat → Option (List (Nat × Co))
 | 322 => some [(0, .k), (1, .k), (2, .k), (3, .k), (28, .k)]
 | 1000578 => some [(0, .k), (3, .k), (9, .k), (10, .k), (35, .k), (36, .k), (37, .k)]
 | _ => none
section
variable (C : Nat → Env → (Env → Option Out) → Option Out) (N16 : Ty16) (N19 : Ty19) (N22 : Ty22) (N24 : Ty24) (N25 : Ty25)
def gam9 : List (Nat × Fn1) := [(16, adp16 N16), (19, adp19 N19), (22, adp22 N22), (24, adp24 N24), (25, adp25 N25)]
def bod9 : Code := Tryz.f9.body.getD .skip
def run9 (k : Nat) (a0 : Bool) (a1 : BY) (a2 : List Int) (a3 : Int) (Kt : Tk9) : Option Out := runK Tryz.prog (lookG (gam9 N16 N19 N22 N24 N25)) 9 lvs9 C k Tryz.f9 none [.s (.bool a0), .s (.str a1), .ro (.ints .u8 a2), .s (.int .u8 a3)] (tok9 Kt)
def p1_9 (k : Nat) (v0 : Bool) (v1 : BY) (v2 : List Int) (v3 : Int) (v28 : Bool) (Kt : Tk9) : Option Out := C 322 ([.c (.s (.bool v0)), .c (.s (.str v1)), .c (.ro (.ints .u8 v2)), .c (.s (.int .u8 v3))] ++ us 24 ++ [.c (.s (.bool v28))] ++ us 57) fun e => atK Tryz.prog (lookG (gam9 N16 N19 N22 N24 N25)) 9 lvs9 C k bod9 [1, 1, 0, 1] e (fin Tryz.prog Tryz.f9 none (tok9 Kt))
def l2_9 (k j0 : Nat) (v0 : Bool) (v3 v9 : Int) (v10 v35 : List BY) (v36 v37 : Int) (Kt : Tk9) : Option Out := C 1000578 ([.c (.s (.bool v0)), .u, .u, .c (.s (.int .u8 v3)), .u, .u, .u, .u, .u, .c (.s (.int .i64 v9)), .box 44 (.strs v10)] ++ us 24 ++ [.c (.own (.strs v35)), .c (.s (.int .i64 v36)), .c (.s (.int .i64 v37))] ++ us 48) fun e => headK Tryz.prog (lookG (gam9 N16 N19 N22 N24 N25)) 9 lvs9 C k j0 bod9 [1, 1, 1, 1, 1, 0, 1, 0] e (fin Tryz.prog Tryz.f9 none (tok9 Kt))
theorem run9_eq (k : Nat) (a0 : Bool) (a1 : BY) (a2 : List Int) (a3 : Int) (Kt : Tk9) : run9 C N16 N19 N22 N24 N25 k a0 a1 a2 a3 Kt =
 (N22 fun r1 => (bif (!r1) then (Kt false) else (bif (decide ((a1.length : Int) > 60)) then (p1_9 C N16 N19 N22 N24 N25 k a0 a1 a2 a3 true Kt) else (p1_9 C N16 N19 N22 N24 N25 k a0 a1 a2 a3 (decide ((a2.length : Int) > 8)) Kt)))) := by kernel_rfl
theorem p1_9_eq (hC : Cv C) (k : Nat) (v0 : Bool) (v1 : BY) (v2 : List Int) (v3 : Int) (v28 : Bool) (Kt : Tk9) : p1_9 C N16 N19 N22 N24 N25 k v0 v1 v2 v3 v28 Kt =
 (bif v28 then (Kt true) else (N19 v0 fun r2 => (N24 v2 fun r3 => (l2_9 C N16 N19 N22 N24 N25 k k v0 v3 r2 ([[116, 97, 103, 58, 121, 97, 109, 108, 46, 111, 114, 103, 44, 50, 48, 48, 50, 58, 110, 117, 108, 108], [116, 97, 103, 58, 121, 97, 109, 108, 46, 111, 114, 103, 44, 50, 48, 48, 50, 58, 98, 111, 111, 108], [116, 97, 103, 58, 121, 97, 109, 108, 46, 111, 114, 103, 44, 50, 48, 48, 50, 58, 105, 110, 116], [116, 97, 103, 58, 121, 97, 109, 108, 46, 111, 114, 103, 44, 50, 48, 48, 50, 58, 102, 108, 111, 97, 116], [116, 97, 103, 58, 121, 97, 109, 108, 46, 111, 114, 103, 44, 50, 48, 48, 50, 58, 116, 105, 109, 101, 115, 116, 97, 109, 112]] : List (BY)) ([v1, r3] : List (BY)) 2 0 Kt)))) := (hC _ _ _).trans (by kernel_rfl)
theorem l2_9_eq (hC : Cv C) (k j0 : Nat) (v0 : Bool) (v3 v9 : Int) (v10 v35 : List BY) (v36 v37 : Int) (Kt : Tk9) : l2_9 C N16 N19 N22 N24 N25 k (j0 + 1) v0 v3 v9 v10 v35 v36 v37 Kt =
 (bif (decide (v37 < v36)) then (bif (decide (0 ≤ v37) && decide (v37 < (v35.length : Int))) then ((v35[v37.toNat]?).bind fun x4 => (N16 v9 x4 fun r5 r6 => (N25 v9 r5 x4 true fun r7 r8 r9 => (bif (!r9) then (Kt false) else (bif (!((r5 == r7) && ((r6 == r8) && true))) then (Kt false) else (bif (decide (0 ≤ (v3.tmod 5)) && decide ((v3.tmod 5) < 5)) then ((v10[(0 + (v3.tmod 5).toNat)]?).bind fun x10 => (N25 v9 x10 x4 true fun r11 r12 r13 => (bif (!(r13 == (x10 == r5))) then (bif (x10 == ([116, 97, 103, 58, 121, 97, 109, 108, 46, 111, 114, 103, 44, 50, 48, 48, 50, 58, 116, 105, 109, 101, 115, 116, 97, 109, 112] : BY)) then (bif (!(!v0)) then (Kt false) else (l2_9 C N16 N19 N22 N24 N25 k j0 v0 v3 v9 v10 v35 v36 (i64.wrap (v37 + 1)) Kt)) else (Kt false)) else (l2_9 C N16 N19 N22 N24 N25 k j0 v0 v3 v9 v10 v35 v36 (i64.wrap (v37 + 1)) Kt)))) else none)))))) else none) else (Kt true)) := (hC _ _ _).trans (by kernel_rfl)
end
theorem as9 {G : World → Prop} {ng : Nat} (S : Stays Tryz.prog G ng) {N16 : Ty16} {N19 : Ty19} {N22 : Ty22} {N24 : Ty24} {N25 : Ty25} (h16 : FnIs Tryz.prog G ng 16 (adp16 N16)) (h19 : FnIs Tryz.prog G ng 19 (adp19 N19)) (h22 : FnIs Tryz.prog G ng 22 (adp22 N22)) (h24 : FnIs Tryz.prog G ng 24 (adp24 N24)) (h25 : FnIs Tryz.prog G ng 25 (adp25 N25)) {A : Ty9} (hA : ∀ (a0 : Bool) (a1 : BY) (a2 : List Int) (a3 : Int) (Kt : Tk9) (r : Out), A a0 a1 a2 a3 Kt = some r → run9 cut0 N16 N19 N22 N24 N25 big a0 a1 a2 a3 Kt = some r) : FnIs Tryz.prog G ng 9 (adp9 A) := by
 refine FnIs.norm (hd := by rfl) (A := adq9 A) (spec_run cut0_eq S (l := gam9 N16 N19 N22 N24 N25) (by intro p hp; simp only [gam9, List.mem_cons, List.not_mem_nil, or_false] at hp; rcases hp with rfl | rfl | rfl | rfl | rfl <;> assumption) Tryz.func9 (by kernel_rfl) (nn := 9) (Lv := lvs9) (k := big) fun rc cs K r h => ?_)
 unfold adq9 at h
 split at h
 ·exact ⟨_, hA _ _ _ _ _ _ h, fun p hp => by unfold tok9 at hp; split at hp; exact hp; cases hp⟩
 ·cases h
def lvs22 : Nat → Option (List (Nat × Co))
 | _ => none
section
variable (C : Nat → Env → (Env → Option Out) → Option Out) (N25 : Ty25) (N27 : Ty27)
def gam22 : List (Nat × Fn1) := [(25, adp25 N25), (27, adp27 N27)]
def run22 (k : Nat) (Kt : Tk22) : Option Out := runK Tryz.prog (lookG (gam22 N25 N27)) 1 lvs22 C k Tryz.f22 none [] (tok22 Kt)
theorem run22_eq (k : Nat) (Kt : Tk22) : run22 C N25 N27 k Kt =
 (N25 11 ([116, 97, 103, 58, 121, 97, 109, 108, 46, 111, 114, 103, 44, 50, 48, 48, 50, 58, 105, 110, 116] : BY) ([48, 49, 48] : BY) false fun r1 r2 r3 => (N25 12 ([116, 97, 103, 58, 121, 97, 109, 108, 46, 111, 114, 103, 44, 50, 48, 48, 50, 58, 98, 111, 111, 108] : BY) ([121, 101, 115] : BY) true fun r4 r5 r6 => (N25 12 ([33, 120] : BY) ([97] : BY) true fun r7 r8 r9 => (N25 11 ([] : BY) ([121, 101, 115] : BY) false fun r10 r11 r12 => (N25 11 ([116, 97, 103, 58, 121, 97, 109, 108, 46, 111, 114, 103, 44, 50, 48, 48, 50, 58, 115, 101, 116] : BY) ([97] : BY) false fun r13 r14 r15 => (bif r3 then (bif ((r1 == ([116, 97, 103, 58, 121, 97, 109, 108, 46, 111, 114, 103, 44, 50, 48, 48, 50, 58, 105, 110, 116] : BY)) && ((r2 == ([56] : BY)) && true)) then (bif (!r6) then (bif r9 then (bif ((r7 == ([33, 120] : BY)) && ((r8 == ([97] : BY)) && true)) then (bif r12 then (bif ((r10 == ([116, 97, 103, 58, 121, 97, 109, 108, 46, 111, 114, 103, 44, 50, 48, 48, 50, 58, 115, 116, 114] : BY)) && ((r11 == ([121, 101, 115] : BY)) && true)) then (bif (!r15) then (N27 ([116, 97, 103, 58, 121, 97, 109, 108, 46, 111, 114, 103, 44, 50, 48, 48, 50, 58, 98, 105, 110, 97, 114, 121] : BY) fun r16 => (bif r16 then (N27 ([116, 97, 103, 58, 121, 97, 109, 108, 46, 111, 114, 103, 44, 50, 48, 48, 50, 58, 115, 116, 114] : BY) fun r17 => (Kt (!r17))) else (Kt false))) else (Kt false)) else (Kt false)) else (Kt false)) else (Kt false)) else (Kt false)) else (Kt false)) else (Kt false)) else (Kt false))))))) := by kernel_rfl
end
theorem as22 {G : World → Prop} {ng : Nat} (S : Stays Tryz.prog G ng) {N25 : Ty25} {N27 : Ty27} (h25 : FnIs Tryz.prog G ng 25 (adp25 N25)) (h27 : FnIs Tryz.prog G ng 27 (adp27 N27)) {A : Ty22} (hA : ∀ (Kt : Tk22) (r : Out), A Kt = some r → run22 cut0 N25 N27 big Kt = some r) : FnIs Tryz.prog G ng 22 (adp22 A) := by
 refine spec_run cut0_eq S (l := gam22 N25 N27) (by intro p hp; simp only [gam22, List.mem_cons, List.not_mem_nil, or_false] at hp; rcases hp with rfl | rfl <;> assumption) Tryz.func22 (by kernel_rfl) (nn := 1) (Lv := lvs22) (k := big) fun rc cs K r h => ?_
 unfold adp22 at h
 split at h
 ·exact ⟨_, hA _ _ h, fun p hp => by unfold tok22 at hp; split at hp; exact hp; cases hp⟩
 ·cases h
def lvs23 : Nat → Option (List (Nat × Co))
 | _ => none
section
variable (C : Nat → Env → (Env → Option Out) → Option Out)
def gam23 : List (Nat × Fn1) := []
def run23 (k : Nat) (a0 : Int) (Kt : Tk23) : Option Out := runK Tryz.prog (lookG (gam23)) 4 lvs23 C k Tryz.f23 none [.s (.int .u8 a0)] (tok23 Kt)
theorem run23_eq (k : Nat) (a0 : Int) (Kt : Tk23) : run23 C k a0 Kt =
 (bif (decide (0 ≤ (a0.tmod 16)) && decide ((a0.tmod 16) < 16)) then (((((((((((((((((((List.replicate 16 ([] : BY)).set 0 []).set 1 [33]).set 2 [116, 97, 103, 58, 121, 97, 109, 108, 46, 111, 114, 103, 44, 50, 48, 48, 50, 58, 115, 116, 114]).set 3 [116, 97, 103, 58, 121, 97, 109, 108, 46, 111, 114, 103, 44, 50, 48, 48, 50, 58, 110, 117, 108, 108]).set 4 [116, 97, 103, 58, 121, 97, 109, 108, 46, 111, 114, 103, 44, 50, 48, 48, 50, 58, 98, 111, 111, 108]).set 5 [116, 97, 103, 58, 121, 97, 109, 108, 46, 111, 114, 103, 44, 50, 48, 48, 50, 58, 105, 110, 116]).set 6 [116, 97, 103, 58, 121, 97, 109, 108, 46, 111, 114, 103, 44, 50, 48, 48, 50, 58, 102, 108, 111, 97, 116]).set 7 [116, 97, 103, 58, 121, 97, 109, 108, 46, 111, 114, 103, 44, 50, 48, 48, 50, 58, 116, 105, 109, 101, 115, 116, 97, 109, 112]).set 8 [116, 97, 103, 58, 121, 97, 109, 108, 46, 111, 114, 103, 44, 50, 48, 48, 50, 58, 98, 105, 110, 97, 114, 121]).set 9 [116, 97, 103, 58, 121, 97, 109, 108, 46, 111, 114, 103, 44, 50, 48, 48, 50, 58, 109, 97, 112]).set 10 [116, 97, 103, 58, 121, 97, 109, 108, 46, 111, 114, 103, 44, 50, 48, 48, 50, 58, 115, 101, 113]).set 11 [116, 97, 103, 58, 121, 97, 109, 108, 46, 111, 114, 103, 44, 50, 48, 48, 50, 58, 115, 101, 116]).set 12 [116, 97, 103, 58, 121, 97, 109, 108, 46, 111, 114, 103, 44, 50, 48, 48, 50, 58, 111, 109, 97, 112]).set 13 [116, 97, 103, 58, 121, 97, 109, 108, 46, 111, 114, 103, 44, 50, 48, 48, 50, 58, 112, 97, 105, 114, 115]).set 14 [33, 120]).set 15 [116, 97, 103, 58, 121, 97, 109, 108, 46, 111, 114, 103, 44, 50, 48, 48, 50, 58, 118, 97, 108, 117, 101])[(0 + (a0.tmod 16).toNat)]?).bind fun x1 => (Kt x1)) else none) := by kernel_rfl
end
theorem as23 {G : World → Prop} {ng : Nat} (S : Stays Tryz.prog G ng) {A : Ty23} (hA : ∀ (a0 : Int) (Kt : Tk23) (r : Out), A a0 Kt = some r → run23 cut0 big a0 Kt = some r) : FnIs Tryz.prog G ng 23 (adp23 A) := by
 refine spec_run cut0_eq S (l := gam23) (by intro p hp; cases hp) Tryz.func23 (by kernel_rfl) (nn := 4) (Lv := lvs23) (k := big) fun rc cs K r h => ?_
 unfold adp23 at h
 split at h
 ·exact ⟨_, hA _ _ _ h, fun p hp => by unfold tok23 at hp; split at hp; exact hp; cases hp⟩
 ·cases h
def lvs24 : Nat → Option (List (Nat × Co))
 | 1000323 => some [(0, .k), (3, .k), (4, .k), (5, .k)]
 | _ => none
section
variable (C : Nat → Env → (Env → Option Out) → Option Out)
def gam24 : List (Nat × Fn1) := []
def bod24 : Code := Tryz.f24.body.getD .skip
def run24 (k : Nat) (a0 : List Int) (Kt : Tk24) : Option Out := runK Tryz.prog (lookG (gam24)) 6 lvs24 C k Tryz.f24 none [.ro (.ints .u8 a0)] (tok24 Kt)
def l1_24 (k j0 : Nat) (v0 : List Int) (v3 : List BY) (v4 : BY) (v5 : Int) (Kt : Tk24) : Option Out := C 1000323 ([.c (.ro (.ints .u8 v0)), .u, .u, .box 64 (.strs v3), .c (.s (.str v4)), .c (.s (.int .i64 v5))] ++ us 17) fun e => headK Tryz.prog (lookG (gam24)) 6 lvs24 C k j0 bod24 [1, 1, 1, 0, 1, 0] e (fin Tryz.prog Tryz.f24 none (tok24 Kt))
theorem run24_eq (k : Nat) (a0 : List Int) (Kt : Tk24) : run24 C k a0 Kt =
 (l1_24 C k k a0 (((((((((((((((((((((((((List.replicate 24 ([] : BY)).set 0 [121, 101, 115]).set 1 [110, 111]).set 2 [48]).set 3 [49]).set 4 [56]).set 5 [48, 120]).set 6 [48, 111]).set 7 [48, 98]).set 8 [95]).set 9 [58]).set 10 [46]).set 11 [101]).set 12 [69]).set 13 [43]).set 14 [45]).set 15 [105, 110, 102]).set 16 [110, 97, 110]).set 17 [50, 48, 48, 49, 45, 48, 49, 45, 48, 49]).set 18 [32]).set 19 [84]).set 20 [116, 114, 117, 101]).set 21 [126]).set 22 [65, 81, 61, 61]).set 23 [120]) ([] : BY) 0 Kt) := by kernel_rfl
theorem l1_24_eq (hC : Cv C) (k j0 : Nat) (v0 : List Int) (v3 : List BY) (v4 : BY) (v5 : Int) (Kt : Tk24) : l1_24 C k (j0 + 1) v0 v3 v4 v5 Kt =
 (bif (decide (v5 < (v0.length : Int))) then (bif (decide (0 ≤ v5) && decide (v5 < (v0.length : Int))) then ((v0[v5.toNat]?).bind fun x1 => (bif (decide (0 ≤ (x1.tmod 24)) && decide ((x1.tmod 24) < 24)) then ((v3[(0 + (x1.tmod 24).toNat)]?).bind fun x2 => ((cat v4 x2).bind fun s3 => (l1_24 C k j0 v0 v3 s3 (i64.wrap (v5 + 1)) Kt))) else none)) else none) else (Kt v4)) := (hC _ _ _).trans (by kernel_rfl)
end
theorem as24 {G : World → Prop} {ng : Nat} (S : Stays Tryz.prog G ng) {A : Ty24} (hA : ∀ (a0 : List Int) (Kt : Tk24) (r : Out), A a0 Kt = some r → run24 cut0 big a0 Kt = some r) : FnIs Tryz.prog G ng 24 (adp24 A) := by
 refine FnIs.norm (hd := by rfl) (A := adq24 A) (spec_run cut0_eq S (l := gam24) (by intro p hp; cases hp) Tryz.func24 (by kernel_rfl) (nn := 6) (Lv := lvs24) (k := big) fun rc cs K r h => ?_)
 unfold adq24 at h
 split at h
 ·exact ⟨_, hA _ _ _ h, fun p hp => by unfold tok24 at hp; split at hp; exact hp; cases hp⟩
 ·cases h
def lvs25 : Nat → Option (List (Nat × Co))
 | 832 => some [(2, .k), (8, .k)]
 | 898 => some [(1, .k), (2, .k), (8, .k)]
 | 1026 => some [(0, .k), (1, .k), (2, .k), (8, .k)]
 | 1345 => some [(1, .k), (2, .k), (8, .k)]
 | 5000321 => some [(0, .k), (1, .k), (2, .k), (8, .k), (19, .k)]
 | _ => none
section
variable (C : Nat → Env → (Env → Option Out) → Option Out) (N16 : Ty16) (N27 : Ty27) (N43 : Ty43) (N46 : Ty46)
def gam25 : List (Nat × Fn1) := [(16, adp16 N16), (27, adp27 N27), (43, adp43 N43), (46, adp46 N46)]
def bod25 : Code := Tryz.f25.body.getD .skip
def run25 (k : Nat) (a0 : Int) (a1 a2 : BY) (a3 : Bool) (Kt : Tk25) : Option Out := runK Tryz.prog (lookG (gam25 N16 N27 N43 N46)) 12 lvs25 C k Tryz.f25 none [.s (.int .i64 a0), .s (.str a1), .s (.str a2), .s (.bool a3)] (tok25 Kt)
def p1_25 (k : Nat) (v2 v8_0 v8_1 : BY) (Kt : Tk25) : Option Out := C 832 ([.u, .u, .c (.s (.str v2)), .u, .u, .u, .u, .u, .box 27 (.ss [.str v8_0, .str v8_1])] ++ us 43) fun e => atK Tryz.prog (lookG (gam25 N16 N27 N43 N46)) 12 lvs25 C k bod25 [1, 0, 1, 0, 0, 0, 0, 0, 1] e (fin Tryz.prog Tryz.f25 none (tok25 Kt))
def p2_25 (k : Nat) (v1 v2 v8_0 v8_1 : BY) (Kt : Tk25) : Option Out := C 898 ([.u, .c (.s (.str v1)), .c (.s (.str v2)), .u, .u, .u, .u, .u, .box 27 (.ss [.str v8_0, .str v8_1])] ++ us 43) fun e => atK Tryz.prog (lookG (gam25 N16 N27 N43 N46)) 12 lvs25 C k bod25 [1, 0, 1, 0, 0, 0, 1] e (fin Tryz.prog Tryz.f25 none (tok25 Kt))
def p3_25 (k : Nat) (v0 : Int) (v1 v2 v8_0 v8_1 : BY) (v19 : Bool) (Kt : Tk25) : Option Out := C 5000321 ([.c (.s (.int .i64 v0)), .c (.s (.str v1)), .c (.s (.str v2)), .u, .u, .u, .u, .u, .box 27 (.ss [.str v8_0, .str v8_1])] ++ us 10 ++ [.c (.s (.bool v19))] ++ us 32) fun e => atK Tryz.prog (lookG (gam25 N16 N27 N43 N46)) 12 lvs25 C k bod25 [1, 0, 1, 0, 0, 0, 0, 0, 0, 0, 0, 0, 0, 1, 1, 1, 1] e (fin Tryz.prog Tryz.f25 none (tok25 Kt))
def p4_25 (k : Nat) (v0 : Int) (v1 v2 v8_0 v8_1 : BY) (Kt : Tk25) : Option Out := C 1026 ([.c (.s (.int .i64 v0)), .c (.s (.str v1)), .c (.s (.str v2)), .u, .u, .u, .u, .u, .box 27 (.ss [.str v8_0, .str v8_1])] ++ us 43) fun e => atK Tryz.prog (lookG (gam25 N16 N27 N43 N46)) 12 lvs25 C k bod25 [1, 1] e (fin Tryz.prog Tryz.f25 none (tok25 Kt))
def p5_25 (k : Nat) (v1 v2 v8_0 v8_1 : BY) (Kt : Tk25) : Option Out := C 1345 ([.u, .c (.s (.str v1)), .c (.s (.str v2)), .u, .u, .u, .u, .u, .box 27 (.ss [.str v8_0, .str v8_1])] ++ us 43) fun e => atK Tryz.prog (lookG (gam25 N16 N27 N43 N46)) 12 lvs25 C k bod25 [1, 1, 1] e (fin Tryz.prog Tryz.f25 none (tok25 Kt))
theorem run25_eq (k : Nat) (a0 : Int) (a1 a2 : BY) (a3 : Bool) (Kt : Tk25) : run25 C N16 N27 N43 N46 k a0 a1 a2 a3 Kt =
 (bif (a1 == ([] : BY)) then (bif a3 then (N16 a0 a2 fun r1 r2 => (Kt r1 r2 true)) else (p1_25 C N16 N27 N43 N46 k a2 ([] : BY) ([] : BY) Kt)) else (bif (a1 == ([33] : BY)) then (p1_25 C N16 N27 N43 N46 k a2 ([] : BY) ([] : BY) Kt) else (bif (a1 == ([116, 97, 103, 58, 121, 97, 109, 108, 46, 111, 114, 103, 44, 50, 48, 48, 50, 58, 115, 116, 114] : BY)) then (p2_25 C N16 N27 N43 N46 k a1 a2 ([] : BY) ([] : BY) Kt) else (bif (a1 == ([116, 97, 103, 58, 121, 97, 109, 108, 46, 111, 114, 103, 44, 50, 48, 48, 50, 58, 109, 97, 112] : BY)) then (p3_25 C N16 N27 N43 N46 k a0 a1 a2 ([] : BY) ([] : BY) (a1 == ([116, 97, 103, 58, 121, 97, 109, 108, 46, 111, 114, 103, 44, 50, 48, 48, 50, 58, 109, 97, 112] : BY)) Kt) else (bif (a1 == ([116, 97, 103, 58, 121, 97, 109, 108, 46, 111, 114, 103, 44, 50, 48, 48, 50, 58, 115, 101, 113] : BY)) then (p3_25 C N16 N27 N43 N46 k a0 a1 a2 ([] : BY) ([] : BY) (a1 == ([116, 97, 103, 58, 121, 97, 109, 108, 46, 111, 114, 103, 44, 50, 48, 48, 50, 58, 115, 101, 113] : BY)) Kt) else (bif (a1 == ([116, 97, 103, 58, 121, 97, 109, 108, 46, 111, 114, 103, 44, 50, 48, 48, 50, 58, 115, 101, 116] : BY)) then (p3_25 C N16 N27 N43 N46 k a0 a1 a2 ([] : BY) ([] : BY) (a1 == ([116, 97, 103, 58, 121, 97, 109, 108, 46, 111, 114, 103, 44, 50, 48, 48, 50, 58, 115, 101, 116] : BY)) Kt) else (bif (a1 == ([116, 97, 103, 58, 121, 97, 109, 108, 46, 111, 114, 103, 44, 50, 48, 48, 50, 58, 111, 109, 97, 112] : BY)) then (p3_25 C N16 N27 N43 N46 k a0 a1 a2 ([] : BY) ([] : BY) (a1 == ([116, 97, 103, 58, 121, 97, 109, 108, 46, 111, 114, 103, 44, 50, 48, 48, 50, 58, 111, 109, 97, 112] : BY)) Kt) else (p3_25 C N16 N27 N43 N46 k a0 a1 a2 ([] : BY) ([] : BY) (a1 == ([116, 97, 103, 58, 121, 97, 109, 108, 46, 111, 114, 103, 44, 50, 48, 48, 50, 58, 112, 97, 105, 114, 115] : BY)) Kt)))))))) := by kernel_rfl
theorem p1_25_eq (hC : Cv C) (k : Nat) (v2 v8_0 v8_1 : BY) (Kt : Tk25) : p1_25 C N16 N27 N43 N46 k v2 v8_0 v8_1 Kt =
 (p2_25 C N16 N27 N43 N46 k ([116, 97, 103, 58, 121, 97, 109, 108, 46, 111, 114, 103, 44, 50, 48, 48, 50, 58, 115, 116, 114] : BY) v2 v8_0 v8_1 Kt) := (hC _ _ _).trans (by kernel_rfl)
theorem p2_25_eq (hC : Cv C) (k : Nat) (v1 v2 v8_0 v8_1 : BY) (Kt : Tk25) : p2_25 C N16 N27 N43 N46 k v1 v2 v8_0 v8_1 Kt =
 (N43 v2 fun r3 => (Kt v1 r3 true)) := (hC _ _ _).trans (by kernel_rfl)
theorem p3_25_eq (hC : Cv C) (k : Nat) (v0 : Int) (v1 v2 v8_0 v8_1 : BY) (v19 : Bool) (Kt : Tk25) : p3_25 C N16 N27 N43 N46 k v0 v1 v2 v8_0 v8_1 v19 Kt =
 (bif v19 then (Kt ([] : BY) ([] : BY) false) else (p4_25 C N16 N27 N43 N46 k v0 v1 v2 v8_0 v8_1 Kt)) := (hC _ _ _).trans (by kernel_rfl)
theorem p4_25_eq (hC : Cv C) (k : Nat) (v0 : Int) (v1 v2 v8_0 v8_1 : BY) (Kt : Tk25) : p4_25 C N16 N27 N43 N46 k v0 v1 v2 v8_0 v8_1 Kt =
 (N27 v1 fun r4 => (bif r4 then (N46 v0 v1 v2 fun r5 r6 => (bif (!r6) then (Kt ([] : BY) ([] : BY) false) else (p5_25 C N16 N27 N43 N46 k v1 r5 v8_0 v8_1 Kt))) else (p5_25 C N16 N27 N43 N46 k v1 v2 v8_0 v8_1 Kt))) := (hC _ _ _).trans (by kernel_rfl)
theorem p5_25_eq (hC : Cv C) (k : Nat) (v1 v2 v8_0 v8_1 : BY) (Kt : Tk25) : p5_25 C N16 N27 N43 N46 k v1 v2 v8_0 v8_1 Kt =
 (N43 v1 fun r7 => (N43 v2 fun r8 => (Kt r7 r8 true))) := (hC _ _ _).trans (by kernel_rfl)
end
theorem as25 {G : World → Prop} {ng : Nat} (S : Stays Tryz.prog G ng) {N16 : Ty16} {N27 : Ty27} {N43 : Ty43} {N46 : Ty46} (h16 : FnIs Tryz.prog G ng 16 (adp16 N16)) (h27 : FnIs Tryz.prog G ng 27 (adp27 N27)) (h43 : FnIs Tryz.prog G ng 43 (adp43 N43)) (h46 : FnIs Tryz.prog G ng 46 (adp46 N46)) {A : Ty25} (hA : ∀ (a0 : Int) (a1 : BY) (a2 : BY) (a3 : Bool) (Kt : Tk25) (r : Out), A a0 a1 a2 a3 Kt = some r → run25 cut0 N16 N27 N43 N46 big a0 a1 a2 a3 Kt = some r) : FnIs Tryz.prog G ng 25 (adp25 A) := by
 refine spec_run cut0_eq S (l := gam25 N16 N27 N43 N46) (by intro p hp; simp only [gam25, List.mem_cons, List.not_mem_nil, or_false] at hp; rcases hp with rfl | rfl | rfl | rfl <;> assumption) Tryz.func25 (by kernel_rfl) (nn := 12) (Lv := lvs25) (k := big) fun rc cs K r h => ?_
 unfold adp25 at h
 split at h
 ·exact ⟨_, hA _ _ _ _ _ _ h, fun p hp => by unfold tok25 at hp; split at hp; exact hp; cases hp⟩
 ·cases h
section
variable (C : Nat → Env → (Env → Option Out) → Option Out) (N17 : Ty17) (N28 : Ty28) (N45 : Ty45)
end
def lvs27 : Nat → Option (List (Nat × Co))
 | 578 => some [(4, .k)]
 | _ => none
section
variable (C : Nat → Env → (Env → Option Out) → Option Out)
def gam27 : List (Nat × Fn1) := []
def bod27 : Code := Tryz.f27.body.getD .skip
def run27 (k : Nat) (a0 : BY) (Kt : Tk27) : Option Out := runK Tryz.prog (lookG (gam27)) 3 lvs27 C k Tryz.f27 none [.s (.str a0)] (tok27 Kt)
def p1_27 (k : Nat) (v4 : Bool) (Kt : Tk27) : Option Out := C 578 ([.u, .u, .u, .u, .c (.s (.bool v4))] ++ us 6) fun e => atK Tryz.prog (lookG (gam27)) 3 lvs27 C k bod27 [1, 0, 1, 0, 1] e (fin Tryz.prog Tryz.f27 none (tok27 Kt))
theorem run27_eq (k : Nat) (a0 : BY) (Kt : Tk27) : run27 C k a0 Kt =
 (bif (a0 == ([116, 97, 103, 58, 121, 97, 109, 108, 46, 111, 114, 103, 44, 50, 48, 48, 50, 58, 110, 117, 108, 108] : BY)) then (p1_27 C k (a0 == ([116, 97, 103, 58, 121, 97, 109, 108, 46, 111, 114, 103, 44, 50, 48, 48, 50, 58, 110, 117, 108, 108] : BY)) Kt) else (bif (a0 == ([116, 97, 103, 58, 121, 97, 109, 108, 46, 111, 114, 103, 44, 50, 48, 48, 50, 58, 98, 111, 111, 108] : BY)) then (p1_27 C k (a0 == ([116, 97, 103, 58, 121, 97, 109, 108, 46, 111, 114, 103, 44, 50, 48, 48, 50, 58, 98, 111, 111, 108] : BY)) Kt) else (bif (a0 == ([116, 97, 103, 58, 121, 97, 109, 108, 46, 111, 114, 103, 44, 50, 48, 48, 50, 58, 105, 110, 116] : BY)) then (p1_27 C k (a0 == ([116, 97, 103, 58, 121, 97, 109, 108, 46, 111, 114, 103, 44, 50, 48, 48, 50, 58, 105, 110, 116] : BY)) Kt) else (bif (a0 == ([116, 97, 103, 58, 121, 97, 109, 108, 46, 111, 114, 103, 44, 50, 48, 48, 50, 58, 102, 108, 111, 97, 116] : BY)) then (p1_27 C k (a0 == ([116, 97, 103, 58, 121, 97, 109, 108, 46, 111, 114, 103, 44, 50, 48, 48, 50, 58, 102, 108, 111, 97, 116] : BY)) Kt) else (bif (a0 == ([116, 97, 103, 58, 121, 97, 109, 108, 46, 111, 114, 103, 44, 50, 48, 48, 50, 58, 116, 105, 109, 101, 115, 116, 97, 109, 112] : BY)) then (p1_27 C k (a0 == ([116, 97, 103, 58, 121, 97, 109, 108, 46, 111, 114, 103, 44, 50, 48, 48, 50, 58, 116, 105, 109, 101, 115, 116, 97, 109, 112] : BY)) Kt) else (p1_27 C k (a0 == ([116, 97, 103, 58, 121, 97, 109, 108, 46, 111, 114, 103, 44, 50, 48, 48, 50, 58, 98, 105, 110, 97, 114, 121] : BY)) Kt)))))) := by kernel_rfl
theorem p1_27_eq (hC : Cv C) (k : Nat) (v4 : Bool) (Kt : Tk27) : p1_27 C k v4 Kt =
 (bif v4 then (Kt true) else (Kt false)) := (hC _ _ _).trans (by kernel_rfl)
end
theorem as27 {G : World → Prop} {ng : Nat} (S : Stays Tryz.prog G ng) {A : Ty27} (hA : ∀ (a0 : BY) (Kt : Tk27) (r : Out), A a0 Kt = some r → run27 cut0 big a0 Kt = some r) : FnIs Tryz.prog G ng 27 (adp27 A) := by
 refine spec_run cut0_eq S (l := gam27) (by intro p hp; cases hp) Tryz.func27 (by kernel_rfl) (nn := 3) (Lv := lvs27) (k := big) fun rc cs K r h => ?_
 unfold adp27 at h
 split at h
 ·exact ⟨_, hA _ _ _ h, fun p hp => by unfold tok27 at hp; split at hp; exact hp; cases hp⟩
 ·cases h
section
variable (C : Nat → Env → (Env → Option Out) → Option Out)
end
def lvs46 : Nat → Option (List (Nat × Co))
 | _ => none
section
variable (C : Nat → Env → (Env → Option Out) → Option Out) (N42 : Ty42) (N62 : Ty62) (N64 : Ty64) (N67 : Ty67) (N78 : Ty78) (N79 : Ty79) (N80 : Ty80)
def gam46 : List (Nat × Fn1) := [(42, adp42 N42), (62, adp62 N62), (64, adp64 N64), (67, adp67 N67), (78, adp78 N78), (79, adp79 N79), (80, adp80 N80)]
def run46 (k : Nat) (a0 : Int) (a1 a2 : BY) (Kt : Tk46) : Option Out := runK Tryz.prog (lookG (gam46 N42 N62 N64 N67 N78 N79 N80)) 8 lvs46 C k Tryz.f46 none [.s (.int .i64 a0), .s (.str a1), .s (.str a2)] (tok46 Kt)
theorem run46_eq (k : Nat) (a0 : Int) (a1 a2 : BY) (Kt : Tk46) : run46 C N42 N62 N64 N67 N78 N79 N80 k a0 a1 a2 Kt =
 (bif (a1 == ([116, 97, 103, 58, 121, 97, 109, 108, 46, 111, 114, 103, 44, 50, 48, 48, 50, 58, 110, 117, 108, 108] : BY)) then (N42 a2 fun r1 => (Kt ([] : BY) r1)) else (bif (a1 == ([116, 97, 103, 58, 121, 97, 109, 108, 46, 111, 114, 103, 44, 50, 48, 48, 50, 58, 98, 111, 111, 108] : BY)) then (N78 a0 a2 fun r2 r3 => (Kt r2 r3)) else (bif (a1 == ([116, 97, 103, 58, 121, 97, 109, 108, 46, 111, 114, 103, 44, 50, 48, 48, 50, 58, 102, 108, 111, 97, 116] : BY)) then (N79 a0 a2 fun r4 r5 => (Kt r4 r5)) else (bif (a1 == ([116, 97, 103, 58, 121, 97, 109, 108, 46, 111, 114, 103, 44, 50, 48, 48, 50, 58, 116, 105, 109, 101, 115, 116, 97, 109, 112] : BY)) then (N67 a2 fun r6 r7 => (Kt r6 r7)) else (bif (a1 == ([116, 97, 103, 58, 121, 97, 109, 108, 46, 111, 114, 103, 44, 50, 48, 48, 50, 58, 98, 105, 110, 97, 114, 121] : BY)) then (N80 a2 fun r8 r9 => (Kt r8 r9)) else (bif (a0 == 11) then (N64 a2 fun r10 r11 => (Kt r10 r11)) else (N62 a2 fun r12 r13 => (Kt r12 r13)))))))) := by kernel_rfl
end
theorem as46 {G : World → Prop} {ng : Nat} (S : Stays Tryz.prog G ng) {N42 : Ty42} {N62 : Ty62} {N64 : Ty64} {N67 : Ty67} {N78 : Ty78} {N79 : Ty79} {N80 : Ty80} (h42 : FnIs Tryz.prog G ng 42 (adp42 N42)) (h62 : FnIs Tryz.prog G ng 62 (adp62 N62)) (h64 : FnIs Tryz.prog G ng 64 (adp64 N64)) (h67 : FnIs Tryz.prog G ng 67 (adp67 N67)) (h78 : FnIs Tryz.prog G ng 78 (adp78 N78)) (h79 : FnIs Tryz.prog G ng 79 (adp79 N79)) (h80 : FnIs Tryz.prog G ng 80 (adp80 N80)) {A : Ty46} (hA : ∀ (a0 : Int) (a1 : BY) (a2 : BY) (Kt : Tk46) (r : Out), A a0 a1 a2 Kt = some r → run46 cut0 N42 N62 N64 N67 N78 N79 N80 big a0 a1 a2 Kt = some r) : FnIs Tryz.prog G ng 46 (adp46 A) := by
 refine spec_run cut0_eq S (l := gam46 N42 N62 N64 N67 N78 N79 N80) (by intro p hp; simp only [gam46, List.mem_cons, List.not_mem_nil, or_false] at hp; rcases hp with rfl | rfl | rfl | rfl | rfl | rfl | rfl <;> assumption) Tryz.func46 (by kernel_rfl) (nn := 8) (Lv := lvs46) (k := big) fun rc cs K r h => ?_
 unfold adp46 at h
 split at h
 ·exact ⟨_, hA _ _ _ _ _ h, fun p hp => by unfold tok46 at hp; split at hp; exact hp; cases hp⟩
 ·cases h
end
end Go.Proofs.YtffmgholjdfcnaaGreatDoor
set_option maxRecDepth 100000
set_option linter.unusedVariables false
namespace Go.Proofs.YtffmgholjdfcnaaGreatDoor
open Go Go.Proofs AM
open Go.IntKind (i64 u8)
noncomputable section
def lvs78 : Nat → Option (List (Nat × Co))
 | _ => none
section
variable (C : Nat → Env → (Env → Option Out) → Option Out) (N40 : Ty40) (N130 : Ty130)
def gam78 : List (Nat × Fn1) := [(40, adp40 N40), (130, adp130 N130)]
def run78 (k : Nat) (a0 : Int) (a1 : BY) (Kt : Tk78) : Option Out := runK Tryz.prog (lookG (gam78 N40 N130)) 8 lvs78 C k Tryz.f78 none [.s (.int .i64 a0), .s (.str a1)] (tok78 Kt)
theorem run78_eq (k : Nat) (a0 : Int) (a1 : BY) (Kt : Tk78) : run78 C N40 N130 k a0 a1 Kt =
 (N40 a0 a1 fun r1 r2 => (bif (!r2) then (Kt ([] : BY) false) else (N130 r1 fun r3 => (Kt r3 true)))) := by kernel_rfl
end
theorem as78 {G : World → Prop} {ng : Nat} (S : Stays Tryz.prog G ng) {N40 : Ty40} {N130 : Ty130} (h40 : FnIs Tryz.prog G ng 40 (adp40 N40)) (h130 : FnIs Tryz.prog G ng 130 (adp130 N130)) {A : Ty78} (hA : ∀ (a0 : Int) (a1 : BY) (Kt : Tk78) (r : Out), A a0 a1 Kt = some r → run78 cut0 N40 N130 big a0 a1 Kt = some r) : FnIs Tryz.prog G ng 78 (adp78 A) := by
 refine spec_run cut0_eq S (l := gam78 N40 N130) (by intro p hp; simp only [gam78, List.mem_cons, List.not_mem_nil, or_false] at hp; rcases hp with rfl | rfl <;> assumption) Tryz.func78 (by kernel_rfl) (nn := 8) (Lv := lvs78) (k := big) fun rc cs K r h => ?_
 unfold adp78 at h
 split at h
 ·exact ⟨_, hA _ _ _ _ h, fun p hp => by unfold tok78 at hp; split at hp; exact hp; cases hp⟩
 ·cases h
def lvs79 : Nat → Option (List (Nat × Co))
 | _ => none
section
variable (C : Nat → Env → (Env → Option Out) → Option Out) (N63 : Ty63) (N65 : Ty65) (N66 : Ty66)
def gam79 : List (Nat × Fn1) := [(63, adp63 N63), (65, adp65 N65), (66, adp66 N66)]
def run79 (k : Nat) (a0 : Int) (a1 : BY) (Kt : Tk79) : Option Out := runK Tryz.prog (lookG (gam79 N63 N65 N66)) 9 lvs79 C k Tryz.f79 none [.s (.int .i64 a0), .s (.str a1)] (tok79 Kt)
theorem run79_eq (k : Nat) (a0 : Int) (a1 : BY) (Kt : Tk79) : run79 C N63 N65 N66 k a0 a1 Kt =
 (bif (a0 == 11) then (N65 a1 fun r1 r2 r3 r4 r5 => (N66 r1 r2 r3 r4 fun r6 => (Kt r6 r5))) else (N63 a1 fun r7 r8 r9 r10 r11 => (N66 r7 r8 r9 r10 fun r12 => (Kt r12 r11)))) := by kernel_rfl
end
theorem as79 {G : World → Prop} {ng : Nat} (S : Stays Tryz.prog G ng) {N63 : Ty63} {N65 : Ty65} {N66 : Ty66} (h63 : FnIs Tryz.prog G ng 63 (adp63 N63)) (h65 : FnIs Tryz.prog G ng 65 (adp65 N65)) (h66 : FnIs Tryz.prog G ng 66 (adp66 N66)) {A : Ty79} (hA : ∀ (a0 : Int) (a1 : BY) (Kt : Tk79) (r : Out), A a0 a1 Kt = some r → run79 cut0 N63 N65 N66 big a0 a1 Kt = some r) : FnIs Tryz.prog G ng 79 (adp79 A) := by
 refine spec_run cut0_eq S (l := gam79 N63 N65 N66) (by intro p hp; simp only [gam79, List.mem_cons, List.not_mem_nil, or_false] at hp; rcases hp with rfl | rfl | rfl <;> assumption) Tryz.func79 (by kernel_rfl) (nn := 9) (Lv := lvs79) (k := big) fun rc cs K r h => ?_
 unfold adp79 at h
 split at h
 ·exact ⟨_, hA _ _ _ _ h, fun p hp => by unfold tok79 at hp; split at hp; exact hp; cases hp⟩
 ·cases h
def lvs80 : Nat → Option (List (Nat × Co))
 | _ => none
section
variable (C : Nat → Env → (Env → Option Out) → Option Out) (N131 : Ty131) (N132 : Ty132)
def gam80 : List (Nat × Fn1) := [(131, adp131 N131), (132, adp132 N132)]
def run80 (k : Nat) (a0 : BY) (Kt : Tk80) : Option Out := runK Tryz.prog (lookG (gam80 N131 N132)) 6 lvs80 C k Tryz.f80 none [.s (.str a0)] (tok80 Kt)
theorem run80_eq (k : Nat) (a0 : BY) (Kt : Tk80) : run80 C N131 N132 k a0 Kt =
 (N131 a0 fun r1 r2 => (N132 r1 fun r3 => (Kt r3 r2))) := by kernel_rfl
end
theorem as80 {G : World → Prop} {ng : Nat} (S : Stays Tryz.prog G ng) {N131 : Ty131} {N132 : Ty132} (h131 : FnIs Tryz.prog G ng 131 (adp131 N131)) (h132 : FnIs Tryz.prog G ng 132 (adp132 N132)) {A : Ty80} (hA : ∀ (a0 : BY) (Kt : Tk80) (r : Out), A a0 Kt = some r → run80 cut0 N131 N132 big a0 Kt = some r) : FnIs Tryz.prog G ng 80 (adp80 A) := by
 refine spec_run cut0_eq S (l := gam80 N131 N132) (by intro p hp; simp only [gam80, List.mem_cons, List.not_mem_nil, or_false] at hp; rcases hp with rfl | rfl <;> assumption) Tryz.func80 (by kernel_rfl) (nn := 6) (Lv := lvs80) (k := big) fun rc cs K r h => ?_
 unfold adp80 at h
 split at h
 ·exact ⟨_, hA _ _ _ h, fun p hp => by unfold tok80 at hp; split at hp; exact hp; cases hp⟩
 ·cases h
section
variable (C : Nat → Env → (Env → Option Out) → Option Out) (N128 : Ty128) (N129 : Ty129)
end
section
variable (C : Nat → Env → (Env → Option Out) → Option Out)
end
def lvs130 : Nat → Option (List (Nat × Co))
 | _ => none
section
variable (C : Nat → Env → (Env → Option Out) → Option Out) (N183 : Ty183)
def gam130 : List (Nat × Fn1) := [(183, adp183 N183)]
def run130 (k : Nat) (a0 : Bool) (Kt : Tk130) : Option Out := runK Tryz.prog (lookG (gam130 N183)) 3 lvs130 C k Tryz.f130 none [.s (.bool a0)] (tok130 Kt)
theorem run130_eq (k : Nat) (a0 : Bool) (Kt : Tk130) : run130 C N183 k a0 Kt =
 (N183 a0 fun r1 => (Kt r1)) := by kernel_rfl
end
theorem as130 {G : World → Prop} {ng : Nat} (S : Stays Tryz.prog G ng) {N183 : Ty183} (h183 : FnIs Tryz.prog G ng 183 (adp183 N183)) {A : Ty130} (hA : ∀ (a0 : Bool) (Kt : Tk130) (r : Out), A a0 Kt = some r → run130 cut0 N183 big a0 Kt = some r) : FnIs Tryz.prog G ng 130 (adp130 A) := by
 refine spec_run cut0_eq S (l := gam130 N183) (by intro p hp; simp only [gam130, List.mem_cons, List.not_mem_nil, or_false] at hp; rcases hp with rfl <;> assumption) Tryz.func130 (by kernel_rfl) (nn := 3) (Lv := lvs130) (k := big) fun rc cs K r h => ?_
 unfold adp130 at h
 split at h
 ·exact ⟨_, hA _ _ _ h, fun p hp => by unfold tok130 at hp; split at hp; exact hp; cases hp⟩
 ·cases h
def lvs131 : Nat → Option (List (Nat × Co))
 | 1152 => some [(0, .k), (4, .k), (5, .k), (6, .o (.ints .u8 [])), (7, .k), (8, .k), (17, .k), (18, .k)]
 | 1000514 => some [(0, .k), (4, .k), (5, .k), (6, .o (.ints .u8 [])), (7, .k), (8, .k), (17, .k), (18, .k)]
 | _ => none
section
variable (C : Nat → Env → (Env → Option Out) → Option Out) (N132 : Ty132) (N151 : Ty151) (N184 : Ty184) (N185 : Ty185)
def gam131 : List (Nat × Fn1) := [(132, adp132 N132), (151, adp151 N151), (184, adp184 N184), (185, adp185 N185)]
def bod131 : Code := Tryz.f131.body.getD .skip
def run131 (k : Nat) (a0 : BY) (Kt : Tk131) : Option Out := runK Tryz.prog (lookG (gam131 N132 N151 N184 N185)) 11 lvs131 C k Tryz.f131 none [.s (.str a0)] (tok131 Kt)
def l1_131 (k j0 : Nat) (v0 : BY) (v4 : List Int) (v5 : BY) (v6 : List Int) (v7 v8 v17 v18 : Int) (Kt : Tk131) : Option Out := C 1000514 ([.c (.s (.str v0)), .u, .u, .u, .box 170 (.ints .u8 v4), .c (.s (.str v5)), .c (.own (.ints .u8 v6)), .c (.s (.int .i64 v7)), .c (.s (.int .i64 v8))] ++ us 8 ++ [.c (.s (.int .i64 v17)), .c (.s (.int .i64 v18))] ++ us 34) fun e => headK Tryz.prog (lookG (gam131 N132 N151 N184 N185)) 11 lvs131 C k j0 bod131 [1, 1, 1, 1, 1, 1, 0, 1, 0] e (fin Tryz.prog Tryz.f131 none (tok131 Kt))
def p2_131 (k j0 : Nat) (v0 : BY) (v4 : List Int) (v5 : BY) (v6 : List Int) (v7 v8 v17 v18 : Int) (Kt : Tk131) : Option Out := C 1152 ([.c (.s (.str v0)), .u, .u, .u, .box 170 (.ints .u8 v4), .c (.s (.str v5)), .c (.own (.ints .u8 v6)), .c (.s (.int .i64 v7)), .c (.s (.int .i64 v8))] ++ us 8 ++ [.c (.s (.int .i64 v17)), .c (.s (.int .i64 v18))] ++ us 34) fun e => atK Tryz.prog (lookG (gam131 N132 N151 N184 N185)) 11 lvs131 C k bod131 [1, 1, 1, 1, 1, 1, 0, 1, 0, j0, 1, 1, 1] e (fin Tryz.prog Tryz.f131 none (tok131 Kt))
theorem run131_eq (k : Nat) (a0 : BY) (Kt : Tk131) : run131 C N132 N151 N184 N185 k a0 Kt =
 (N184 a0 fun r1 => (N185 fun r2 => (whole ((Xs.ints .u8 r2).toS.length == 256) (N151 r1 ([61] : BY) fun r3 => (l1_131 C N132 N151 N184 N185 k k r1 r2 r3 ([] : List Int) 0 0 (r3.length : Int) 0 Kt))))) := by kernel_rfl
theorem l1_131_eq (hC : Cv C) (k j0 : Nat) (v0 : BY) (v4 : List Int) (v5 : BY) (v6 : List Int) (v7 v8 v17 v18 : Int) (Kt : Tk131) : l1_131 C N132 N151 N184 N185 k (j0 + 1) v0 v4 v5 v6 v7 v8 v17 v18 Kt =
 (bif (decide (v18 < v17)) then ((at? v5 v18).bind fun b4 => (bif (decide (0 ≤ (b4.toNat : Int)) && decide ((b4.toNat : Int) < 256)) then ((v4[(0 + (b4.toNat : Int).toNat)]?).bind fun x5 => (bif (decide (x5 > 63)) then (Kt ([] : List Int) false) else (bif (decide ((i64.wrap (v8 + 6)) ≥ 8)) then (bif decide ((i64.wrap ((i64.wrap (v8 + 6)) - 8)) < 0) then none else (bif decide ((v6 ++ ([(u8.wrap ((i64.wrap ((BitVec.ofInt (IntKind.bits .i64) (i64.wrap ((BitVec.ofInt (IntKind.bits .i64) (i64.wrap (v7 * 2 ^ 6)) ||| BitVec.ofInt (IntKind.bits .i64) (i64.wrap x5)).toNat)) &&& BitVec.ofInt (IntKind.bits .i64) 65535).toNat)).fdiv (2 ^ (min (i64.wrap ((i64.wrap (v8 + 6)) - 8)).toNat 64))))] : List Int)).length ≤ 1099511627776) then (p2_131 C N132 N151 N184 N185 k j0 v0 v4 v5 (v6 ++ ([(u8.wrap ((i64.wrap ((BitVec.ofInt (IntKind.bits .i64) (i64.wrap ((BitVec.ofInt (IntKind.bits .i64) (i64.wrap (v7 * 2 ^ 6)) ||| BitVec.ofInt (IntKind.bits .i64) (i64.wrap x5)).toNat)) &&& BitVec.ofInt (IntKind.bits .i64) 65535).toNat)).fdiv (2 ^ (min (i64.wrap ((i64.wrap (v8 + 6)) - 8)).toNat 64))))] : List Int)) (i64.wrap ((BitVec.ofInt (IntKind.bits .i64) (i64.wrap ((BitVec.ofInt (IntKind.bits .i64) (i64.wrap (v7 * 2 ^ 6)) ||| BitVec.ofInt (IntKind.bits .i64) (i64.wrap x5)).toNat)) &&& BitVec.ofInt (IntKind.bits .i64) 65535).toNat)) (i64.wrap ((i64.wrap (v8 + 6)) - 8)) v17 v18 Kt) else none)) else (p2_131 C N132 N151 N184 N185 k j0 v0 v4 v5 v6 (i64.wrap ((BitVec.ofInt (IntKind.bits .i64) (i64.wrap ((BitVec.ofInt (IntKind.bits .i64) (i64.wrap (v7 * 2 ^ 6)) ||| BitVec.ofInt (IntKind.bits .i64) (i64.wrap x5)).toNat)) &&& BitVec.ofInt (IntKind.bits .i64) 65535).toNat)) (i64.wrap (v8 + 6)) v17 v18 Kt)))) else none)) else (N132 v6 fun r6 => (bif (!(r6 == v0)) then (Kt ([] : List Int) false) else (Kt v6 true)))) := (hC _ _ _).trans (by kernel_rfl)
theorem p2_131_eq (hC : Cv C) (k j0 : Nat) (v0 : BY) (v4 : List Int) (v5 : BY) (v6 : List Int) (v7 v8 v17 v18 : Int) (Kt : Tk131) : p2_131 C N132 N151 N184 N185 k j0 v0 v4 v5 v6 v7 v8 v17 v18 Kt =
 (l1_131 C N132 N151 N184 N185 k j0 v0 v4 v5 v6 v7 v8 v17 (i64.wrap (v18 + 1)) Kt) := (hC _ _ _).trans (by kernel_rfl)
end
theorem as131 {G : World → Prop} {ng : Nat} (S : Stays Tryz.prog G ng) {N132 : Ty132} {N151 : Ty151} {N184 : Ty184} {N185 : Ty185} (h132 : FnIs Tryz.prog G ng 132 (adp132 N132)) (h151 : FnIs Tryz.prog G ng 151 (adp151 N151)) (h184 : FnIs Tryz.prog G ng 184 (adp184 N184)) (h185 : FnIs Tryz.prog G ng 185 (adp185 N185)) {A : Ty131} (hA : ∀ (a0 : BY) (Kt : Tk131) (r : Out), A a0 Kt = some r → run131 cut0 N132 N151 N184 N185 big a0 Kt = some r) : FnIs Tryz.prog G ng 131 (adp131 A) := by
 refine spec_run cut0_eq S (l := gam131 N132 N151 N184 N185) (by intro p hp; simp only [gam131, List.mem_cons, List.not_mem_nil, or_false] at hp; rcases hp with rfl | rfl | rfl | rfl <;> assumption) Tryz.func131 (by kernel_rfl) (nn := 11) (Lv := lvs131) (k := big) fun rc cs K r h => ?_
 unfold adp131 at h
 split at h
 ·exact ⟨_, hA _ _ _ h, fun p hp => by unfold tok131 at hp; split at hp; exact hp; cases hp⟩
 ·cases h
def lvs132 : Nat → Option (List (Nat × Co))
 | 1000259 => some [(0, .k), (3, .k), (4, .o (.ints .u8 []))]
 | 1000707 => some [(0, .k), (3, .k), (4, .k), (8, .k), (9, .k)]
 | _ => none
section
variable (C : Nat → Env → (Env → Option Out) → Option Out) (N186 : Ty186)
def gam132 : List (Nat × Fn1) := [(186, adp186 N186)]
def bod132 : Code := Tryz.f132.body.getD .skip
def run132 (k : Nat) (a0 : List Int) (Kt : Tk132) : Option Out := runK Tryz.prog (lookG (gam132 N186)) 3 lvs132 C k Tryz.f132 none [.ro (.ints .u8 a0)] (tok132 Kt)
def l1_132 (k j0 : Nat) (v0 v3 v4 : List Int) (Kt : Tk132) : Option Out := C 1000259 ([.c (.ro (.ints .u8 v0)), .u, .u, .box 173 (.ints .u8 v3), .c (.own (.ints .u8 v4))] ++ us 60) fun e => headK Tryz.prog (lookG (gam132 N186)) 3 lvs132 C k j0 bod132 [1, 1, 1, 0, 0] e (fin Tryz.prog Tryz.f132 none (tok132 Kt))
def l2_132 (k j0 j1 : Nat) (v0 v3 v4 v8 : List Int) (v9 : Int) (Kt : Tk132) : Option Out := C 1000707 ([.c (.ro (.ints .u8 v0)), .u, .u, .box 173 (.ints .u8 v3), .c (.own (.ints .u8 v4)), .u, .u, .u, .box 176 (.ints .u8 v8), .c (.s (.int .i64 v9))] ++ us 55) fun e => headK Tryz.prog (lookG (gam132 N186)) 3 lvs132 C k j1 bod132 [1, 1, 1, 0, 0, j0, 1, 0, 1, 1, 1, 1, 1, 0, 1, 0] e (fin Tryz.prog Tryz.f132 none (tok132 Kt))
theorem run132_eq (k : Nat) (a0 : List Int) (Kt : Tk132) : run132 C N186 k a0 Kt =
 (N186 fun r1 => (whole ((Xs.ints .u8 r1).toS.length == 64) (l1_132 C N186 k k a0 r1 ([] : List Int) Kt))) := by kernel_rfl
theorem l1_132_eq (hC : Cv C) (k j0 : Nat) (v0 v3 v4 : List Int) (Kt : Tk132) : l1_132 C N186 k (j0 + 1) v0 v3 v4 Kt =
 (bif (decide ((v0.length : Int) > 0)) then ((cutN v0.length (some (((min v0.length 3) : Nat) : Int)) none).bind fun p2 => (((([0, 0, 0] : List Int).take 0 ++ v0.take (min v0.length 3) ++ ([0, 0, 0] : List Int).drop (0 + (min v0.length 3)))[0]?).bind fun x3 => (((([0, 0, 0] : List Int).take 0 ++ v0.take (min v0.length 3) ++ ([0, 0, 0] : List Int).drop (0 + (min v0.length 3)))[1]?).bind fun x4 => (((([0, 0, 0] : List Int).take 0 ++ v0.take (min v0.length 3) ++ ([0, 0, 0] : List Int).drop (0 + (min v0.length 3)))[2]?).bind fun x5 => (bif (decide (0 ≤ ((i64.wrap ((BitVec.ofInt (IntKind.bits .i64) (i64.wrap ((BitVec.ofInt (IntKind.bits .i64) (i64.wrap ((i64.wrap x3) * 2 ^ 16)) ||| BitVec.ofInt (IntKind.bits .i64) (i64.wrap ((i64.wrap x4) * 2 ^ 8))).toNat)) ||| BitVec.ofInt (IntKind.bits .i64) (i64.wrap x5)).toNat)).fdiv (2 ^ 18))) && decide (((i64.wrap ((BitVec.ofInt (IntKind.bits .i64) (i64.wrap ((BitVec.ofInt (IntKind.bits .i64) (i64.wrap ((i64.wrap x3) * 2 ^ 16)) ||| BitVec.ofInt (IntKind.bits .i64) (i64.wrap ((i64.wrap x4) * 2 ^ 8))).toNat)) ||| BitVec.ofInt (IntKind.bits .i64) (i64.wrap x5)).toNat)).fdiv (2 ^ 18)) < 64)) then ((v3[(0 + ((i64.wrap ((BitVec.ofInt (IntKind.bits .i64) (i64.wrap ((BitVec.ofInt (IntKind.bits .i64) (i64.wrap ((i64.wrap x3) * 2 ^ 16)) ||| BitVec.ofInt (IntKind.bits .i64) (i64.wrap ((i64.wrap x4) * 2 ^ 8))).toNat)) ||| BitVec.ofInt (IntKind.bits .i64) (i64.wrap x5)).toNat)).fdiv (2 ^ 18)).toNat)]?).bind fun x6 => (bif (decide (0 ≤ (i64.wrap ((BitVec.ofInt (IntKind.bits .i64) ((i64.wrap ((BitVec.ofInt (IntKind.bits .i64) (i64.wrap ((BitVec.ofInt (IntKind.bits .i64) (i64.wrap ((i64.wrap x3) * 2 ^ 16)) ||| BitVec.ofInt (IntKind.bits .i64) (i64.wrap ((i64.wrap x4) * 2 ^ 8))).toNat)) ||| BitVec.ofInt (IntKind.bits .i64) (i64.wrap x5)).toNat)).fdiv (2 ^ 12)) &&& BitVec.ofInt (IntKind.bits .i64) 63).toNat))) && decide ((i64.wrap ((BitVec.ofInt (IntKind.bits .i64) ((i64.wrap ((BitVec.ofInt (IntKind.bits .i64) (i64.wrap ((BitVec.ofInt (IntKind.bits .i64) (i64.wrap ((i64.wrap x3) * 2 ^ 16)) ||| BitVec.ofInt (IntKind.bits .i64) (i64.wrap ((i64.wrap x4) * 2 ^ 8))).toNat)) ||| BitVec.ofInt (IntKind.bits .i64) (i64.wrap x5)).toNat)).fdiv (2 ^ 12)) &&& BitVec.ofInt (IntKind.bits .i64) 63).toNat)) < 64)) then ((v3[(0 + (i64.wrap ((BitVec.ofInt (IntKind.bits .i64) ((i64.wrap ((BitVec.ofInt (IntKind.bits .i64) (i64.wrap ((BitVec.ofInt (IntKind.bits .i64) (i64.wrap ((i64.wrap x3) * 2 ^ 16)) ||| BitVec.ofInt (IntKind.bits .i64) (i64.wrap ((i64.wrap x4) * 2 ^ 8))).toNat)) ||| BitVec.ofInt (IntKind.bits .i64) (i64.wrap x5)).toNat)).fdiv (2 ^ 12)) &&& BitVec.ofInt (IntKind.bits .i64) 63).toNat)).toNat)]?).bind fun x7 => (bif (decide (0 ≤ (i64.wrap ((BitVec.ofInt (IntKind.bits .i64) ((i64.wrap ((BitVec.ofInt (IntKind.bits .i64) (i64.wrap ((BitVec.ofInt (IntKind.bits .i64) (i64.wrap ((i64.wrap x3) * 2 ^ 16)) ||| BitVec.ofInt (IntKind.bits .i64) (i64.wrap ((i64.wrap x4) * 2 ^ 8))).toNat)) ||| BitVec.ofInt (IntKind.bits .i64) (i64.wrap x5)).toNat)).fdiv (2 ^ 6)) &&& BitVec.ofInt (IntKind.bits .i64) 63).toNat))) && decide ((i64.wrap ((BitVec.ofInt (IntKind.bits .i64) ((i64.wrap ((BitVec.ofInt (IntKind.bits .i64) (i64.wrap ((BitVec.ofInt (IntKind.bits .i64) (i64.wrap ((i64.wrap x3) * 2 ^ 16)) ||| BitVec.ofInt (IntKind.bits .i64) (i64.wrap ((i64.wrap x4) * 2 ^ 8))).toNat)) ||| BitVec.ofInt (IntKind.bits .i64) (i64.wrap x5)).toNat)).fdiv (2 ^ 6)) &&& BitVec.ofInt (IntKind.bits .i64) 63).toNat)) < 64)) then ((v3[(0 + (i64.wrap ((BitVec.ofInt (IntKind.bits .i64) ((i64.wrap ((BitVec.ofInt (IntKind.bits .i64) (i64.wrap ((BitVec.ofInt (IntKind.bits .i64) (i64.wrap ((i64.wrap x3) * 2 ^ 16)) ||| BitVec.ofInt (IntKind.bits .i64) (i64.wrap ((i64.wrap x4) * 2 ^ 8))).toNat)) ||| BitVec.ofInt (IntKind.bits .i64) (i64.wrap x5)).toNat)).fdiv (2 ^ 6)) &&& BitVec.ofInt (IntKind.bits .i64) 63).toNat)).toNat)]?).bind fun x8 => (bif (decide (0 ≤ (i64.wrap ((BitVec.ofInt (IntKind.bits .i64) (i64.wrap ((BitVec.ofInt (IntKind.bits .i64) (i64.wrap ((BitVec.ofInt (IntKind.bits .i64) (i64.wrap ((i64.wrap x3) * 2 ^ 16)) ||| BitVec.ofInt (IntKind.bits .i64) (i64.wrap ((i64.wrap x4) * 2 ^ 8))).toNat)) ||| BitVec.ofInt (IntKind.bits .i64) (i64.wrap x5)).toNat)) &&& BitVec.ofInt (IntKind.bits .i64) 63).toNat))) && decide ((i64.wrap ((BitVec.ofInt (IntKind.bits .i64) (i64.wrap ((BitVec.ofInt (IntKind.bits .i64) (i64.wrap ((BitVec.ofInt (IntKind.bits .i64) (i64.wrap ((i64.wrap x3) * 2 ^ 16)) ||| BitVec.ofInt (IntKind.bits .i64) (i64.wrap ((i64.wrap x4) * 2 ^ 8))).toNat)) ||| BitVec.ofInt (IntKind.bits .i64) (i64.wrap x5)).toNat)) &&& BitVec.ofInt (IntKind.bits .i64) 63).toNat)) < 64)) then ((v3[(0 + (i64.wrap ((BitVec.ofInt (IntKind.bits .i64) (i64.wrap ((BitVec.ofInt (IntKind.bits .i64) (i64.wrap ((BitVec.ofInt (IntKind.bits .i64) (i64.wrap ((i64.wrap x3) * 2 ^ 16)) ||| BitVec.ofInt (IntKind.bits .i64) (i64.wrap ((i64.wrap x4) * 2 ^ 8))).toNat)) ||| BitVec.ofInt (IntKind.bits .i64) (i64.wrap x5)).toNat)) &&& BitVec.ofInt (IntKind.bits .i64) 63).toNat)).toNat)]?).bind fun x9 => (l2_132 C N186 k j0 k ((v0.drop p2.1).take p2.2) v3 v4 ([x6, x7, x8, x9] : List Int) (i64.wrap ((((min v0.length 3) : Nat) : Int) + 1)) Kt)) else none)) else none)) else none)) else none))))) else (Kt (v4.map fun n => UInt8.ofNat n.toNat))) := (hC _ _ _).trans (by kernel_rfl)
theorem l2_132_eq (hC : Cv C) (k j0 j1 : Nat) (v0 v3 v4 v8 : List Int) (v9 : Int) (Kt : Tk132) : l2_132 C N186 k j0 (j1 + 1) v0 v3 v4 v8 v9 Kt =
 (bif (decide (v9 < 4)) then (bif (decide (0 ≤ v9) && decide (v9 < 4)) then (bif decide ((0 + v9.toNat) < v8.length) then (l2_132 C N186 k j0 j1 v0 v3 v4 (v8.set (0 + v9.toNat) 61) (i64.wrap (v9 + 1)) Kt) else none) else none) else (bif decide (4 ≤ v8.length) then (bif decide ((v4 ++ ((v8.drop 0).take 4)).length ≤ 1099511627776) then (l1_132 C N186 k j0 v0 v3 (v4 ++ ((v8.drop 0).take 4)) Kt) else none) else none)) := (hC _ _ _).trans (by kernel_rfl)
end
theorem as132 {G : World → Prop} {ng : Nat} (S : Stays Tryz.prog G ng) {N186 : Ty186} (h186 : FnIs Tryz.prog G ng 186 (adp186 N186)) {A : Ty132} (hA : ∀ (a0 : List Int) (Kt : Tk132) (r : Out), A a0 Kt = some r → run132 cut0 N186 big a0 Kt = some r) : FnIs Tryz.prog G ng 132 (adp132 A) := by
 refine FnIs.norm (hd := by rfl) (A := adq132 A) (spec_run cut0_eq S (l := gam132 N186) (by intro p hp; simp only [gam132, List.mem_cons, List.not_mem_nil, or_false] at hp; rcases hp with rfl <;> assumption) Tryz.func132 (by kernel_rfl) (nn := 3) (Lv := lvs132) (k := big) fun rc cs K r h => ?_)
 unfold adq132 at h
 split at h
 ·exact ⟨_, hA _ _ _ h, fun p hp => by unfold tok132 at hp; split at hp; exact hp; cases hp⟩
 ·cases h
section
variable (C : Nat → Env → (Env → Option Out) → Option Out)
end
section
variable (C : Nat → Env → (Env → Option Out) → Option Out)
end
def lvs183 : Nat → Option (List (Nat × Co))
 | _ => none
section
variable (C : Nat → Env → (Env → Option Out) → Option Out)
def gam183 : List (Nat × Fn1) := []
def run183 (k : Nat) (a0 : Bool) (Kt : Tk183) : Option Out := runK Tryz.prog (lookG (gam183)) 3 lvs183 C k Tryz.f183 none [.s (.bool a0)] (tok183 Kt)
theorem run183_eq (k : Nat) (a0 : Bool) (Kt : Tk183) : run183 C k a0 Kt =
 (bif a0 then (Kt ([116, 114, 117, 101] : BY)) else (Kt ([102, 97, 108, 115, 101] : BY))) := by kernel_rfl
end
theorem as183 {G : World → Prop} {ng : Nat} (S : Stays Tryz.prog G ng) {A : Ty183} (hA : ∀ (a0 : Bool) (Kt : Tk183) (r : Out), A a0 Kt = some r → run183 cut0 big a0 Kt = some r) : FnIs Tryz.prog G ng 183 (adp183 A) := by
 refine spec_run cut0_eq S (l := gam183) (by intro p hp; cases hp) Tryz.func183 (by kernel_rfl) (nn := 3) (Lv := lvs183) (k := big) fun rc cs K r h => ?_
 unfold adp183 at h
 split at h
 ·exact ⟨_, hA _ _ _ h, fun p hp => by unfold tok183 at hp; split at hp; exact hp; cases hp⟩
 ·cases h
def lvs185 : Nat → Option (List (Nat × Co))
 | 1000258 => some [(0, .k), (1, .k), (5, .k)]
 | 1000578 => some [(0, .k), (1, .k), (11, .k), (12, .k)]
 | _ => none
section
variable (C : Nat → Env → (Env → Option Out) → Option Out) (N186 : Ty186)
def gam185 : List (Nat × Fn1) := [(186, adp186 N186)]
def bod185 : Code := Tryz.f185.body.getD .skip
def run185 (k : Nat) (Kt : Tk185) : Option Out := runK Tryz.prog (lookG (gam185 N186)) 5 lvs185 C k Tryz.f185 none [] (tok185 Kt)
def l1_185 (k j0 : Nat) (v0 v1 : List Int) (v5 : Int) (Kt : Tk185) : Option Out := C 1000258 ([.box 170 (.ints .u8 v0), .box 170 (.ints .u8 v1), .u, .u, .u, .c (.s (.int .i64 v5))] ++ us 16) fun e => headK Tryz.prog (lookG (gam185 N186)) 5 lvs185 C k j0 bod185 [1, 1, 0, 1, 0] e (fin Tryz.prog Tryz.f185 none (tok185 Kt))
def l2_185 (k j0 : Nat) (v0 v1 v11 : List Int) (v12 : Int) (Kt : Tk185) : Option Out := C 1000578 ([.box 170 (.ints .u8 v0), .box 170 (.ints .u8 v1)] ++ us 9 ++ [.c (.agg (.ints .u8 v11)), .c (.s (.int .i64 v12))] ++ us 9) fun e => headK Tryz.prog (lookG (gam185 N186)) 5 lvs185 C k j0 bod185 [1, 1, 1, 0, 1, 0] e (fin Tryz.prog Tryz.f185 none (tok185 Kt))
theorem run185_eq (k : Nat) (Kt : Tk185) : run185 C N186 k Kt =
 (l1_185 C N186 k k (List.replicate 256 (0 : Int)) (List.replicate 256 (0 : Int)) 0 Kt) := by kernel_rfl
theorem l1_185_eq (hC : Cv C) (k j0 : Nat) (v0 v1 : List Int) (v5 : Int) (Kt : Tk185) : l1_185 C N186 k (j0 + 1) v0 v1 v5 Kt =
 (bif (decide (v5 < 256)) then (bif (decide (0 ≤ v5) && decide (v5 < 256)) then (bif decide ((0 + v5.toNat) < v1.length) then (l1_185 C N186 k j0 v0 (v1.set (0 + v5.toNat) 64) (i64.wrap (v5 + 1)) Kt) else none) else none) else (N186 fun r1 => (l2_185 C N186 k k v0 v1 r1 0 Kt))) := (hC _ _ _).trans (by kernel_rfl)
theorem l2_185_eq (hC : Cv C) (k j0 : Nat) (v0 v1 v11 : List Int) (v12 : Int) (Kt : Tk185) : l2_185 C N186 k (j0 + 1) v0 v1 v11 v12 Kt =
 (bif (decide (v12 < 64)) then (bif decide (v12 < 64) then ((at? v11 v12).bind fun x2 => (bif (decide (0 ≤ x2) && decide (x2 < 256)) then (bif decide ((0 + x2.toNat) < v1.length) then (l2_185 C N186 k j0 v0 (v1.set (0 + x2.toNat) (u8.wrap v12)) v11 (i64.wrap (v12 + 1)) Kt) else none) else none)) else none) else (whole ((Xs.ints .u8 v1).toS.length == 256) (Kt v1))) := (hC _ _ _).trans (by kernel_rfl)
end
theorem as185 {G : World → Prop} {ng : Nat} (S : Stays Tryz.prog G ng) {N186 : Ty186} (h186 : FnIs Tryz.prog G ng 186 (adp186 N186)) {A : Ty185} (hA : ∀ (Kt : Tk185) (r : Out), A Kt = some r → run185 cut0 N186 big Kt = some r) : FnIs Tryz.prog G ng 185 (adp185 A) := by
 refine spec_run cut0_eq S (l := gam185 N186) (by intro p hp; simp only [gam185, List.mem_cons, List.not_mem_nil, or_false] at hp; rcases hp with rfl <;> assumption) Tryz.func185 (by kernel_rfl) (nn := 5) (Lv := lvs185) (k := big) fun rc cs K r h => ?_
 unfold adp185 at h
 split at h
 ·exact ⟨_, hA _ _ h, fun p hp => by unfold tok185 at hp; split at hp; exact hp; cases hp⟩
 ·cases h
def lvs186 : Nat → Option (List (Nat × Co))
 | _ => none
section
variable (C : Nat → Env → (Env → Option Out) → Option Out)
def gam186 : List (Nat × Fn1) := []
def run186 (k : Nat) (Kt : Tk186) : Option Out := runK Tryz.prog (lookG (gam186)) 2 lvs186 C k Tryz.f186 none [] (tok186 Kt)
theorem run186_eq (k : Nat) (Kt : Tk186) : run186 C k Kt =
 (bif decide (64 ≤ (List.replicate 64 (0 : Int)).length) then (whole ((Xs.ints .u8 ((List.replicate 64 (0 : Int)).take 0 ++ (([65, 66, 67, 68, 69, 70, 71, 72, 73, 74, 75, 76, 77, 78, 79, 80, 81, 82, 83, 84, 85, 86, 87, 88, 89, 90, 97, 98, 99, 100, 101, 102, 103, 104, 105, 106, 107, 108, 109, 110, 111, 112, 113, 114, 115, 116, 117, 118, 119, 120, 121, 122, 48, 49, 50, 51, 52, 53, 54, 55, 56, 57, 43, 47] : BY).map fun c => (c.toNat : Int)).take (min (([65, 66, 67, 68, 69, 70, 71, 72, 73, 74, 75, 76, 77, 78, 79, 80, 81, 82, 83, 84, 85, 86, 87, 88, 89, 90, 97, 98, 99, 100, 101, 102, 103, 104, 105, 106, 107, 108, 109, 110, 111, 112, 113, 114, 115, 116, 117, 118, 119, 120, 121, 122, 48, 49, 50, 51, 52, 53, 54, 55, 56, 57, 43, 47] : BY).map fun c => (c.toNat : Int)).length 64) ++ (List.replicate 64 (0 : Int)).drop (0 + (min (([65, 66, 67, 68, 69, 70, 71, 72, 73, 74, 75, 76, 77, 78, 79, 80, 81, 82, 83, 84, 85, 86, 87, 88, 89, 90, 97, 98, 99, 100, 101, 102, 103, 104, 105, 106, 107, 108, 109, 110, 111, 112, 113, 114, 115, 116, 117, 118, 119, 120, 121, 122, 48, 49, 50, 51, 52, 53, 54, 55, 56, 57, 43, 47] : BY).map fun c => (c.toNat : Int)).length 64)))).toS.length == 64) (Kt ((List.replicate 64 (0 : Int)).take 0 ++ (([65, 66, 67, 68, 69, 70, 71, 72, 73, 74, 75, 76, 77, 78, 79, 80, 81, 82, 83, 84, 85, 86, 87, 88, 89, 90, 97, 98, 99, 100, 101, 102, 103, 104, 105, 106, 107, 108, 109, 110, 111, 112, 113, 114, 115, 116, 117, 118, 119, 120, 121, 122, 48, 49, 50, 51, 52, 53, 54, 55, 56, 57, 43, 47] : BY).map fun c => (c.toNat : Int)).take (min (([65, 66, 67, 68, 69, 70, 71, 72, 73, 74, 75, 76, 77, 78, 79, 80, 81, 82, 83, 84, 85, 86, 87, 88, 89, 90, 97, 98, 99, 100, 101, 102, 103, 104, 105, 106, 107, 108, 109, 110, 111, 112, 113, 114, 115, 116, 117, 118, 119, 120, 121, 122, 48, 49, 50, 51, 52, 53, 54, 55, 56, 57, 43, 47] : BY).map fun c => (c.toNat : Int)).length 64) ++ (List.replicate 64 (0 : Int)).drop (0 + (min (([65, 66, 67, 68, 69, 70, 71, 72, 73, 74, 75, 76, 77, 78, 79, 80, 81, 82, 83, 84, 85, 86, 87, 88, 89, 90, 97, 98, 99, 100, 101, 102, 103, 104, 105, 106, 107, 108, 109, 110, 111, 112, 113, 114, 115, 116, 117, 118, 119, 120, 121, 122, 48, 49, 50, 51, 52, 53, 54, 55, 56, 57, 43, 47] : BY).map fun c => (c.toNat : Int)).length 64))))) else none) := by kernel_rfl
end
theorem as186 {G : World → Prop} {ng : Nat} (S : Stays Tryz.prog G ng) {A : Ty186} (hA : ∀ (Kt : Tk186) (r : Out), A Kt = some r → run186 cut0 big Kt = some r) : FnIs Tryz.prog G ng 186 (adp186 A) := by
 refine spec_run cut0_eq S (l := gam186) (by intro p hp; cases hp) Tryz.func186 (by kernel_rfl) (nn := 2) (Lv := lvs186) (k := big) fun rc cs K r h => ?_
 unfold adp186 at h
 split at h
 ·exact ⟨_, hA _ _ h, fun p hp => by unfold tok186 at hp; split at hp; exact hp; cases hp⟩
 ·cases h
end
end Go.Proofs.YtffmgholjdfcnaaGreatDoor
