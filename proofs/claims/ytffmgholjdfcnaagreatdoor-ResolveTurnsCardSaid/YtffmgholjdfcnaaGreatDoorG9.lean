/- Pieces of the program's functions, printed by gen.py (a program of this session's own), and the equations that the kernel finds. -/
import Derived.Test.YtffmgholjdfcnaaGreatDoorGW
import Derived.Test.YtffmgholjdfcnaaGreatDoorProg
set_option maxRecDepth 100000
set_option linter.unusedVariables false
namespace Go.Proofs.YtffmgholjdfcnaaGreatDoor
open Go Go.Proofs AM
/-! targum/targumlaw13.ResolveTells -/
def lvs3 : Nat → Option (List (Nat × Co))
  | 322 => some [(0, .k), (1, .k), (2, .k), (20, .k)]
  | 1000450 => some [(0, .k), (24, .k), (25, .k), (26, .k)]
  | _ => none
section
variable (C : Nat → Env → (Env → Option Out) → Option Out) (N14 : Ty14) (N15 : Ty15) (N16 : Ty16) (N17 : Ty17) (N18 : Ty18)
def gam3 : List (Nat × Fn1) := [(14, adp14 N14), (15, adp15 N15), (16, adp16 N16), (17, adp17 N17), (18, adp18 N18)]
noncomputable def bod3 : Code := Tryz.f3.body.getD .skip
noncomputable def run3 (k : Nat) (a0 : Int) (a1 : BY) (a2 : List Int) (Kt : Tk3) : Option Out := runK Tryz.prog (lookG (gam3 N14 N15 N16 N17 N18)) 11 lvs3 C k Tryz.f3 none [.s (.int .i64 a0), .s (.str a1), .ro (.ints .u8 a2)] (tok3 Kt)
noncomputable def p1_3 (k : Nat) (v0 : Int) (v1 : BY) (v2 : List Int) (v20 : Bool) (Kt : Tk3) : Option Out := C 322 ([.c (.s (.int .i64 v0)), .c (.s (.str v1)), .c (.ro (.ints .u8 v2))] ++ us 17 ++ [.c (.s (.bool v20))] ++ us 41) fun e => atK Tryz.prog (lookG (gam3 N14 N15 N16 N17 N18)) 11 lvs3 C k bod3 [1, 1, 0, 1] e (fin Tryz.prog Tryz.f3 none (tok3 Kt))
noncomputable def l2_3 (k : Nat) (j0 : Nat) (v0 : Int) (v24 : List BY) (v25 : Int) (v26 : Int) (Kt : Tk3) : Option Out := C 1000450 ([.c (.s (.int .i64 v0))] ++ us 23 ++ [.c (.own (.strs v24)), .c (.s (.int .i64 v25)), .c (.s (.int .i64 v26))] ++ us 35) fun e => headK Tryz.prog (lookG (gam3 N14 N15 N16 N17 N18)) 11 lvs3 C k j0 bod3 [1, 1, 1, 0, 1, 0] e (fin Tryz.prog Tryz.f3 none (tok3 Kt))
theorem run3_eq (k : Nat) (a0 : Int) (a1 : BY) (a2 : List Int) (Kt : Tk3) : run3 C N14 N15 N16 N17 N18 k a0 a1 a2 Kt =
  (N14 fun r1 => (bif (!r1) then (Kt false) else (bif (decide ((a1.length : Int) > 60)) then (p1_3 C N14 N15 N16 N17 N18 k a0 a1 a2 true Kt) else (p1_3 C N14 N15 N16 N17 N18 k a0 a1 a2 (decide ((a2.length : Int) > 8)) Kt)))) := by kernel_rfl
theorem p1_3_eq (hC : ∀ key e t, C key e t = t e) (k : Nat) (v0 : Int) (v1 : BY) (v2 : List Int) (v20 : Bool) (Kt : Tk3) : p1_3 C N14 N15 N16 N17 N18 k v0 v1 v2 v20 Kt =
  (bif v20 then (Kt true) else (N15 v2 fun r2 => (l2_3 C N14 N15 N16 N17 N18 k k v0 ([v1, r2] : List (BY)) 2 0 Kt))) := (hC _ _ _).trans (by kernel_rfl)
theorem l2_3_eq (hC : ∀ key e t, C key e t = t e) (k : Nat) (j0 : Nat) (v0 : Int) (v24 : List BY) (v25 : Int) (v26 : Int) (Kt : Tk3) : l2_3 C N14 N15 N16 N17 N18 k (j0 + 1) v0 v24 v25 v26 Kt =
  (bif (decide (v26 < v25)) then (bif (decide (0 ≤ v26) && decide (v26 < (v24.length : Int))) then ((v24[v26.toNat]?).bind fun x3 => (N16 11 x3 fun r4 r5 => (N16 12 x3 fun r6 r7 => (N17 11 x3 fun r8 r9 => (bif (!((r4 == r8) && ((r5 == r9) && true))) then (Kt false) else (N17 12 x3 fun r10 r11 => (bif (!((r6 == r10) && ((r7 == r11) && true))) then (Kt false) else (N16 v0 x3 fun r12 r13 => (N17 v0 x3 fun r14 r15 => (bif (!((r12 == r14) && ((r13 == r15) && true))) then (Kt false) else (N18 x3 fun r16 => (bif (!(r16 == ((r4 == r6) && ((r5 == r7) && true)))) then (Kt false) else (l2_3 C N14 N15 N16 N17 N18 k j0 v0 v24 v25 (IntKind.i64.wrap (v26 + 1)) Kt))))))))))))) else none) else (Kt true)) := (hC _ _ _).trans (by kernel_rfl)
end
theorem as3 {G : World → Prop} {ng : Nat} (S : Stays Tryz.prog G ng) {N14 : Ty14} {N15 : Ty15} {N16 : Ty16} {N17 : Ty17} {N18 : Ty18} (h14 : FnIs Tryz.prog G ng 14 (adp14 N14)) (h15 : FnIs Tryz.prog G ng 15 (adp15 N15)) (h16 : FnIs Tryz.prog G ng 16 (adp16 N16)) (h17 : FnIs Tryz.prog G ng 17 (adp17 N17)) (h18 : FnIs Tryz.prog G ng 18 (adp18 N18)) {A : Ty3} (hA : ∀ (a0 : Int) (a1 : BY) (a2 : List Int) (Kt : Tk3) (r : Out), A a0 a1 a2 Kt = some r → run3 cut0 N14 N15 N16 N17 N18 big a0 a1 a2 Kt = some r) : FnIs Tryz.prog G ng 3 (adp3 A) := by
  refine FnIs.norm (hd := by rfl) (A := adq3 A) (spec_run cut0_eq S (l := gam3 N14 N15 N16 N17 N18) (by intro p hp; simp only [gam3, List.mem_cons, List.not_mem_nil, or_false] at hp; rcases hp with rfl | rfl | rfl | rfl | rfl <;> assumption) Tryz.func3 (by kernel_rfl) (nn := 11) (Lv := lvs3) (k := big) fun rc cs K r h => ?_)
  unfold adq3 at h
  split at h
  · exact ⟨_, hA _ _ _ _ _ h, fun p hp => by unfold tok3 at hp; split at hp; exact hp; cases hp⟩
  · cases h

/-! targum/targumlaw13.ResolveStays -/
def lvs4 : Nat → Option (List (Nat × Co))
  | 322 => some [(0, .k), (1, .k), (2, .k), (20, .k)]
  | 1410 => some [(0, .k), (7, .k), (10, .k), (26, .k), (27, .k), (28, .k), (36, .k), (57, .k)]
  | 1728 => some [(0, .k), (7, .k), (26, .k), (27, .k), (28, .k)]
  | 1000514 => some [(0, .k), (7, .k), (26, .k), (27, .k), (28, .k)]
  | _ => none
section
variable (C : Nat → Env → (Env → Option Out) → Option Out) (N14 : Ty14) (N15 : Ty15) (N16 : Ty16) (N18 : Ty18) (N19 : Ty19)
def gam4 : List (Nat × Fn1) := [(14, adp14 N14), (15, adp15 N15), (16, adp16 N16), (18, adp18 N18), (19, adp19 N19)]
noncomputable def bod4 : Code := Tryz.f4.body.getD .skip
noncomputable def run4 (k : Nat) (a0 : Bool) (a1 : BY) (a2 : List Int) (Kt : Tk4) : Option Out := runK Tryz.prog (lookG (gam4 N14 N15 N16 N18 N19)) 7 lvs4 C k Tryz.f4 none [.s (.bool a0), .s (.str a1), .ro (.ints .u8 a2)] (tok4 Kt)
noncomputable def p1_4 (k : Nat) (v0 : Bool) (v1 : BY) (v2 : List Int) (v20 : Bool) (Kt : Tk4) : Option Out := C 322 ([.c (.s (.bool v0)), .c (.s (.str v1)), .c (.ro (.ints .u8 v2))] ++ us 17 ++ [.c (.s (.bool v20))] ++ us 71) fun e => atK Tryz.prog (lookG (gam4 N14 N15 N16 N18 N19)) 7 lvs4 C k bod4 [1, 1, 0, 1] e (fin Tryz.prog Tryz.f4 none (tok4 Kt))
noncomputable def l2_4 (k : Nat) (j0 : Nat) (v0 : Bool) (v7 : Int) (v26 : List BY) (v27 : Int) (v28 : Int) (Kt : Tk4) : Option Out := C 1000514 ([.c (.s (.bool v0))] ++ us 6 ++ [.c (.s (.int .i64 v7))] ++ us 18 ++ [.c (.own (.strs v26)), .c (.s (.int .i64 v27)), .c (.s (.int .i64 v28))] ++ us 63) fun e => headK Tryz.prog (lookG (gam4 N14 N15 N16 N18 N19)) 7 lvs4 C k j0 bod4 [1, 1, 1, 1, 0, 1, 0] e (fin Tryz.prog Tryz.f4 none (tok4 Kt))
noncomputable def p3_4 (k : Nat) (j0 : Nat) (v0 : Bool) (v7 : Int) (v26 : List BY) (v27 : Int) (v28 : Int) (Kt : Tk4) : Option Out := C 1728 ([.c (.s (.bool v0))] ++ us 6 ++ [.c (.s (.int .i64 v7))] ++ us 18 ++ [.c (.own (.strs v26)), .c (.s (.int .i64 v27)), .c (.s (.int .i64 v28))] ++ us 63) fun e => atK Tryz.prog (lookG (gam4 N14 N15 N16 N18 N19)) 7 lvs4 C k bod4 [1, 1, 1, 1, 0, 1, 0, j0, 1, 1, 1] e (fin Tryz.prog Tryz.f4 none (tok4 Kt))
noncomputable def p4_4 (k : Nat) (j0 : Nat) (v0 : Bool) (v7 : Int) (v10_0 : BY) (v10_1 : BY) (v26 : List BY) (v27 : Int) (v28 : Int) (v36 : BY) (v57 : Bool) (Kt : Tk4) : Option Out := C 1410 ([.c (.s (.bool v0))] ++ us 6 ++ [.c (.s (.int .i64 v7)), .u, .u, .box 27 (.ss [.str v10_0, .str v10_1])] ++ us 15 ++ [.c (.own (.strs v26)), .c (.s (.int .i64 v27)), .c (.s (.int .i64 v28))] ++ us 7 ++ [.c (.s (.str v36))] ++ us 20 ++ [.c (.s (.bool v57))] ++ us 34) fun e => atK Tryz.prog (lookG (gam4 N14 N15 N16 N18 N19)) 7 lvs4 C k bod4 [1, 1, 1, 1, 0, 1, 0, j0, 1, 1, 0, 0, 1, 1, 1, 0, 1, 1, 1, 1, 1] e (fin Tryz.prog Tryz.f4 none (tok4 Kt))
theorem run4_eq (k : Nat) (a0 : Bool) (a1 : BY) (a2 : List Int) (Kt : Tk4) : run4 C N14 N15 N16 N18 N19 k a0 a1 a2 Kt =
  (N14 fun r1 => (bif (!r1) then (Kt false) else (bif (decide ((a1.length : Int) > 60)) then (p1_4 C N14 N15 N16 N18 N19 k a0 a1 a2 true Kt) else (p1_4 C N14 N15 N16 N18 N19 k a0 a1 a2 (decide ((a2.length : Int) > 8)) Kt)))) := by kernel_rfl
theorem p1_4_eq (hC : ∀ key e t, C key e t = t e) (k : Nat) (v0 : Bool) (v1 : BY) (v2 : List Int) (v20 : Bool) (Kt : Tk4) : p1_4 C N14 N15 N16 N18 N19 k v0 v1 v2 v20 Kt =
  (bif v20 then (Kt true) else (N19 v0 fun r2 => (N15 v2 fun r3 => (l2_4 C N14 N15 N16 N18 N19 k k v0 r2 ([v1, r3] : List (BY)) 2 0 Kt)))) := (hC _ _ _).trans (by kernel_rfl)
theorem l2_4_eq (hC : ∀ key e t, C key e t = t e) (k : Nat) (j0 : Nat) (v0 : Bool) (v7 : Int) (v26 : List BY) (v27 : Int) (v28 : Int) (Kt : Tk4) : l2_4 C N14 N15 N16 N18 N19 k (j0 + 1) v0 v7 v26 v27 v28 Kt =
  (bif (decide (v28 < v27)) then (bif (decide (0 ≤ v28) && decide (v28 < (v26.length : Int))) then ((v26[v28.toNat]?).bind fun x4 => (N16 v7 x4 fun r5 r6 => (bif (r5 == ([116, 97, 103, 58, 121, 97, 109, 108, 46, 111, 114, 103, 44, 50, 48, 48, 50, 58, 115, 116, 114] : BY)) then (bif (!(r6 == x4)) then (Kt false) else (bif (x4 == ([] : BY)) then (Kt false) else (p3_4 C N14 N15 N16 N18 N19 k j0 v0 v7 v26 v27 v28 Kt))) else (bif (r5 == ([116, 97, 103, 58, 121, 97, 109, 108, 46, 111, 114, 103, 44, 50, 48, 48, 50, 58, 110, 117, 108, 108] : BY)) then (bif (!(r6 == ([] : BY))) then (Kt false) else (bif (decide ((x4.length : Int) > 4)) then (Kt false) else (p3_4 C N14 N15 N16 N18 N19 k j0 v0 v7 v26 v27 v28 Kt))) else (bif (r5 == ([116, 97, 103, 58, 121, 97, 109, 108, 46, 111, 114, 103, 44, 50, 48, 48, 50, 58, 98, 111, 111, 108] : BY)) then (p4_4 C N14 N15 N16 N18 N19 k j0 v0 v7 r5 r6 v26 v27 v28 r5 (r5 == ([116, 97, 103, 58, 121, 97, 109, 108, 46, 111, 114, 103, 44, 50, 48, 48, 50, 58, 98, 111, 111, 108] : BY)) Kt) else (bif (r5 == ([116, 97, 103, 58, 121, 97, 109, 108, 46, 111, 114, 103, 44, 50, 48, 48, 50, 58, 105, 110, 116] : BY)) then (p4_4 C N14 N15 N16 N18 N19 k j0 v0 v7 r5 r6 v26 v27 v28 r5 (r5 == ([116, 97, 103, 58, 121, 97, 109, 108, 46, 111, 114, 103, 44, 50, 48, 48, 50, 58, 105, 110, 116] : BY)) Kt) else (p4_4 C N14 N15 N16 N18 N19 k j0 v0 v7 r5 r6 v26 v27 v28 r5 (r5 == ([116, 97, 103, 58, 121, 97, 109, 108, 46, 111, 114, 103, 44, 50, 48, 48, 50, 58, 102, 108, 111, 97, 116] : BY)) Kt))))))) else none) else (Kt true)) := (hC _ _ _).trans (by kernel_rfl)
theorem p3_4_eq (hC : ∀ key e t, C key e t = t e) (k : Nat) (j0 : Nat) (v0 : Bool) (v7 : Int) (v26 : List BY) (v27 : Int) (v28 : Int) (Kt : Tk4) : p3_4 C N14 N15 N16 N18 N19 k j0 v0 v7 v26 v27 v28 Kt =
  (l2_4 C N14 N15 N16 N18 N19 k j0 v0 v7 v26 v27 (IntKind.i64.wrap (v28 + 1)) Kt) := (hC _ _ _).trans (by kernel_rfl)
theorem p4_4_eq (hC : ∀ key e t, C key e t = t e) (k : Nat) (j0 : Nat) (v0 : Bool) (v7 : Int) (v10_0 : BY) (v10_1 : BY) (v26 : List BY) (v27 : Int) (v28 : Int) (v36 : BY) (v57 : Bool) (Kt : Tk4) : p4_4 C N14 N15 N16 N18 N19 k j0 v0 v7 v10_0 v10_1 v26 v27 v28 v36 v57 Kt =
  (bif v57 then (N16 11 v10_1 fun r7 r8 => (bif (!((r7 == v10_0) && ((r8 == v10_1) && true))) then (Kt false) else (N16 12 v10_1 fun r9 r10 => (bif (!((r9 == v10_0) && ((r10 == v10_1) && true))) then (Kt false) else (N18 v10_1 fun r11 => (bif (!r11) then (Kt false) else (p3_4 C N14 N15 N16 N18 N19 k j0 v0 v7 v26 v27 v28 Kt))))))) else (bif (v36 == ([116, 97, 103, 58, 121, 97, 109, 108, 46, 111, 114, 103, 44, 50, 48, 48, 50, 58, 116, 105, 109, 101, 115, 116, 97, 109, 112] : BY)) then (bif (!v0) then (Kt false) else (N16 v7 v10_1 fun r12 r13 => (bif (!((r12 == v10_0) && ((r13 == v10_1) && true))) then (Kt false) else (p3_4 C N14 N15 N16 N18 N19 k j0 v0 v7 v26 v27 v28 Kt)))) else (Kt false))) := (hC _ _ _).trans (by kernel_rfl)
end
theorem as4 {G : World → Prop} {ng : Nat} (S : Stays Tryz.prog G ng) {N14 : Ty14} {N15 : Ty15} {N16 : Ty16} {N18 : Ty18} {N19 : Ty19} (h14 : FnIs Tryz.prog G ng 14 (adp14 N14)) (h15 : FnIs Tryz.prog G ng 15 (adp15 N15)) (h16 : FnIs Tryz.prog G ng 16 (adp16 N16)) (h18 : FnIs Tryz.prog G ng 18 (adp18 N18)) (h19 : FnIs Tryz.prog G ng 19 (adp19 N19)) {A : Ty4} (hA : ∀ (a0 : Bool) (a1 : BY) (a2 : List Int) (Kt : Tk4) (r : Out), A a0 a1 a2 Kt = some r → run4 cut0 N14 N15 N16 N18 N19 big a0 a1 a2 Kt = some r) : FnIs Tryz.prog G ng 4 (adp4 A) := by
  refine FnIs.norm (hd := by rfl) (A := adq4 A) (spec_run cut0_eq S (l := gam4 N14 N15 N16 N18 N19) (by intro p hp; simp only [gam4, List.mem_cons, List.not_mem_nil, or_false] at hp; rcases hp with rfl | rfl | rfl | rfl | rfl <;> assumption) Tryz.func4 (by kernel_rfl) (nn := 7) (Lv := lvs4) (k := big) fun rc cs K r h => ?_)
  unfold adq4 at h
  split at h
  · exact ⟨_, hA _ _ _ _ _ h, fun p hp => by unfold tok4 at hp; split at hp; exact hp; cases hp⟩
  · cases h

/-! targum/targumlaw13.ResolveTurns -/
def lvs5 : Nat → Option (List (Nat × Co))
  | _ => none
section
variable (C : Nat → Env → (Env → Option Out) → Option Out) (N14 : Ty14) (N16 : Ty16) (N20 : Ty20) (N21 : Ty21)
def gam5 : List (Nat × Fn1) := [(14, adp14 N14), (16, adp16 N16), (20, adp20 N20), (21, adp21 N21)]
noncomputable def bod5 : Code := Tryz.f5.body.getD .skip
noncomputable def run5 (k : Nat) (a0 : Int) (a1 : Int) (Kt : Tk5) : Option Out := runK Tryz.prog (lookG (gam5 N14 N16 N20 N21)) 5 lvs5 C k Tryz.f5 none [.s (.int .u32 a0), .s (.int .u8 a1)] (tok5 Kt)
theorem run5_eq (k : Nat) (a0 : Int) (a1 : Int) (Kt : Tk5) : run5 C N14 N16 N20 N21 k a0 a1 Kt =
  (N14 fun r1 => (bif (!r1) then (Kt false) else (N20 (IntKind.i64.wrap a0) fun r2 => (bif ((a1.tmod 8) == 0) then (N21 ([48, 111, 55] : BY) ([116, 97, 103, 58, 121, 97, 109, 108, 46, 111, 114, 103, 44, 50, 48, 48, 50, 58, 115, 116, 114] : BY) ([48, 111, 55] : BY) ([116, 97, 103, 58, 121, 97, 109, 108, 46, 111, 114, 103, 44, 50, 48, 48, 50, 58, 105, 110, 116] : BY) ([55] : BY) fun r3 => (bif r3 then (N21 ([48, 49, 48] : BY) ([116, 97, 103, 58, 121, 97, 109, 108, 46, 111, 114, 103, 44, 50, 48, 48, 50, 58, 105, 110, 116] : BY) ([56] : BY) ([116, 97, 103, 58, 121, 97, 109, 108, 46, 111, 114, 103, 44, 50, 48, 48, 50, 58, 105, 110, 116] : BY) ([49, 48] : BY) fun r4 => (bif r4 then (N21 ([48, 56] : BY) ([116, 97, 103, 58, 121, 97, 109, 108, 46, 111, 114, 103, 44, 50, 48, 48, 50, 58, 115, 116, 114] : BY) ([48, 56] : BY) ([116, 97, 103, 58, 121, 97, 109, 108, 46, 111, 114, 103, 44, 50, 48, 48, 50, 58, 105, 110, 116] : BY) ([56] : BY) fun r5 => (Kt r5)) else (Kt false))) else (Kt false))) else (bif ((a1.tmod 8) == 1) then ((cut r2 none (some (1 : Int))).bind fun s6 => ((cat ([49, 58, 48] : BY) s6).bind fun s7 => ((at? r2 0).bind fun b8 => ((cut r2 none (some (1 : Int))).bind fun s9 => ((cat ([49, 58, 48] : BY) s9).bind fun s10 => (N20 (IntKind.i64.wrap ((60 : Int) + (IntKind.i64.wrap (IntKind.u8.wrap ((b8.toNat : Int) - 48))))) fun r11 => (N21 s7 ([116, 97, 103, 58, 121, 97, 109, 108, 46, 111, 114, 103, 44, 50, 48, 48, 50, 58, 105, 110, 116] : BY) r11 ([116, 97, 103, 58, 121, 97, 109, 108, 46, 111, 114, 103, 44, 50, 48, 48, 50, 58, 115, 116, 114] : BY) s10 fun r12 => (Kt r12)))))))) else (bif ((a1.tmod 8) == 2) then ((cat ([49, 95] : BY) r2).bind fun s13 => ((cat ([49] : BY) r2).bind fun s14 => ((cat ([49, 95] : BY) r2).bind fun s15 => (N21 s13 ([116, 97, 103, 58, 121, 97, 109, 108, 46, 111, 114, 103, 44, 50, 48, 48, 50, 58, 105, 110, 116] : BY) s14 ([116, 97, 103, 58, 121, 97, 109, 108, 46, 111, 114, 103, 44, 50, 48, 48, 50, 58, 115, 116, 114] : BY) s15 fun r16 => (Kt r16))))) else (bif ((a1.tmod 8) == 3) then ((cat ([49, 101] : BY) r2).bind fun s17 => ((cat ([49, 101] : BY) r2).bind fun s18 => ((cat ([49, 46, 101, 43] : BY) r2).bind fun s19 => (N21 s17 ([116, 97, 103, 58, 121, 97, 109, 108, 46, 111, 114, 103, 44, 50, 48, 48, 50, 58, 115, 116, 114] : BY) s18 ([116, 97, 103, 58, 121, 97, 109, 108, 46, 111, 114, 103, 44, 50, 48, 48, 50, 58, 102, 108, 111, 97, 116] : BY) s19 fun r20 => (bif r20 then ((cat ([49, 46, 48, 101] : BY) r2).bind fun s21 => ((cat ([49, 46, 48, 101] : BY) r2).bind fun s22 => ((cat ([49, 46, 101, 43] : BY) r2).bind fun s23 => (N21 s21 ([116, 97, 103, 58, 121, 97, 109, 108, 46, 111, 114, 103, 44, 50, 48, 48, 50, 58, 115, 116, 114] : BY) s22 ([116, 97, 103, 58, 121, 97, 109, 108, 46, 111, 114, 103, 44, 50, 48, 48, 50, 58, 102, 108, 111, 97, 116] : BY) s23 fun r24 => (Kt r24))))) else (Kt false)))))) else (bif ((a1.tmod 8) == 4) then (N21 ([45, 48, 120, 49] : BY) ([116, 97, 103, 58, 121, 97, 109, 108, 46, 111, 114, 103, 44, 50, 48, 48, 50, 58, 105, 110, 116] : BY) ([45, 49] : BY) ([116, 97, 103, 58, 121, 97, 109, 108, 46, 111, 114, 103, 44, 50, 48, 48, 50, 58, 115, 116, 114] : BY) ([45, 48, 120, 49] : BY) fun r25 => (bif r25 then (N21 ([48, 98, 49] : BY) ([116, 97, 103, 58, 121, 97, 109, 108, 46, 111, 114, 103, 44, 50, 48, 48, 50, 58, 105, 110, 116] : BY) ([49] : BY) ([116, 97, 103, 58, 121, 97, 109, 108, 46, 111, 114, 103, 44, 50, 48, 48, 50, 58, 115, 116, 114] : BY) ([48, 98, 49] : BY) fun r26 => (Kt r26)) else (Kt false))) else (bif ((a1.tmod 8) == 5) then (N21 ([50, 48, 48, 49, 45, 49, 50, 45, 49, 52] : BY) ([116, 97, 103, 58, 121, 97, 109, 108, 46, 111, 114, 103, 44, 50, 48, 48, 50, 58, 116, 105, 109, 101, 115, 116, 97, 109, 112] : BY) ([50, 48, 48, 49, 45, 49, 50, 45, 49, 52] : BY) ([116, 97, 103, 58, 121, 97, 109, 108, 46, 111, 114, 103, 44, 50, 48, 48, 50, 58, 115, 116, 114] : BY) ([50, 48, 48, 49, 45, 49, 50, 45, 49, 52] : BY) fun r27 => (Kt r27)) else (bif ((a1.tmod 8) == 6) then (N21 ([111, 102, 102] : BY) ([116, 97, 103, 58, 121, 97, 109, 108, 46, 111, 114, 103, 44, 50, 48, 48, 50, 58, 98, 111, 111, 108] : BY) ([102, 97, 108, 115, 101] : BY) ([116, 97, 103, 58, 121, 97, 109, 108, 46, 111, 114, 103, 44, 50, 48, 48, 50, 58, 115, 116, 114] : BY) ([111, 102, 102] : BY) fun r28 => (bif r28 then (N21 ([84, 82, 85, 69] : BY) ([116, 97, 103, 58, 121, 97, 109, 108, 46, 111, 114, 103, 44, 50, 48, 48, 50, 58, 98, 111, 111, 108] : BY) ([116, 114, 117, 101] : BY) ([116, 97, 103, 58, 121, 97, 109, 108, 46, 111, 114, 103, 44, 50, 48, 48, 50, 58, 98, 111, 111, 108] : BY) ([116, 114, 117, 101] : BY) fun r29 => (Kt r29)) else (Kt false))) else ((cat ([49] : BY) r2).bind fun s30 => ((cat ([49] : BY) r2).bind fun s31 => ((cat ([49] : BY) r2).bind fun s32 => (N21 s30 ([116, 97, 103, 58, 121, 97, 109, 108, 46, 111, 114, 103, 44, 50, 48, 48, 50, 58, 105, 110, 116] : BY) s31 ([116, 97, 103, 58, 121, 97, 109, 108, 46, 111, 114, 103, 44, 50, 48, 48, 50, 58, 105, 110, 116] : BY) s32 fun r33 => (bif r33 then ((cat ([48, 46] : BY) r2).bind fun s34 => ((cat s34 ([49] : BY)).bind fun s35 => ((cat ([48, 46] : BY) r2).bind fun s36 => ((cat s36 ([49] : BY)).bind fun s37 => (N16 12 s37 fun r38 r39 => ((cat ([48, 46] : BY) r2).bind fun s40 => ((cat s40 ([49] : BY)).bind fun s41 => (N16 12 s41 fun r42 r43 => ((cat ([48, 46] : BY) r2).bind fun s44 => ((cat s44 ([49] : BY)).bind fun s45 => (N16 11 s45 fun r46 r47 => (N21 s35 r38 r43 ([116, 97, 103, 58, 121, 97, 109, 108, 46, 111, 114, 103, 44, 50, 48, 48, 50, 58, 102, 108, 111, 97, 116] : BY) r47 fun r48 => (Kt r48))))))))))))) else (Kt false)))))))))))))))) := by kernel_rfl
end
theorem as5 {G : World → Prop} {ng : Nat} (S : Stays Tryz.prog G ng) {N14 : Ty14} {N16 : Ty16} {N20 : Ty20} {N21 : Ty21} (h14 : FnIs Tryz.prog G ng 14 (adp14 N14)) (h16 : FnIs Tryz.prog G ng 16 (adp16 N16)) (h20 : FnIs Tryz.prog G ng 20 (adp20 N20)) (h21 : FnIs Tryz.prog G ng 21 (adp21 N21)) {A : Ty5} (hA : ∀ (a0 : Int) (a1 : Int) (Kt : Tk5) (r : Out), A a0 a1 Kt = some r → run5 cut0 N14 N16 N20 N21 big a0 a1 Kt = some r) : FnIs Tryz.prog G ng 5 (adp5 A) := by
  refine spec_run cut0_eq S (l := gam5 N14 N16 N20 N21) (by intro p hp; simp only [gam5, List.mem_cons, List.not_mem_nil, or_false] at hp; rcases hp with rfl | rfl | rfl | rfl <;> assumption) Tryz.func5 (by kernel_rfl) (nn := 5) (Lv := lvs5) (k := big) fun rc cs K r h => ?_
  unfold adp5 at h
  split at h
  · exact ⟨_, hA _ _ _ _ h, fun p hp => by unfold tok5 at hp; split at hp; exact hp; cases hp⟩
  · cases h

/-! targum/targumlaw13.known -/
def lvs14 : Nat → Option (List (Nat × Co))
  | _ => none
section
variable (C : Nat → Env → (Env → Option Out) → Option Out) (N16 : Ty16) (N18 : Ty18)
def gam14 : List (Nat × Fn1) := [(16, adp16 N16), (18, adp18 N18)]
noncomputable def bod14 : Code := Tryz.f14.body.getD .skip
noncomputable def run14 (k : Nat) (Kt : Tk14) : Option Out := runK Tryz.prog (lookG (gam14 N16 N18)) 1 lvs14 C k Tryz.f14 none [] (tok14 Kt)
theorem run14_eq (k : Nat) (Kt : Tk14) : run14 C N16 N18 k Kt =
  (N16 11 ([121, 101, 115] : BY) fun r1 r2 => (bif ((r1 == ([116, 97, 103, 58, 121, 97, 109, 108, 46, 111, 114, 103, 44, 50, 48, 48, 50, 58, 98, 111, 111, 108] : BY)) && ((r2 == ([116, 114, 117, 101] : BY)) && true)) then (N16 12 ([48, 111, 49, 55] : BY) fun r3 r4 => (bif ((r3 == ([116, 97, 103, 58, 121, 97, 109, 108, 46, 111, 114, 103, 44, 50, 48, 48, 50, 58, 105, 110, 116] : BY)) && ((r4 == ([49, 53] : BY)) && true)) then (N16 12 ([121, 101, 115] : BY) fun r5 r6 => (bif ((r5 == ([116, 97, 103, 58, 121, 97, 109, 108, 46, 111, 114, 103, 44, 50, 48, 48, 50, 58, 115, 116, 114] : BY)) && ((r6 == ([121, 101, 115] : BY)) && true)) then (N16 11 ([50, 48, 48, 49, 45, 48, 49, 45, 48, 49] : BY) fun r7 r8 => (bif ((r7 == ([116, 97, 103, 58, 121, 97, 109, 108, 46, 111, 114, 103, 44, 50, 48, 48, 50, 58, 116, 105, 109, 101, 115, 116, 97, 109, 112] : BY)) && ((r8 == ([50, 48, 48, 49, 45, 48, 49, 45, 48, 49] : BY)) && true)) then (N16 11 ([] : BY) fun r9 r10 => (bif ((r9 == ([116, 97, 103, 58, 121, 97, 109, 108, 46, 111, 114, 103, 44, 50, 48, 48, 50, 58, 110, 117, 108, 108] : BY)) && ((r10 == ([] : BY)) && true)) then (N18 ([48, 49, 48] : BY) fun r11 => (bif (!r11) then (N18 ([60, 60] : BY) fun r12 => (Kt r12)) else (Kt false))) else (Kt false))) else (Kt false))) else (Kt false))) else (Kt false))) else (Kt false))) := by kernel_rfl
end
theorem as14 {G : World → Prop} {ng : Nat} (S : Stays Tryz.prog G ng) {N16 : Ty16} {N18 : Ty18} (h16 : FnIs Tryz.prog G ng 16 (adp16 N16)) (h18 : FnIs Tryz.prog G ng 18 (adp18 N18)) {A : Ty14} (hA : ∀ (Kt : Tk14) (r : Out), A Kt = some r → run14 cut0 N16 N18 big Kt = some r) : FnIs Tryz.prog G ng 14 (adp14 A) := by
  refine spec_run cut0_eq S (l := gam14 N16 N18) (by intro p hp; simp only [gam14, List.mem_cons, List.not_mem_nil, or_false] at hp; rcases hp with rfl | rfl <;> assumption) Tryz.func14 (by kernel_rfl) (nn := 1) (Lv := lvs14) (k := big) fun rc cs K r h => ?_
  unfold adp14 at h
  split at h
  · exact ⟨_, hA _ _ h, fun p hp => by unfold tok14 at hp; split at hp; exact hp; cases hp⟩
  · cases h

/-! targum/targumlaw13.some -/
def lvs15 : Nat → Option (List (Nat × Co))
  | 1000323 => some [(0, .k), (3, .k), (4, .k), (5, .k)]
  | _ => none
section
variable (C : Nat → Env → (Env → Option Out) → Option Out)
def gam15 : List (Nat × Fn1) := []
noncomputable def bod15 : Code := Tryz.f15.body.getD .skip
noncomputable def run15 (k : Nat) (a0 : List Int) (Kt : Tk15) : Option Out := runK Tryz.prog (lookG (gam15)) 6 lvs15 C k Tryz.f15 none [.ro (.ints .u8 a0)] (tok15 Kt)
noncomputable def l1_15 (k : Nat) (j0 : Nat) (v0 : List Int) (v3 : List BY) (v4 : BY) (v5 : Int) (Kt : Tk15) : Option Out := C 1000323 ([.c (.ro (.ints .u8 v0)), .u, .u, .box 64 (.strs v3), .c (.s (.str v4)), .c (.s (.int .i64 v5))] ++ us 17) fun e => headK Tryz.prog (lookG (gam15)) 6 lvs15 C k j0 bod15 [1, 1, 1, 0, 1, 0] e (fin Tryz.prog Tryz.f15 none (tok15 Kt))
theorem run15_eq (k : Nat) (a0 : List Int) (Kt : Tk15) : run15 C k a0 Kt =
  (l1_15 C k k a0 (((((((((((((((((((((((((List.replicate 24 ([] : BY)).set 0 [121, 101, 115]).set 1 [110, 111]).set 2 [48]).set 3 [49]).set 4 [56]).set 5 [48, 120]).set 6 [48, 111]).set 7 [48, 98]).set 8 [95]).set 9 [58]).set 10 [46]).set 11 [101]).set 12 [69]).set 13 [43]).set 14 [45]).set 15 [105, 110, 102]).set 16 [110, 97, 110]).set 17 [50, 48, 48, 49, 45, 48, 49, 45, 48, 49]).set 18 [32]).set 19 [84]).set 20 [116, 114, 117, 101]).set 21 [126]).set 22 [60, 60]).set 23 [120]) ([] : BY) 0 Kt) := by kernel_rfl
theorem l1_15_eq (hC : ∀ key e t, C key e t = t e) (k : Nat) (j0 : Nat) (v0 : List Int) (v3 : List BY) (v4 : BY) (v5 : Int) (Kt : Tk15) : l1_15 C k (j0 + 1) v0 v3 v4 v5 Kt =
  (bif (decide (v5 < (v0.length : Int))) then (bif (decide (0 ≤ v5) && decide (v5 < (v0.length : Int))) then ((v0[v5.toNat]?).bind fun x1 => (bif (decide (0 ≤ (x1.tmod 24)) && decide ((x1.tmod 24) < 24)) then ((v3[(0 + (x1.tmod 24).toNat)]?).bind fun x2 => ((cat v4 x2).bind fun s3 => (l1_15 C k j0 v0 v3 s3 (IntKind.i64.wrap (v5 + 1)) Kt))) else none)) else none) else (Kt v4)) := (hC _ _ _).trans (by kernel_rfl)
end
theorem as15 {G : World → Prop} {ng : Nat} (S : Stays Tryz.prog G ng) {A : Ty15} (hA : ∀ (a0 : List Int) (Kt : Tk15) (r : Out), A a0 Kt = some r → run15 cut0 big a0 Kt = some r) : FnIs Tryz.prog G ng 15 (adp15 A) := by
  refine FnIs.norm (hd := by rfl) (A := adq15 A) (spec_run cut0_eq S (l := gam15) (by intro p hp; cases hp) Tryz.func15 (by kernel_rfl) (nn := 6) (Lv := lvs15) (k := big) fun rc cs K r h => ?_)
  unfold adq15 at h
  split at h
  · exact ⟨_, hA _ _ _ h, fun p hp => by unfold tok15 at hp; split at hp; exact hp; cases hp⟩
  · cases h

/-! targum/targumhelp.Version -/
def lvs19 : Nat → Option (List (Nat × Co))
  | _ => none
section
variable (C : Nat → Env → (Env → Option Out) → Option Out)
def gam19 : List (Nat × Fn1) := []
noncomputable def bod19 : Code := Tryz.f19.body.getD .skip
noncomputable def run19 (k : Nat) (a0 : Bool) (Kt : Tk19) : Option Out := runK Tryz.prog (lookG (gam19)) 3 lvs19 C k Tryz.f19 none [.s (.bool a0)] (tok19 Kt)
theorem run19_eq (k : Nat) (a0 : Bool) (Kt : Tk19) : run19 C k a0 Kt =
  (bif a0 then (Kt 11) else (Kt 12)) := by kernel_rfl
end
theorem as19 {G : World → Prop} {ng : Nat} (S : Stays Tryz.prog G ng) {A : Ty19} (hA : ∀ (a0 : Bool) (Kt : Tk19) (r : Out), A a0 Kt = some r → run19 cut0 big a0 Kt = some r) : FnIs Tryz.prog G ng 19 (adp19 A) := by
  refine spec_run cut0_eq S (l := gam19) (by intro p hp; cases hp) Tryz.func19 (by kernel_rfl) (nn := 3) (Lv := lvs19) (k := big) fun rc cs K r h => ?_
  unfold adp19 at h
  split at h
  · exact ⟨_, hA _ _ _ h, fun p hp => by unfold tok19 at hp; split at hp; exact hp; cases hp⟩
  · cases h

/-! targum/targumlaw13.one -/
def lvs21 : Nat → Option (List (Nat × Co))
  | _ => none
section
variable (C : Nat → Env → (Env → Option Out) → Option Out) (N16 : Ty16)
def gam21 : List (Nat × Fn1) := [(16, adp16 N16)]
noncomputable def bod21 : Code := Tryz.f21.body.getD .skip
noncomputable def run21 (k : Nat) (a0 : BY) (a1 : BY) (a2 : BY) (a3 : BY) (a4 : BY) (Kt : Tk21) : Option Out := runK Tryz.prog (lookG (gam21 N16)) 11 lvs21 C k Tryz.f21 none [.s (.str a0), .s (.str a1), .s (.str a2), .s (.str a3), .s (.str a4)] (tok21 Kt)
theorem run21_eq (k : Nat) (a0 : BY) (a1 : BY) (a2 : BY) (a3 : BY) (a4 : BY) (Kt : Tk21) : run21 C N16 k a0 a1 a2 a3 a4 Kt =
  (N16 11 a0 fun r1 r2 => (bif ((r1 == a1) && ((r2 == a2) && true)) then (N16 12 a0 fun r3 r4 => (Kt ((r3 == a3) && ((r4 == a4) && true)))) else (Kt false))) := by kernel_rfl
end
theorem as21 {G : World → Prop} {ng : Nat} (S : Stays Tryz.prog G ng) {N16 : Ty16} (h16 : FnIs Tryz.prog G ng 16 (adp16 N16)) {A : Ty21} (hA : ∀ (a0 : BY) (a1 : BY) (a2 : BY) (a3 : BY) (a4 : BY) (Kt : Tk21) (r : Out), A a0 a1 a2 a3 a4 Kt = some r → run21 cut0 N16 big a0 a1 a2 a3 a4 Kt = some r) : FnIs Tryz.prog G ng 21 (adp21 A) := by
  refine spec_run cut0_eq S (l := gam21 N16) (by intro p hp; simp only [gam21, List.mem_cons, List.not_mem_nil, or_false] at hp; rcases hp with rfl <;> assumption) Tryz.func21 (by kernel_rfl) (nn := 11) (Lv := lvs21) (k := big) fun rc cs K r h => ?_
  unfold adp21 at h
  split at h
  · exact ⟨_, hA _ _ _ _ _ _ _ h, fun p hp => by unfold tok21 at hp; split at hp; exact hp; cases hp⟩
  · cases h

end Go.Proofs.YtffmgholjdfcnaaGreatDoor
