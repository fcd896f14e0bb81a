/- Pieces of the program's functions, printed by gen.py (a program of this session's own), and the equations that the kernel finds. -/
import Derived.Test.YtffmgholjdfcnaaGreatDoorGW
import Derived.Test.YtffmgholjdfcnaaGreatDoorProg
set_option maxRecDepth 100000
set_option linter.unusedVariables false
namespace Go.Proofs.YtffmgholjdfcnaaGreatDoor
open Go Go.Proofs AM
/-! targum/word.Bool -/
def lvs40 : Nat → Option (List (Nat × Co))
  | 1730 => some [(0, .k), (6, .k)]
  | 1858 => some [(6, .k)]
  | 1921 => some []
  | 5000129 => some [(0, .k), (6, .k), (7, .k), (8, .k)]
  | 5000193 => some [(0, .k), (6, .k), (7, .k), (17, .k)]
  | 5000257 => some [(6, .k), (7, .k), (26, .k)]
  | 5000321 => some [(6, .k), (30, .k)]
  | _ => none
section
variable (C : Nat → Env → (Env → Option Out) → Option Out)
def gam40 : List (Nat × Fn1) := []
noncomputable def bod40 : Code := Tryz.f40.body.getD .skip
noncomputable def run40 (k : Nat) (a0 : Int) (a1 : BY) (Kt : Tk40) : Option Out := runK Tryz.prog (lookG (gam40)) 7 lvs40 C k Tryz.f40 none [.s (.int .i64 a0), .s (.str a1)] (tok40 Kt)
noncomputable def p1_40 (k : Nat) (v0 : Int) (v6 : Bool) (v7 : BY) (v8 : Bool) (Kt : Tk40) : Option Out := C 5000129 ([.c (.s (.int .i64 v0)), .u, .u, .u, .u, .u, .c (.s (.bool v6)), .c (.s (.str v7)), .c (.s (.bool v8))] ++ us 33) fun e => atK Tryz.prog (lookG (gam40)) 7 lvs40 C k bod40 [1, 1, 0, 1, 0, 0, 0, 0, 0, 0, 0, 0, 0, 0, 0, 1] e (fin Tryz.prog Tryz.f40 none (tok40 Kt))
noncomputable def p2_40 (k : Nat) (v0 : Int) (v6 : Bool) (Kt : Tk40) : Option Out := C 1730 ([.c (.s (.int .i64 v0)), .u, .u, .u, .u, .u, .c (.s (.bool v6))] ++ us 35) fun e => atK Tryz.prog (lookG (gam40)) 7 lvs40 C k bod40 [1, 1, 0, 1, 0, 0, 0, 0, 0, 1] e (fin Tryz.prog Tryz.f40 none (tok40 Kt))
noncomputable def p3_40 (k : Nat) (v0 : Int) (v6 : Bool) (v7 : BY) (v17 : Bool) (Kt : Tk40) : Option Out := C 5000193 ([.c (.s (.int .i64 v0)), .u, .u, .u, .u, .u, .c (.s (.bool v6)), .c (.s (.str v7))] ++ us 9 ++ [.c (.s (.bool v17))] ++ us 24) fun e => atK Tryz.prog (lookG (gam40)) 7 lvs40 C k bod40 [1, 1, 0, 1, 0, 0, 0, 0, 0, 0, 0, 0, 0, 0, 1, 0, 1] e (fin Tryz.prog Tryz.f40 none (tok40 Kt))
noncomputable def p4_40 (k : Nat) (v6 : Bool) (v7 : BY) (v26 : Bool) (Kt : Tk40) : Option Out := C 5000257 (us 6 ++ [.c (.s (.bool v6)), .c (.s (.str v7))] ++ us 18 ++ [.c (.s (.bool v26))] ++ us 15) fun e => atK Tryz.prog (lookG (gam40)) 7 lvs40 C k bod40 [1, 1, 0, 1, 0, 0, 0, 0, 0, 0, 0, 0, 0, 0, 1, 1, 0, 1] e (fin Tryz.prog Tryz.f40 none (tok40 Kt))
noncomputable def p5_40 (k : Nat) (v6 : Bool) (Kt : Tk40) : Option Out := C 1858 (us 6 ++ [.c (.s (.bool v6))] ++ us 35) fun e => atK Tryz.prog (lookG (gam40)) 7 lvs40 C k bod40 [1, 1, 0, 1, 0, 1] e (fin Tryz.prog Tryz.f40 none (tok40 Kt))
noncomputable def p6_40 (k : Nat) (v6 : Bool) (v30 : Bool) (Kt : Tk40) : Option Out := C 5000321 (us 6 ++ [.c (.s (.bool v6))] ++ us 23 ++ [.c (.s (.bool v30))] ++ us 11) fun e => atK Tryz.prog (lookG (gam40)) 7 lvs40 C k bod40 [1, 1, 0, 1, 0, 0, 0, 0, 0, 0, 0, 0, 0, 0, 1, 1, 1, 1] e (fin Tryz.prog Tryz.f40 none (tok40 Kt))
noncomputable def p7_40 (k : Nat) (Kt : Tk40) : Option Out := C 1921 (us 42) fun e => atK Tryz.prog (lookG (gam40)) 7 lvs40 C k bod40 [1, 1, 1] e (fin Tryz.prog Tryz.f40 none (tok40 Kt))
theorem run40_eq (k : Nat) (a0 : Int) (a1 : BY) (Kt : Tk40) : run40 C k a0 a1 Kt =
  (bif (a1 == ([121] : BY)) then (p1_40 C k a0 false a1 (a1 == ([121] : BY)) Kt) else (bif (a1 == ([89] : BY)) then (p1_40 C k a0 false a1 (a1 == ([89] : BY)) Kt) else (bif (a1 == ([121, 101, 115] : BY)) then (p1_40 C k a0 false a1 (a1 == ([121, 101, 115] : BY)) Kt) else (bif (a1 == ([89, 101, 115] : BY)) then (p1_40 C k a0 false a1 (a1 == ([89, 101, 115] : BY)) Kt) else (bif (a1 == ([89, 69, 83] : BY)) then (p1_40 C k a0 false a1 (a1 == ([89, 69, 83] : BY)) Kt) else (bif (a1 == ([111, 110] : BY)) then (p1_40 C k a0 false a1 (a1 == ([111, 110] : BY)) Kt) else (bif (a1 == ([79, 110] : BY)) then (p1_40 C k a0 false a1 (a1 == ([79, 110] : BY)) Kt) else (p1_40 C k a0 false a1 (a1 == ([79, 78] : BY)) Kt)))))))) := by kernel_rfl
theorem p1_40_eq (hC : ∀ key e t, C key e t = t e) (k : Nat) (v0 : Int) (v6 : Bool) (v7 : BY) (v8 : Bool) (Kt : Tk40) : p1_40 C k v0 v6 v7 v8 Kt =
  (bif v8 then (p2_40 C k v0 true Kt) else (bif (v7 == ([110] : BY)) then (p3_40 C k v0 v6 v7 (v7 == ([110] : BY)) Kt) else (bif (v7 == ([78] : BY)) then (p3_40 C k v0 v6 v7 (v7 == ([78] : BY)) Kt) else (bif (v7 == ([110, 111] : BY)) then (p3_40 C k v0 v6 v7 (v7 == ([110, 111] : BY)) Kt) else (bif (v7 == ([78, 111] : BY)) then (p3_40 C k v0 v6 v7 (v7 == ([78, 111] : BY)) Kt) else (bif (v7 == ([78, 79] : BY)) then (p3_40 C k v0 v6 v7 (v7 == ([78, 79] : BY)) Kt) else (bif (v7 == ([111, 102, 102] : BY)) then (p3_40 C k v0 v6 v7 (v7 == ([111, 102, 102] : BY)) Kt) else (bif (v7 == ([79, 102, 102] : BY)) then (p3_40 C k v0 v6 v7 (v7 == ([79, 102, 102] : BY)) Kt) else (p3_40 C k v0 v6 v7 (v7 == ([79, 70, 70] : BY)) Kt))))))))) := (hC _ _ _).trans (by kernel_rfl)
theorem p2_40_eq (hC : ∀ key e t, C key e t = t e) (k : Nat) (v0 : Int) (v6 : Bool) (Kt : Tk40) : p2_40 C k v0 v6 Kt =
  (bif v6 then (Kt (v0 == 11) (v0 == 11)) else (Kt false (v0 == 11))) := (hC _ _ _).trans (by kernel_rfl)
theorem p3_40_eq (hC : ∀ key e t, C key e t = t e) (k : Nat) (v0 : Int) (v6 : Bool) (v7 : BY) (v17 : Bool) (Kt : Tk40) : p3_40 C k v0 v6 v7 v17 Kt =
  (bif v17 then (p2_40 C k v0 v6 Kt) else (bif (v7 == ([116, 114, 117, 101] : BY)) then (p4_40 C k v6 v7 (v7 == ([116, 114, 117, 101] : BY)) Kt) else (bif (v7 == ([84, 114, 117, 101] : BY)) then (p4_40 C k v6 v7 (v7 == ([84, 114, 117, 101] : BY)) Kt) else (p4_40 C k v6 v7 (v7 == ([84, 82, 85, 69] : BY)) Kt)))) := (hC _ _ _).trans (by kernel_rfl)
theorem p4_40_eq (hC : ∀ key e t, C key e t = t e) (k : Nat) (v6 : Bool) (v7 : BY) (v26 : Bool) (Kt : Tk40) : p4_40 C k v6 v7 v26 Kt =
  (bif v26 then (p5_40 C k true Kt) else (bif (v7 == ([102, 97, 108, 115, 101] : BY)) then (p6_40 C k v6 (v7 == ([102, 97, 108, 115, 101] : BY)) Kt) else (bif (v7 == ([70, 97, 108, 115, 101] : BY)) then (p6_40 C k v6 (v7 == ([70, 97, 108, 115, 101] : BY)) Kt) else (p6_40 C k v6 (v7 == ([70, 65, 76, 83, 69] : BY)) Kt)))) := (hC _ _ _).trans (by kernel_rfl)
theorem p5_40_eq (hC : ∀ key e t, C key e t = t e) (k : Nat) (v6 : Bool) (Kt : Tk40) : p5_40 C k v6 Kt =
  (Kt v6 true) := (hC _ _ _).trans (by kernel_rfl)
theorem p6_40_eq (hC : ∀ key e t, C key e t = t e) (k : Nat) (v6 : Bool) (v30 : Bool) (Kt : Tk40) : p6_40 C k v6 v30 Kt =
  (bif v30 then (p5_40 C k v6 Kt) else (p7_40 C k Kt)) := (hC _ _ _).trans (by kernel_rfl)
theorem p7_40_eq (hC : ∀ key e t, C key e t = t e) (k : Nat) (Kt : Tk40) : p7_40 C k Kt =
  (Kt false false) := (hC _ _ _).trans (by kernel_rfl)
end
theorem as40 {G : World → Prop} {ng : Nat} (S : Stays Tryz.prog G ng) {A : Ty40} (hA : ∀ (a0 : Int) (a1 : BY) (Kt : Tk40) (r : Out), A a0 a1 Kt = some r → run40 cut0 big a0 a1 Kt = some r) : FnIs Tryz.prog G ng 40 (adp40 A) := by
  refine spec_run cut0_eq S (l := gam40) (by intro p hp; cases hp) Tryz.func40 (by kernel_rfl) (nn := 7) (Lv := lvs40) (k := big) fun rc cs K r h => ?_
  unfold adp40 at h
  split at h
  · exact ⟨_, hA _ _ _ _ h, fun p hp => by unfold tok40 at hp; split at hp; exact hp; cases hp⟩
  · cases h

/-! targum/word.Null -/
def lvs42 : Nat → Option (List (Nat × Co))
  | 514 => some [(4, .k)]
  | _ => none
section
variable (C : Nat → Env → (Env → Option Out) → Option Out)
def gam42 : List (Nat × Fn1) := []
noncomputable def bod42 : Code := Tryz.f42.body.getD .skip
noncomputable def run42 (k : Nat) (a0 : BY) (Kt : Tk42) : Option Out := runK Tryz.prog (lookG (gam42)) 3 lvs42 C k Tryz.f42 none [.s (.str a0)] (tok42 Kt)
noncomputable def p1_42 (k : Nat) (v4 : Bool) (Kt : Tk42) : Option Out := C 514 [.u, .u, .u, .u, .c (.s (.bool v4)), .u, .u, .u, .u, .u] fun e => atK Tryz.prog (lookG (gam42)) 3 lvs42 C k bod42 [1, 0, 1, 0, 1] e (fin Tryz.prog Tryz.f42 none (tok42 Kt))
theorem run42_eq (k : Nat) (a0 : BY) (Kt : Tk42) : run42 C k a0 Kt =
  (bif (a0 == ([] : BY)) then (p1_42 C k (a0 == ([] : BY)) Kt) else (bif (a0 == ([126] : BY)) then (p1_42 C k (a0 == ([126] : BY)) Kt) else (bif (a0 == ([110, 117, 108, 108] : BY)) then (p1_42 C k (a0 == ([110, 117, 108, 108] : BY)) Kt) else (bif (a0 == ([78, 117, 108, 108] : BY)) then (p1_42 C k (a0 == ([78, 117, 108, 108] : BY)) Kt) else (p1_42 C k (a0 == ([78, 85, 76, 76] : BY)) Kt))))) := by kernel_rfl
theorem p1_42_eq (hC : ∀ key e t, C key e t = t e) (k : Nat) (v4 : Bool) (Kt : Tk42) : p1_42 C k v4 Kt =
  (bif v4 then (Kt true) else (Kt false)) := (hC _ _ _).trans (by kernel_rfl)
end
theorem as42 {G : World → Prop} {ng : Nat} (S : Stays Tryz.prog G ng) {A : Ty42} (hA : ∀ (a0 : BY) (Kt : Tk42) (r : Out), A a0 Kt = some r → run42 cut0 big a0 Kt = some r) : FnIs Tryz.prog G ng 42 (adp42 A) := by
  refine spec_run cut0_eq S (l := gam42) (by intro p hp; cases hp) Tryz.func42 (by kernel_rfl) (nn := 3) (Lv := lvs42) (k := big) fun rc cs K r h => ?_
  unfold adp42 at h
  split at h
  · exact ⟨_, hA _ _ _ h, fun p hp => by unfold tok42 at hp; split at hp; exact hp; cases hp⟩
  · cases h

/-! targum/resolve.Plain -/
def lvs16 : Nat → Option (List (Nat × Co))
  | 450 => some [(1, .k), (4, .k), (6, .k), (7, .k), (8, .k), (25, .k)]
  | _ => none
section
variable (C : Nat → Env → (Env → Option Out) → Option Out) (N40 : Ty40) (N41 : Ty41) (N42 : Ty42) (N43 : Ty43)
def gam16 : List (Nat × Fn1) := [(40, adp40 N40), (41, adp41 N41), (42, adp42 N42), (43, adp43 N43)]
noncomputable def bod16 : Code := Tryz.f16.body.getD .skip
noncomputable def run16 (k : Nat) (a0 : Int) (a1 : BY) (Kt : Tk16) : Option Out := runK Tryz.prog (lookG (gam16 N40 N41 N42 N43)) 9 lvs16 C k Tryz.f16 none [.s (.int .i64 a0), .s (.str a1)] (tok16 Kt)
noncomputable def p1_16 (k : Nat) (v1 : BY) (v4_0 : BY) (v4_1 : BY) (v6 : Bool) (v7_0 : BY) (v7_1 : BY) (v8 : Bool) (v25 : Bool) (Kt : Tk16) : Option Out := C 450 ([.u, .c (.s (.str v1)), .u, .u, .box 27 (.ss [.str v4_0, .str v4_1]), .u, .c (.s (.bool v6)), .box 27 (.ss [.str v7_0, .str v7_1]), .c (.s (.bool v8))] ++ us 16 ++ [.c (.s (.bool v25))] ++ us 14) fun e => atK Tryz.prog (lookG (gam16 N40 N41 N42 N43)) 9 lvs16 C k bod16 [1, 1, 1, 0, 0, 1, 1, 1] e (fin Tryz.prog Tryz.f16 none (tok16 Kt))
theorem run16_eq (k : Nat) (a0 : Int) (a1 : BY) (Kt : Tk16) : run16 C N40 N41 N42 N43 k a0 a1 Kt =
  (N40 a0 a1 fun r1 r2 => (N41 a0 a1 fun r3 r4 r5 => (N42 a1 fun r6 => (bif r6 then (Kt ([116, 97, 103, 58, 121, 97, 109, 108, 46, 111, 114, 103, 44, 50, 48, 48, 50, 58, 110, 117, 108, 108] : BY) ([] : BY)) else (bif r2 then (p1_16 C N40 N41 N42 N43 k a1 ([] : BY) ([] : BY) r2 r3 r4 r5 r1 Kt) else (p1_16 C N40 N41 N42 N43 k a1 ([] : BY) ([] : BY) r2 r3 r4 r5 false Kt)))))) := by kernel_rfl
theorem p1_16_eq (hC : ∀ key e t, C key e t = t e) (k : Nat) (v1 : BY) (v4_0 : BY) (v4_1 : BY) (v6 : Bool) (v7_0 : BY) (v7_1 : BY) (v8 : Bool) (v25 : Bool) (Kt : Tk16) : p1_16 C N40 N41 N42 N43 k v1 v4_0 v4_1 v6 v7_0 v7_1 v8 v25 Kt =
  (bif v25 then (Kt ([116, 97, 103, 58, 121, 97, 109, 108, 46, 111, 114, 103, 44, 50, 48, 48, 50, 58, 98, 111, 111, 108] : BY) ([116, 114, 117, 101] : BY)) else (bif v6 then (Kt ([116, 97, 103, 58, 121, 97, 109, 108, 46, 111, 114, 103, 44, 50, 48, 48, 50, 58, 98, 111, 111, 108] : BY) ([102, 97, 108, 115, 101] : BY)) else (bif v8 then (Kt v7_0 v7_1) else (N43 v1 fun r7 => (Kt ([116, 97, 103, 58, 121, 97, 109, 108, 46, 111, 114, 103, 44, 50, 48, 48, 50, 58, 115, 116, 114] : BY) r7))))) := (hC _ _ _).trans (by kernel_rfl)
end
theorem as16 {G : World → Prop} {ng : Nat} (S : Stays Tryz.prog G ng) {N40 : Ty40} {N41 : Ty41} {N42 : Ty42} {N43 : Ty43} (h40 : FnIs Tryz.prog G ng 40 (adp40 N40)) (h41 : FnIs Tryz.prog G ng 41 (adp41 N41)) (h42 : FnIs Tryz.prog G ng 42 (adp42 N42)) (h43 : FnIs Tryz.prog G ng 43 (adp43 N43)) {A : Ty16} (hA : ∀ (a0 : Int) (a1 : BY) (Kt : Tk16) (r : Out), A a0 a1 Kt = some r → run16 cut0 N40 N41 N42 N43 big a0 a1 Kt = some r) : FnIs Tryz.prog G ng 16 (adp16 A) := by
  refine spec_run cut0_eq S (l := gam16 N40 N41 N42 N43) (by intro p hp; simp only [gam16, List.mem_cons, List.not_mem_nil, or_false] at hp; rcases hp with rfl | rfl | rfl | rfl <;> assumption) Tryz.func16 (by kernel_rfl) (nn := 9) (Lv := lvs16) (k := big) fun rc cs K r h => ?_
  unfold adp16 at h
  split at h
  · exact ⟨_, hA _ _ _ _ h, fun p hp => by unfold tok16 at hp; split at hp; exact hp; cases hp⟩
  · cases h

/-! targum/resolve.number -/
def lvs41 : Nat → Option (List (Nat × Co))
  | 834 => some [(4, .k), (12, .k), (44, .k)]
  | _ => none
section
variable (C : Nat → Env → (Env → Option Out) → Option Out) (N62 : Ty62) (N63 : Ty63) (N64 : Ty64) (N65 : Ty65) (N66 : Ty66) (N67 : Ty67)
def gam41 : List (Nat × Fn1) := [(62, adp62 N62), (63, adp63 N63), (64, adp64 N64), (65, adp65 N65), (66, adp66 N66), (67, adp67 N67)]
noncomputable def bod41 : Code := Tryz.f41.body.getD .skip
noncomputable def run41 (k : Nat) (a0 : Int) (a1 : BY) (Kt : Tk41) : Option Out := runK Tryz.prog (lookG (gam41 N62 N63 N64 N65 N66 N67)) 14 lvs41 C k Tryz.f41 none [.s (.int .i64 a0), .s (.str a1)] (tok41 Kt)
noncomputable def p1_41 (k : Nat) (v4_0 : BY) (v4_1 : BY) (v12 : BY) (v44 : Bool) (Kt : Tk41) : Option Out := C 834 ([.u, .u, .u, .u, .box 27 (.ss [.str v4_0, .str v4_1])] ++ us 7 ++ [.c (.s (.str v12))] ++ us 31 ++ [.c (.s (.bool v44)), .u, .u, .u]) fun e => atK Tryz.prog (lookG (gam41 N62 N63 N64 N65 N66 N67)) 14 lvs41 C k bod41 [1, 1, 1, 1, 1, 0, 1, 1] e (fin Tryz.prog Tryz.f41 none (tok41 Kt))
theorem run41_eq (k : Nat) (a0 : Int) (a1 : BY) (Kt : Tk41) : run41 C N62 N63 N64 N65 N66 N67 k a0 a1 Kt =
  (bif (a0 == 11) then (N64 a1 fun r1 r2 => (bif r2 then (Kt ([116, 97, 103, 58, 121, 97, 109, 108, 46, 111, 114, 103, 44, 50, 48, 48, 50, 58, 105, 110, 116] : BY) r1 true) else (N65 a1 fun r3 r4 r5 r6 r7 => (bif r7 then (N66 r3 r4 r5 r6 fun r8 => (Kt ([116, 97, 103, 58, 121, 97, 109, 108, 46, 111, 114, 103, 44, 50, 48, 48, 50, 58, 102, 108, 111, 97, 116] : BY) r8 true)) else (N67 a1 fun r9 r10 => (bif (a0 == 11) then (p1_41 C N62 N63 N64 N65 N66 N67 k ([] : BY) ([] : BY) r9 r10 Kt) else (p1_41 C N62 N63 N64 N65 N66 N67 k ([] : BY) ([] : BY) r9 false Kt))))))) else (N62 a1 fun r11 r12 => (bif r12 then (Kt ([116, 97, 103, 58, 121, 97, 109, 108, 46, 111, 114, 103, 44, 50, 48, 48, 50, 58, 105, 110, 116] : BY) r11 true) else (N63 a1 fun r13 r14 r15 r16 r17 => (bif r17 then (N66 r13 r14 r15 r16 fun r18 => (Kt ([116, 97, 103, 58, 121, 97, 109, 108, 46, 111, 114, 103, 44, 50, 48, 48, 50, 58, 102, 108, 111, 97, 116] : BY) r18 true)) else (N67 a1 fun r19 r20 => (bif (a0 == 11) then (p1_41 C N62 N63 N64 N65 N66 N67 k ([] : BY) ([] : BY) r19 r20 Kt) else (p1_41 C N62 N63 N64 N65 N66 N67 k ([] : BY) ([] : BY) r19 false Kt)))))))) := by kernel_rfl
theorem p1_41_eq (hC : ∀ key e t, C key e t = t e) (k : Nat) (v4_0 : BY) (v4_1 : BY) (v12 : BY) (v44 : Bool) (Kt : Tk41) : p1_41 C N62 N63 N64 N65 N66 N67 k v4_0 v4_1 v12 v44 Kt =
  (bif v44 then (Kt ([116, 97, 103, 58, 121, 97, 109, 108, 46, 111, 114, 103, 44, 50, 48, 48, 50, 58, 116, 105, 109, 101, 115, 116, 97, 109, 112] : BY) v12 true) else (Kt ([] : BY) ([] : BY) false)) := (hC _ _ _).trans (by kernel_rfl)
end
theorem as41 {G : World → Prop} {ng : Nat} (S : Stays Tryz.prog G ng) {N62 : Ty62} {N63 : Ty63} {N64 : Ty64} {N65 : Ty65} {N66 : Ty66} {N67 : Ty67} (h62 : FnIs Tryz.prog G ng 62 (adp62 N62)) (h63 : FnIs Tryz.prog G ng 63 (adp63 N63)) (h64 : FnIs Tryz.prog G ng 64 (adp64 N64)) (h65 : FnIs Tryz.prog G ng 65 (adp65 N65)) (h66 : FnIs Tryz.prog G ng 66 (adp66 N66)) (h67 : FnIs Tryz.prog G ng 67 (adp67 N67)) {A : Ty41} (hA : ∀ (a0 : Int) (a1 : BY) (Kt : Tk41) (r : Out), A a0 a1 Kt = some r → run41 cut0 N62 N63 N64 N65 N66 N67 big a0 a1 Kt = some r) : FnIs Tryz.prog G ng 41 (adp41 A) := by
  refine spec_run cut0_eq S (l := gam41 N62 N63 N64 N65 N66 N67) (by intro p hp; simp only [gam41, List.mem_cons, List.not_mem_nil, or_false] at hp; rcases hp with rfl | rfl | rfl | rfl | rfl | rfl <;> assumption) Tryz.func41 (by kernel_rfl) (nn := 14) (Lv := lvs41) (k := big) fun rc cs K r h => ?_
  unfold adp41 at h
  split at h
  · exact ⟨_, hA _ _ _ _ h, fun p hp => by unfold tok41 at hp; split at hp; exact hp; cases hp⟩
  · cases h

/-! targum/resolve.Alike -/
def lvs18 : Nat → Option (List (Nat × Co))
  | _ => none
section
variable (C : Nat → Env → (Env → Option Out) → Option Out) (N16 : Ty16)
def gam18 : List (Nat × Fn1) := [(16, adp16 N16)]
noncomputable def bod18 : Code := Tryz.f18.body.getD .skip
noncomputable def run18 (k : Nat) (a0 : BY) (Kt : Tk18) : Option Out := runK Tryz.prog (lookG (gam18 N16)) 3 lvs18 C k Tryz.f18 none [.s (.str a0)] (tok18 Kt)
theorem run18_eq (k : Nat) (a0 : BY) (Kt : Tk18) : run18 C N16 k a0 Kt =
  (N16 11 a0 fun r1 r2 => (N16 12 a0 fun r3 r4 => (Kt ((r1 == r3) && ((r2 == r4) && true))))) := by kernel_rfl
end
theorem as18 {G : World → Prop} {ng : Nat} (S : Stays Tryz.prog G ng) {N16 : Ty16} (h16 : FnIs Tryz.prog G ng 16 (adp16 N16)) {A : Ty18} (hA : ∀ (a0 : BY) (Kt : Tk18) (r : Out), A a0 Kt = some r → run18 cut0 N16 big a0 Kt = some r) : FnIs Tryz.prog G ng 18 (adp18 A) := by
  refine spec_run cut0_eq S (l := gam18 N16) (by intro p hp; simp only [gam18, List.mem_cons, List.not_mem_nil, or_false] at hp; rcases hp with rfl <;> assumption) Tryz.func18 (by kernel_rfl) (nn := 3) (Lv := lvs18) (k := big) fun rc cs K r h => ?_
  unfold adp18 at h
  split at h
  · exact ⟨_, hA _ _ _ h, fun p hp => by unfold tok18 at hp; split at hp; exact hp; cases hp⟩
  · cases h

/-! targum/num12.Int -/
def lvs62 : Nat → Option (List (Nat × Co))
  | 577 => some [(4, .k)]
  | _ => none
section
variable (C : Nat → Env → (Env → Option Out) → Option Out) (N93 : Ty93) (N94 : Ty94) (N95 : Ty95) (N96 : Ty96)
def gam62 : List (Nat × Fn1) := [(93, adp93 N93), (94, adp94 N94), (95, adp95 N95), (96, adp96 N96)]
noncomputable def bod62 : Code := Tryz.f62.body.getD .skip
noncomputable def run62 (k : Nat) (a0 : BY) (Kt : Tk62) : Option Out := runK Tryz.prog (lookG (gam62 N93 N94 N95 N96)) 7 lvs62 C k Tryz.f62 none [.s (.str a0)] (tok62 Kt)
noncomputable def p1_62 (k : Nat) (v4 : BY) (Kt : Tk62) : Option Out := C 577 ([.u, .u, .u, .u, .c (.s (.str v4))] ++ us 26) fun e => atK Tryz.prog (lookG (gam62 N93 N94 N95 N96)) 7 lvs62 C k bod62 [1, 1, 1, 1] e (fin Tryz.prog Tryz.f62 none (tok62 Kt))
theorem run62_eq (k : Nat) (a0 : BY) (Kt : Tk62) : run62 C N93 N94 N95 N96 k a0 Kt =
  (N93 a0 fun r1 r2 => (N94 a0 ([48, 111] : BY) fun r3 => (bif r3 then ((cut a0 (some (2 : Int)) none).bind fun s4 => (N95 s4 8 fun r5 => (p1_62 C N93 N94 N95 N96 k r5 Kt))) else (N94 a0 ([48, 120] : BY) fun r6 => (bif r6 then ((cut a0 (some (2 : Int)) none).bind fun s7 => (N95 s7 16 fun r8 => (p1_62 C N93 N94 N95 N96 k r8 Kt))) else (N96 (r1 == ([45] : BY)) r2 fun r9 => (p1_62 C N93 N94 N95 N96 k r9 Kt))))))) := by kernel_rfl
theorem p1_62_eq (hC : ∀ key e t, C key e t = t e) (k : Nat) (v4 : BY) (Kt : Tk62) : p1_62 C N93 N94 N95 N96 k v4 Kt =
  (Kt v4 (!(v4 == ([] : BY)))) := (hC _ _ _).trans (by kernel_rfl)
end
theorem as62 {G : World → Prop} {ng : Nat} (S : Stays Tryz.prog G ng) {N93 : Ty93} {N94 : Ty94} {N95 : Ty95} {N96 : Ty96} (h93 : FnIs Tryz.prog G ng 93 (adp93 N93)) (h94 : FnIs Tryz.prog G ng 94 (adp94 N94)) (h95 : FnIs Tryz.prog G ng 95 (adp95 N95)) (h96 : FnIs Tryz.prog G ng 96 (adp96 N96)) {A : Ty62} (hA : ∀ (a0 : BY) (Kt : Tk62) (r : Out), A a0 Kt = some r → run62 cut0 N93 N94 N95 N96 big a0 Kt = some r) : FnIs Tryz.prog G ng 62 (adp62 A) := by
  refine spec_run cut0_eq S (l := gam62 N93 N94 N95 N96) (by intro p hp; simp only [gam62, List.mem_cons, List.not_mem_nil, or_false] at hp; rcases hp with rfl | rfl | rfl | rfl <;> assumption) Tryz.func62 (by kernel_rfl) (nn := 7) (Lv := lvs62) (k := big) fun rc cs K r h => ?_
  unfold adp62 at h
  split at h
  · exact ⟨_, hA _ _ _ h, fun p hp => by unfold tok62 at hp; split at hp; exact hp; cases hp⟩
  · cases h

/-! targum/num12.Float -/
def lvs63 : Nat → Option (List (Nat × Co))
  | 3000000 => some [(2, .k)]
  | 3000001 => some [(2, .k), (4, .k), (5, .k), (6, .k), (7, .k), (8, .k)]
  | 3000002 => some [(2, .k), (4, .k), (6, .k), (7, .k), (8, .k)]
  | _ => none
section
variable (C : Nat → Env → (Env → Option Out) → Option Out) (N62 : Ty62) (N93 : Ty93) (N94 : Ty94) (N96 : Ty96) (N97 : Ty97) (N98 : Ty98) (N99 : Ty99)
def gam63 : List (Nat × Fn1) := [(62, adp62 N62), (93, adp93 N93), (94, adp94 N94), (96, adp96 N96), (97, adp97 N97), (98, adp98 N98), (99, adp99 N99)]
noncomputable def bod63 : Code := Tryz.f63.body.getD .skip
noncomputable def run63 (k : Nat) (a0 : BY) (Kt : Tk63) : Option Out := runK Tryz.prog (lookG (gam63 N62 N93 N94 N96 N97 N98 N99)) 4 lvs63 C k Tryz.f63 none [.s (.str a0)] (tok63 Kt)
noncomputable def g1_63 (k : Nat) (j0 : Nat) (v2_0 : Int) (v2_1 : Bool) (v2_2 : BY) (v2_3 : BY) (Kt : Tk63) : Option Out := C 3000000 ([.u, .u, .box 91 (.ss [.int .i64 v2_0, .bool v2_1, .str v2_2, .str v2_3])] ++ us 79) fun e => jumpK Tryz.prog (lookG (gam63 N62 N93 N94 N96 N97 N98 N99)) 4 lvs63 C k j0 0 bod63 [1] e (fin Tryz.prog Tryz.f63 none (tok63 Kt))
noncomputable def g2_63 (k : Nat) (j0 : Nat) (v2_0 : Int) (v2_1 : Bool) (v2_2 : BY) (v2_3 : BY) (v4 : BY) (v5 : BY) (v6 : BY) (v7 : BY) (v8 : BY) (Kt : Tk63) : Option Out := C 3000001 ([.u, .u, .box 91 (.ss [.int .i64 v2_0, .bool v2_1, .str v2_2, .str v2_3]), .u, .c (.s (.str v4)), .c (.s (.str v5)), .c (.s (.str v6)), .c (.s (.str v7)), .c (.s (.str v8))] ++ us 73) fun e => jumpK Tryz.prog (lookG (gam63 N62 N93 N94 N96 N97 N98 N99)) 4 lvs63 C k j0 1 bod63 [1] e (fin Tryz.prog Tryz.f63 none (tok63 Kt))
noncomputable def g3_63 (k : Nat) (j0 : Nat) (v2_0 : Int) (v2_1 : Bool) (v2_2 : BY) (v2_3 : BY) (v4 : BY) (v6 : BY) (v7 : BY) (v8 : BY) (Kt : Tk63) : Option Out := C 3000002 ([.u, .u, .box 91 (.ss [.int .i64 v2_0, .bool v2_1, .str v2_2, .str v2_3]), .u, .c (.s (.str v4)), .u, .c (.s (.str v6)), .c (.s (.str v7)), .c (.s (.str v8))] ++ us 73) fun e => jumpK Tryz.prog (lookG (gam63 N62 N93 N94 N96 N97 N98 N99)) 4 lvs63 C k j0 2 bod63 [1] e (fin Tryz.prog Tryz.f63 none (tok63 Kt))
theorem run63_eq (k : Nat) (a0 : BY) (Kt : Tk63) : run63 C N62 N93 N94 N96 N97 N98 N99 k a0 Kt =
  (N93 a0 fun r1 r2 => (N97 r1 r2 fun r3 r4 r5 r6 r7 => (bif r7 then (Kt r3 r4 r5 r6 true) else (N62 a0 fun r8 r9 => (bif r9 then (g1_63 C N62 N93 N94 N96 N97 N98 N99 k k 0 false ([] : BY) ([] : BY) Kt) else (N98 r2 fun r10 r11 => (N94 r11 ([46] : BY) fun r12 => (bif (!r12) then (g2_63 C N62 N93 N94 N96 N97 N98 N99 k k 0 false ([] : BY) ([] : BY) r1 r11 r10 ([] : BY) ([48] : BY) Kt) else ((cut r11 (some (1 : Int)) none).bind fun s13 => (N98 s13 fun r14 r15 => ((cat r10 r14).bind fun s16 => (bif (s16 == ([] : BY)) then (g1_63 C N62 N93 N94 N96 N97 N98 N99 k k 0 false ([] : BY) ([] : BY) Kt) else (bif (r15 == ([] : BY)) then (g3_63 C N62 N93 N94 N96 N97 N98 N99 k k 0 false ([] : BY) ([] : BY) r1 r10 r14 ([48] : BY) Kt) else ((at? r15 0).bind fun b17 => (bif ((b17.toNat : Int) != 101) then ((at? r15 0).bind fun b18 => (bif ((b18.toNat : Int) != 69) then (g1_63 C N62 N93 N94 N96 N97 N98 N99 k k 0 false ([] : BY) ([] : BY) Kt) else ((cut r15 (some (1 : Int)) none).bind fun s19 => (N93 s19 fun r20 r21 => (N96 (r20 == ([45] : BY)) r21 fun r22 => (bif (r22 == ([] : BY)) then (g1_63 C N62 N93 N94 N96 N97 N98 N99 k k 0 false ([] : BY) ([] : BY) Kt) else (N99 (r1 == ([45] : BY)) r10 r14 r22 fun r23 r24 r25 r26 r27 => (Kt r23 r24 r25 r26 r27)))))))) else ((cut r15 (some (1 : Int)) none).bind fun s28 => (N93 s28 fun r29 r30 => (N96 (r29 == ([45] : BY)) r30 fun r31 => (bif (r31 == ([] : BY)) then (g1_63 C N62 N93 N94 N96 N97 N98 N99 k k 0 false ([] : BY) ([] : BY) Kt) else (N99 (r1 == ([45] : BY)) r10 r14 r31 fun r32 r33 r34 r35 r36 => (Kt r32 r33 r34 r35 r36))))))))))))))))))))) := by kernel_rfl
theorem g1_63_eq (hC : ∀ key e t, C key e t = t e) (k : Nat) (j0 : Nat) (v2_0 : Int) (v2_1 : Bool) (v2_2 : BY) (v2_3 : BY) (Kt : Tk63) : g1_63 C N62 N93 N94 N96 N97 N98 N99 k (j0 + 1) v2_0 v2_1 v2_2 v2_3 Kt =
  (Kt 0 false ([] : BY) ([] : BY) false) := (hC _ _ _).trans (by kernel_rfl)
theorem g2_63_eq (hC : ∀ key e t, C key e t = t e) (k : Nat) (j0 : Nat) (v2_0 : Int) (v2_1 : Bool) (v2_2 : BY) (v2_3 : BY) (v4 : BY) (v5 : BY) (v6 : BY) (v7 : BY) (v8 : BY) (Kt : Tk63) : g2_63 C N62 N93 N94 N96 N97 N98 N99 k (j0 + 1) v2_0 v2_1 v2_2 v2_3 v4 v5 v6 v7 v8 Kt =
  ((cat v6 v7).bind fun s37 => (bif (s37 == ([] : BY)) then (g1_63 C N62 N93 N94 N96 N97 N98 N99 k j0 v2_0 v2_1 v2_2 v2_3 Kt) else (bif (v5 == ([] : BY)) then (g3_63 C N62 N93 N94 N96 N97 N98 N99 k j0 v2_0 v2_1 v2_2 v2_3 v4 v6 v7 v8 Kt) else ((at? v5 0).bind fun b38 => (bif ((b38.toNat : Int) != 101) then ((at? v5 0).bind fun b39 => (bif ((b39.toNat : Int) != 69) then (g1_63 C N62 N93 N94 N96 N97 N98 N99 k j0 v2_0 v2_1 v2_2 v2_3 Kt) else ((cut v5 (some (1 : Int)) none).bind fun s40 => (N93 s40 fun r41 r42 => (N96 (r41 == ([45] : BY)) r42 fun r43 => (bif (r43 == ([] : BY)) then (g1_63 C N62 N93 N94 N96 N97 N98 N99 k j0 v2_0 v2_1 v2_2 v2_3 Kt) else (N99 (v4 == ([45] : BY)) v6 v7 r43 fun r44 r45 r46 r47 r48 => (Kt r44 r45 r46 r47 r48)))))))) else ((cut v5 (some (1 : Int)) none).bind fun s49 => (N93 s49 fun r50 r51 => (N96 (r50 == ([45] : BY)) r51 fun r52 => (bif (r52 == ([] : BY)) then (g1_63 C N62 N93 N94 N96 N97 N98 N99 k j0 v2_0 v2_1 v2_2 v2_3 Kt) else (N99 (v4 == ([45] : BY)) v6 v7 r52 fun r53 r54 r55 r56 r57 => (Kt r53 r54 r55 r56 r57))))))))))) := (hC _ _ _).trans (by kernel_rfl)
theorem g3_63_eq (hC : ∀ key e t, C key e t = t e) (k : Nat) (j0 : Nat) (v2_0 : Int) (v2_1 : Bool) (v2_2 : BY) (v2_3 : BY) (v4 : BY) (v6 : BY) (v7 : BY) (v8 : BY) (Kt : Tk63) : g3_63 C N62 N93 N94 N96 N97 N98 N99 k (j0 + 1) v2_0 v2_1 v2_2 v2_3 v4 v6 v7 v8 Kt =
  (N99 (v4 == ([45] : BY)) v6 v7 v8 fun r58 r59 r60 r61 r62 => (Kt r58 r59 r60 r61 r62)) := (hC _ _ _).trans (by kernel_rfl)
end
theorem as63 {G : World → Prop} {ng : Nat} (S : Stays Tryz.prog G ng) {N62 : Ty62} {N93 : Ty93} {N94 : Ty94} {N96 : Ty96} {N97 : Ty97} {N98 : Ty98} {N99 : Ty99} (h62 : FnIs Tryz.prog G ng 62 (adp62 N62)) (h93 : FnIs Tryz.prog G ng 93 (adp93 N93)) (h94 : FnIs Tryz.prog G ng 94 (adp94 N94)) (h96 : FnIs Tryz.prog G ng 96 (adp96 N96)) (h97 : FnIs Tryz.prog G ng 97 (adp97 N97)) (h98 : FnIs Tryz.prog G ng 98 (adp98 N98)) (h99 : FnIs Tryz.prog G ng 99 (adp99 N99)) {A : Ty63} (hA : ∀ (a0 : BY) (Kt : Tk63) (r : Out), A a0 Kt = some r → run63 cut0 N62 N93 N94 N96 N97 N98 N99 big a0 Kt = some r) : FnIs Tryz.prog G ng 63 (adp63 A) := by
  refine spec_run cut0_eq S (l := gam63 N62 N93 N94 N96 N97 N98 N99) (by intro p hp; simp only [gam63, List.mem_cons, List.not_mem_nil, or_false] at hp; rcases hp with rfl | rfl | rfl | rfl | rfl | rfl | rfl <;> assumption) Tryz.func63 (by kernel_rfl) (nn := 4) (Lv := lvs63) (k := big) fun rc cs K r h => ?_
  unfold adp63 at h
  split at h
  · exact ⟨_, hA _ _ _ h, fun p hp => by unfold tok63 at hp; split at hp; exact hp; cases hp⟩
  · cases h

/-! targum/num12.signed -/
def lvs93 : Nat → Option (List (Nat × Co))
  | 194 => some [(0, .k), (15, .k)]
  | _ => none
section
variable (C : Nat → Env → (Env → Option Out) → Option Out)
def gam93 : List (Nat × Fn1) := []
noncomputable def bod93 : Code := Tryz.f93.body.getD .skip
noncomputable def run93 (k : Nat) (a0 : BY) (Kt : Tk93) : Option Out := runK Tryz.prog (lookG (gam93)) 4 lvs93 C k Tryz.f93 none [.s (.str a0)] (tok93 Kt)
noncomputable def p1_93 (k : Nat) (v0 : BY) (v15 : Bool) (Kt : Tk93) : Option Out := C 194 ([.c (.s (.str v0))] ++ us 14 ++ [.c (.s (.bool v15)), .u, .u, .u, .u, .u]) fun e => atK Tryz.prog (lookG (gam93)) 4 lvs93 C k bod93 [1, 0, 1] e (fin Tryz.prog Tryz.f93 none (tok93 Kt))
theorem run93_eq (k : Nat) (a0 : BY) (Kt : Tk93) : run93 C k a0 Kt =
  (bif (!(a0 == ([] : BY))) then ((at? a0 0).bind fun b1 => (bif ((b1.toNat : Int) == 43) then (p1_93 C k a0 true Kt) else ((at? a0 0).bind fun b2 => (p1_93 C k a0 ((b2.toNat : Int) == 45) Kt)))) else (p1_93 C k a0 false Kt)) := by kernel_rfl
theorem p1_93_eq (hC : ∀ key e t, C key e t = t e) (k : Nat) (v0 : BY) (v15 : Bool) (Kt : Tk93) : p1_93 C k v0 v15 Kt =
  (bif v15 then ((cut v0 none (some (1 : Int))).bind fun s3 => ((cut v0 (some (1 : Int)) none).bind fun s4 => (Kt s3 s4))) else (Kt ([] : BY) v0)) := (hC _ _ _).trans (by kernel_rfl)
end
theorem as93 {G : World → Prop} {ng : Nat} (S : Stays Tryz.prog G ng) {A : Ty93} (hA : ∀ (a0 : BY) (Kt : Tk93) (r : Out), A a0 Kt = some r → run93 cut0 big a0 Kt = some r) : FnIs Tryz.prog G ng 93 (adp93 A) := by
  refine spec_run cut0_eq S (l := gam93) (by intro p hp; cases hp) Tryz.func93 (by kernel_rfl) (nn := 4) (Lv := lvs93) (k := big) fun rc cs K r h => ?_
  unfold adp93 at h
  split at h
  · exact ⟨_, hA _ _ _ h, fun p hp => by unfold tok93 at hp; split at hp; exact hp; cases hp⟩
  · cases h

/-! targum/num12.word -/
def lvs97 : Nat → Option (List (Nat × Co))
  | 386 => some [(0, .k), (4, .k), (6, .k), (7, .k)]
  | 642 => some [(0, .k), (4, .k), (14, .k)]
  | _ => none
section
variable (C : Nat → Env → (Env → Option Out) → Option Out)
def gam97 : List (Nat × Fn1) := []
noncomputable def bod97 : Code := Tryz.f97.body.getD .skip
noncomputable def run97 (k : Nat) (a0 : BY) (a1 : BY) (Kt : Tk97) : Option Out := runK Tryz.prog (lookG (gam97)) 6 lvs97 C k Tryz.f97 none [.s (.str a0), .s (.str a1)] (tok97 Kt)
noncomputable def p1_97 (k : Nat) (v0 : BY) (v4_0 : Int) (v4_1 : Bool) (v4_2 : BY) (v4_3 : BY) (v6 : BY) (v7 : Bool) (Kt : Tk97) : Option Out := C 386 ([.c (.s (.str v0)), .u, .u, .u, .box 91 (.ss [.int .i64 v4_0, .bool v4_1, .str v4_2, .str v4_3]), .u, .c (.s (.str v6)), .c (.s (.bool v7))] ++ us 14) fun e => atK Tryz.prog (lookG (gam97)) 6 lvs97 C k bod97 [1, 0, 1, 0, 1] e (fin Tryz.prog Tryz.f97 none (tok97 Kt))
noncomputable def p2_97 (k : Nat) (v0 : BY) (v4_0 : Int) (v4_1 : Bool) (v4_2 : BY) (v4_3 : BY) (v14 : Bool) (Kt : Tk97) : Option Out := C 642 ([.c (.s (.str v0)), .u, .u, .u, .box 91 (.ss [.int .i64 v4_0, .bool v4_1, .str v4_2, .str v4_3])] ++ us 9 ++ [.c (.s (.bool v14))] ++ us 7) fun e => atK Tryz.prog (lookG (gam97)) 6 lvs97 C k bod97 [1, 0, 1, 0, 1, 1, 1] e (fin Tryz.prog Tryz.f97 none (tok97 Kt))
theorem run97_eq (k : Nat) (a0 : BY) (a1 : BY) (Kt : Tk97) : run97 C k a0 a1 Kt =
  (bif (a1 == ([46, 105, 110, 102] : BY)) then (p1_97 C k a0 0 false ([] : BY) ([] : BY) a1 (a1 == ([46, 105, 110, 102] : BY)) Kt) else (bif (a1 == ([46, 73, 110, 102] : BY)) then (p1_97 C k a0 0 false ([] : BY) ([] : BY) a1 (a1 == ([46, 73, 110, 102] : BY)) Kt) else (p1_97 C k a0 0 false ([] : BY) ([] : BY) a1 (a1 == ([46, 73, 78, 70] : BY)) Kt))) := by kernel_rfl
theorem p1_97_eq (hC : ∀ key e t, C key e t = t e) (k : Nat) (v0 : BY) (v4_0 : Int) (v4_1 : Bool) (v4_2 : BY) (v4_3 : BY) (v6 : BY) (v7 : Bool) (Kt : Tk97) : p1_97 C k v0 v4_0 v4_1 v4_2 v4_3 v6 v7 Kt =
  (bif v7 then (Kt 1 (v0 == ([45] : BY)) ([] : BY) ([] : BY) true) else (bif (v6 == ([46, 110, 97, 110] : BY)) then (p2_97 C k v0 v4_0 v4_1 v4_2 v4_3 (v6 == ([46, 110, 97, 110] : BY)) Kt) else (bif (v6 == ([46, 78, 97, 78] : BY)) then (p2_97 C k v0 v4_0 v4_1 v4_2 v4_3 (v6 == ([46, 78, 97, 78] : BY)) Kt) else (p2_97 C k v0 v4_0 v4_1 v4_2 v4_3 (v6 == ([46, 78, 65, 78] : BY)) Kt)))) := (hC _ _ _).trans (by kernel_rfl)
theorem p2_97_eq (hC : ∀ key e t, C key e t = t e) (k : Nat) (v0 : BY) (v4_0 : Int) (v4_1 : Bool) (v4_2 : BY) (v4_3 : BY) (v14 : Bool) (Kt : Tk97) : p2_97 C k v0 v4_0 v4_1 v4_2 v4_3 v14 Kt =
  (bif v14 then (Kt 2 false ([] : BY) ([] : BY) (v0 == ([] : BY))) else (Kt 0 false ([] : BY) ([] : BY) false)) := (hC _ _ _).trans (by kernel_rfl)
end
theorem as97 {G : World → Prop} {ng : Nat} (S : Stays Tryz.prog G ng) {A : Ty97} (hA : ∀ (a0 : BY) (a1 : BY) (Kt : Tk97) (r : Out), A a0 a1 Kt = some r → run97 cut0 big a0 a1 Kt = some r) : FnIs Tryz.prog G ng 97 (adp97 A) := by
  refine spec_run cut0_eq S (l := gam97) (by intro p hp; cases hp) Tryz.func97 (by kernel_rfl) (nn := 6) (Lv := lvs97) (k := big) fun rc cs K r h => ?_
  unfold adp97 at h
  split at h
  · exact ⟨_, hA _ _ _ _ h, fun p hp => by unfold tok97 at hp; split at hp; exact hp; cases hp⟩
  · cases h

/-! targum/num12.digits -/
def lvs98 : Nat → Option (List (Nat × Co))
  | _ => none
section
variable (C : Nat → Env → (Env → Option Out) → Option Out) (N148 : Ty148)
def gam98 : List (Nat × Fn1) := [(148, adp148 N148)]
noncomputable def bod98 : Code := Tryz.f98.body.getD .skip
noncomputable def run98 (k : Nat) (a0 : BY) (Kt : Tk98) : Option Out := runK Tryz.prog (lookG (gam98 N148)) 5 lvs98 C k Tryz.f98 none [.s (.str a0)] (tok98 Kt)
theorem run98_eq (k : Nat) (a0 : BY) (Kt : Tk98) : run98 C N148 k a0 Kt =
  (N148 a0 ([48, 49, 50, 51, 52, 53, 54, 55, 56, 57] : BY) fun r1 => ((cut a0 none (some (IntKind.i64.wrap ((a0.length : Int) - (r1.length : Int))))).bind fun s2 => (Kt s2 r1))) := by kernel_rfl
end
theorem as98 {G : World → Prop} {ng : Nat} (S : Stays Tryz.prog G ng) {N148 : Ty148} (h148 : FnIs Tryz.prog G ng 148 (adp148 N148)) {A : Ty98} (hA : ∀ (a0 : BY) (Kt : Tk98) (r : Out), A a0 Kt = some r → run98 cut0 N148 big a0 Kt = some r) : FnIs Tryz.prog G ng 98 (adp98 A) := by
  refine spec_run cut0_eq S (l := gam98 N148) (by intro p hp; simp only [gam98, List.mem_cons, List.not_mem_nil, or_false] at hp; rcases hp with rfl <;> assumption) Tryz.func98 (by kernel_rfl) (nn := 5) (Lv := lvs98) (k := big) fun rc cs K r h => ?_
  unfold adp98 at h
  split at h
  · exact ⟨_, hA _ _ _ h, fun p hp => by unfold tok98 at hp; split at hp; exact hp; cases hp⟩
  · cases h

end Go.Proofs.YtffmgholjdfcnaaGreatDoor
