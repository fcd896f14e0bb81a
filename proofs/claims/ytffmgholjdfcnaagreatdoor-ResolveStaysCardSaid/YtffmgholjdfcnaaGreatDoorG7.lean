/- Pieces of the program's functions, printed by gen.py (a program of this session's own), and the equations that the kernel finds. -/
import Derived.Test.YtffmgholjdfcnaaGreatDoorGW
import Derived.Test.YtffmgholjdfcnaaGreatDoorProg
set_option maxRecDepth 100000
set_option linter.unusedVariables false
namespace Go.Proofs.YtffmgholjdfcnaaGreatDoor
open Go Go.Proofs AM
/-! targum/targumref12.Plain -/
def lvs17 : Nat → Option (List (Nat × Co))
  | 962 => some [(1, .k), (4, .k), (11, .k), (53, .k)]
  | _ => none
section
variable (C : Nat → Env → (Env → Option Out) → Option Out) (N44 : Ty44) (N45 : Ty45)
def gam17 : List (Nat × Fn1) := [(44, adp44 N44), (45, adp45 N45)]
noncomputable def bod17 : Code := Tryz.f17.body.getD .skip
noncomputable def run17 (k : Nat) (a0 : Int) (a1 : BY) (Kt : Tk17) : Option Out := runK Tryz.prog (lookG (gam17 N44 N45)) 13 lvs17 C k Tryz.f17 none [.s (.int .i64 a0), .s (.str a1)] (tok17 Kt)
noncomputable def p1_17 (k : Nat) (v1 : BY) (v4_0 : BY) (v4_1 : BY) (v11 : BY) (v53 : Bool) (Kt : Tk17) : Option Out := C 962 ([.u, .c (.s (.str v1)), .u, .u, .box 27 (.ss [.str v4_0, .str v4_1])] ++ us 6 ++ [.c (.s (.str v11))] ++ us 41 ++ [.c (.s (.bool v53)), .u, .u, .u, .u]) fun e => atK Tryz.prog (lookG (gam17 N44 N45)) 13 lvs17 C k bod17 [1, 1, 1, 1, 1, 0, 1, 1] e (fin Tryz.prog Tryz.f17 none (tok17 Kt))
theorem run17_eq (k : Nat) (a0 : Int) (a1 : BY) (Kt : Tk17) : run17 C N44 N45 k a0 a1 Kt =
  (N44 a1 fun r1 => (bif r1 then (Kt ([116, 97, 103, 58, 121, 97, 109, 108, 46, 111, 114, 103, 44, 50, 48, 48, 50, 58, 110, 117, 108, 108] : BY) ([] : BY)) else (N45 a0 ([116, 97, 103, 58, 121, 97, 109, 108, 46, 111, 114, 103, 44, 50, 48, 48, 50, 58, 98, 111, 111, 108] : BY) a1 fun r2 r3 => (bif r3 then (Kt ([116, 97, 103, 58, 121, 97, 109, 108, 46, 111, 114, 103, 44, 50, 48, 48, 50, 58, 98, 111, 111, 108] : BY) r2) else (N45 a0 ([116, 97, 103, 58, 121, 97, 109, 108, 46, 111, 114, 103, 44, 50, 48, 48, 50, 58, 105, 110, 116] : BY) a1 fun r4 r5 => (bif r5 then (Kt ([116, 97, 103, 58, 121, 97, 109, 108, 46, 111, 114, 103, 44, 50, 48, 48, 50, 58, 105, 110, 116] : BY) r4) else (N45 a0 ([116, 97, 103, 58, 121, 97, 109, 108, 46, 111, 114, 103, 44, 50, 48, 48, 50, 58, 102, 108, 111, 97, 116] : BY) a1 fun r6 r7 => (bif r7 then (Kt ([116, 97, 103, 58, 121, 97, 109, 108, 46, 111, 114, 103, 44, 50, 48, 48, 50, 58, 102, 108, 111, 97, 116] : BY) r6) else (N45 a0 ([116, 97, 103, 58, 121, 97, 109, 108, 46, 111, 114, 103, 44, 50, 48, 48, 50, 58, 116, 105, 109, 101, 115, 116, 97, 109, 112] : BY) a1 fun r8 r9 => (bif r9 then (p1_17 C N44 N45 k a1 ([] : BY) ([] : BY) r8 (a0 == 11) Kt) else (p1_17 C N44 N45 k a1 ([] : BY) ([] : BY) r8 false Kt))))))))))) := by kernel_rfl
theorem p1_17_eq (hC : ∀ key e t, C key e t = t e) (k : Nat) (v1 : BY) (v4_0 : BY) (v4_1 : BY) (v11 : BY) (v53 : Bool) (Kt : Tk17) : p1_17 C N44 N45 k v1 v4_0 v4_1 v11 v53 Kt =
  (bif v53 then (Kt ([116, 97, 103, 58, 121, 97, 109, 108, 46, 111, 114, 103, 44, 50, 48, 48, 50, 58, 116, 105, 109, 101, 115, 116, 97, 109, 112] : BY) v11) else (Kt ([116, 97, 103, 58, 121, 97, 109, 108, 46, 111, 114, 103, 44, 50, 48, 48, 50, 58, 115, 116, 114] : BY) v1)) := (hC _ _ _).trans (by kernel_rfl)
end
theorem as17 {G : World → Prop} {ng : Nat} (S : Stays Tryz.prog G ng) {N44 : Ty44} {N45 : Ty45} (h44 : FnIs Tryz.prog G ng 44 (adp44 N44)) (h45 : FnIs Tryz.prog G ng 45 (adp45 N45)) {A : Ty17} (hA : ∀ (a0 : Int) (a1 : BY) (Kt : Tk17) (r : Out), A a0 a1 Kt = some r → run17 cut0 N44 N45 big a0 a1 Kt = some r) : FnIs Tryz.prog G ng 17 (adp17 A) := by
  refine spec_run cut0_eq S (l := gam17 N44 N45) (by intro p hp; simp only [gam17, List.mem_cons, List.not_mem_nil, or_false] at hp; rcases hp with rfl | rfl <;> assumption) Tryz.func17 (by kernel_rfl) (nn := 13) (Lv := lvs17) (k := big) fun rc cs K r h => ?_
  unfold adp17 at h
  split at h
  · exact ⟨_, hA _ _ _ _ h, fun p hp => by unfold tok17 at hp; split at hp; exact hp; cases hp⟩
  · cases h

/-! targum/targumref12.typed -/
def lvs45 : Nat → Option (List (Nat × Co))
  | _ => none
section
variable (C : Nat → Env → (Env → Option Out) → Option Out) (N44 : Ty44) (N69 : Ty69) (N70 : Ty70) (N71 : Ty71) (N72 : Ty72) (N73 : Ty73) (N74 : Ty74) (N75 : Ty75) (N76 : Ty76) (N77 : Ty77)
def gam45 : List (Nat × Fn1) := [(44, adp44 N44), (69, adp69 N69), (70, adp70 N70), (71, adp71 N71), (72, adp72 N72), (73, adp73 N73), (74, adp74 N74), (75, adp75 N75), (76, adp76 N76), (77, adp77 N77)]
noncomputable def bod45 : Code := Tryz.f45.body.getD .skip
noncomputable def run45 (k : Nat) (a0 : Int) (a1 : BY) (a2 : BY) (Kt : Tk45) : Option Out := runK Tryz.prog (lookG (gam45 N44 N69 N70 N71 N72 N73 N74 N75 N76 N77)) 8 lvs45 C k Tryz.f45 none [.s (.int .i64 a0), .s (.str a1), .s (.str a2)] (tok45 Kt)
theorem run45_eq (k : Nat) (a0 : Int) (a1 : BY) (a2 : BY) (Kt : Tk45) : run45 C N44 N69 N70 N71 N72 N73 N74 N75 N76 N77 k a0 a1 a2 Kt =
  (bif (a1 == ([116, 97, 103, 58, 121, 97, 109, 108, 46, 111, 114, 103, 44, 50, 48, 48, 50, 58, 110, 117, 108, 108] : BY)) then (N44 a2 fun r1 => (Kt ([] : BY) r1)) else (bif (a1 == ([116, 97, 103, 58, 121, 97, 109, 108, 46, 111, 114, 103, 44, 50, 48, 48, 50, 58, 98, 111, 111, 108] : BY)) then (N69 a0 a2 fun r2 r3 => (bif (!r3) then (Kt ([] : BY) false) else (N70 r2 fun r4 => (Kt r4 true)))) else (bif (a1 == ([116, 97, 103, 58, 121, 97, 109, 108, 46, 111, 114, 103, 44, 50, 48, 48, 50, 58, 105, 110, 116] : BY)) then (bif (a0 != 11) then (N71 a2 fun r5 r6 => (Kt r5 r6)) else (N72 a2 fun r7 r8 => (Kt r7 (decide (r8 > 0))))) else (bif (a1 == ([116, 97, 103, 58, 121, 97, 109, 108, 46, 111, 114, 103, 44, 50, 48, 48, 50, 58, 102, 108, 111, 97, 116] : BY)) then (bif (a0 != 11) then (N73 a2 fun r9 r10 r11 r12 r13 => (bif (!r13) then (Kt ([] : BY) false) else (N74 r9 r10 r11 r12 fun r14 => (Kt r14 true)))) else (N75 a2 fun r15 r16 r17 r18 r19 => (bif (r19 == 0) then (Kt ([] : BY) false) else (N74 r15 r16 r17 r18 fun r20 => (Kt r20 true))))) else (bif (a1 == ([116, 97, 103, 58, 121, 97, 109, 108, 46, 111, 114, 103, 44, 50, 48, 48, 50, 58, 116, 105, 109, 101, 115, 116, 97, 109, 112] : BY)) then (N76 a2 fun r21 r22 => (Kt r21 r22)) else (bif (a1 == ([116, 97, 103, 58, 121, 97, 109, 108, 46, 111, 114, 103, 44, 50, 48, 48, 50, 58, 98, 105, 110, 97, 114, 121] : BY)) then (N77 a2 fun r23 r24 => (Kt r23 r24)) else (Kt ([] : BY) false))))))) := by kernel_rfl
end
theorem as45 {G : World → Prop} {ng : Nat} (S : Stays Tryz.prog G ng) {N44 : Ty44} {N69 : Ty69} {N70 : Ty70} {N71 : Ty71} {N72 : Ty72} {N73 : Ty73} {N74 : Ty74} {N75 : Ty75} {N76 : Ty76} {N77 : Ty77} (h44 : FnIs Tryz.prog G ng 44 (adp44 N44)) (h69 : FnIs Tryz.prog G ng 69 (adp69 N69)) (h70 : FnIs Tryz.prog G ng 70 (adp70 N70)) (h71 : FnIs Tryz.prog G ng 71 (adp71 N71)) (h72 : FnIs Tryz.prog G ng 72 (adp72 N72)) (h73 : FnIs Tryz.prog G ng 73 (adp73 N73)) (h74 : FnIs Tryz.prog G ng 74 (adp74 N74)) (h75 : FnIs Tryz.prog G ng 75 (adp75 N75)) (h76 : FnIs Tryz.prog G ng 76 (adp76 N76)) (h77 : FnIs Tryz.prog G ng 77 (adp77 N77)) {A : Ty45} (hA : ∀ (a0 : Int) (a1 : BY) (a2 : BY) (Kt : Tk45) (r : Out), A a0 a1 a2 Kt = some r → run45 cut0 N44 N69 N70 N71 N72 N73 N74 N75 N76 N77 big a0 a1 a2 Kt = some r) : FnIs Tryz.prog G ng 45 (adp45 A) := by
  refine spec_run cut0_eq S (l := gam45 N44 N69 N70 N71 N72 N73 N74 N75 N76 N77) (by intro p hp; simp only [gam45, List.mem_cons, List.not_mem_nil, or_false] at hp; rcases hp with rfl | rfl | rfl | rfl | rfl | rfl | rfl | rfl | rfl | rfl <;> assumption) Tryz.func45 (by kernel_rfl) (nn := 8) (Lv := lvs45) (k := big) fun rc cs K r h => ?_
  unfold adp45 at h
  split at h
  · exact ⟨_, hA _ _ _ _ _ h, fun p hp => by unfold tok45 at hp; split at hp; exact hp; cases hp⟩
  · cases h

/-! targum/targumref12.boolean -/
def lvs70 : Nat → Option (List (Nat × Co))
  | _ => none
section
variable (C : Nat → Env → (Env → Option Out) → Option Out)
def gam70 : List (Nat × Fn1) := []
noncomputable def bod70 : Code := Tryz.f70.body.getD .skip
noncomputable def run70 (k : Nat) (a0 : Bool) (Kt : Tk70) : Option Out := runK Tryz.prog (lookG (gam70)) 3 lvs70 C k Tryz.f70 none [.s (.bool a0)] (tok70 Kt)
theorem run70_eq (k : Nat) (a0 : Bool) (Kt : Tk70) : run70 C k a0 Kt =
  (bif a0 then (Kt ([116, 114, 117, 101] : BY)) else (Kt ([102, 97, 108, 115, 101] : BY))) := by kernel_rfl
end
theorem as70 {G : World → Prop} {ng : Nat} (S : Stays Tryz.prog G ng) {A : Ty70} (hA : ∀ (a0 : Bool) (Kt : Tk70) (r : Out), A a0 Kt = some r → run70 cut0 big a0 Kt = some r) : FnIs Tryz.prog G ng 70 (adp70 A) := by
  refine spec_run cut0_eq S (l := gam70) (by intro p hp; cases hp) Tryz.func70 (by kernel_rfl) (nn := 3) (Lv := lvs70) (k := big) fun rc cs K r h => ?_
  unfold adp70 at h
  split at h
  · exact ⟨_, hA _ _ _ h, fun p hp => by unfold tok70 at hp; split at hp; exact hp; cases hp⟩
  · cases h

/-! targum/targumref6.Null -/
def lvs44 : Nat → Option (List (Nat × Co))
  | _ => none
section
variable (C : Nat → Env → (Env → Option Out) → Option Out)
def gam44 : List (Nat × Fn1) := []
noncomputable def bod44 : Code := Tryz.f44.body.getD .skip
noncomputable def run44 (k : Nat) (a0 : BY) (Kt : Tk44) : Option Out := runK Tryz.prog (lookG (gam44)) 3 lvs44 C k Tryz.f44 none [.s (.str a0)] (tok44 Kt)
theorem run44_eq (k : Nat) (a0 : BY) (Kt : Tk44) : run44 C k a0 Kt =
  (bif (a0 == ([] : BY)) then (Kt true) else (bif (a0 == ([126] : BY)) then (Kt true) else (bif (a0 == ([110, 117, 108, 108] : BY)) then (Kt true) else (bif (a0 == ([78, 117, 108, 108] : BY)) then (Kt true) else (Kt (a0 == ([78, 85, 76, 76] : BY))))))) := by kernel_rfl
end
theorem as44 {G : World → Prop} {ng : Nat} (S : Stays Tryz.prog G ng) {A : Ty44} (hA : ∀ (a0 : BY) (Kt : Tk44) (r : Out), A a0 Kt = some r → run44 cut0 big a0 Kt = some r) : FnIs Tryz.prog G ng 44 (adp44 A) := by
  refine spec_run cut0_eq S (l := gam44) (by intro p hp; cases hp) Tryz.func44 (by kernel_rfl) (nn := 3) (Lv := lvs44) (k := big) fun rc cs K r h => ?_
  unfold adp44 at h
  split at h
  · exact ⟨_, hA _ _ _ h, fun p hp => by unfold tok44 at hp; split at hp; exact hp; cases hp⟩
  · cases h

/-! targum/targumref6.Bool -/
def lvs69 : Nat → Option (List (Nat × Co))
  | 386 => some [(0, .k), (1, .k), (6, .k), (7, .k)]
  | 642 => some [(0, .k), (1, .k), (11, .k)]
  | 1410 => some [(17, .k), (18, .k)]
  | 1986 => some [(27, .k)]
  | _ => none
section
variable (C : Nat → Env → (Env → Option Out) → Option Out)
def gam69 : List (Nat × Fn1) := []
noncomputable def bod69 : Code := Tryz.f69.body.getD .skip
noncomputable def run69 (k : Nat) (a0 : Int) (a1 : BY) (Kt : Tk69) : Option Out := runK Tryz.prog (lookG (gam69)) 6 lvs69 C k Tryz.f69 none [.s (.int .i64 a0), .s (.str a1)] (tok69 Kt)
noncomputable def p1_69 (k : Nat) (v0 : Int) (v1 : BY) (v6 : BY) (v7 : Bool) (Kt : Tk69) : Option Out := C 386 ([.c (.s (.int .i64 v0)), .c (.s (.str v1)), .u, .u, .u, .u, .c (.s (.str v6)), .c (.s (.bool v7))] ++ us 28) fun e => atK Tryz.prog (lookG (gam69)) 6 lvs69 C k bod69 [1, 0, 1, 0, 1] e (fin Tryz.prog Tryz.f69 none (tok69 Kt))
noncomputable def p2_69 (k : Nat) (v0 : Int) (v1 : BY) (v11 : Bool) (Kt : Tk69) : Option Out := C 642 ([.c (.s (.int .i64 v0)), .c (.s (.str v1))] ++ us 9 ++ [.c (.s (.bool v11))] ++ us 24) fun e => atK Tryz.prog (lookG (gam69)) 6 lvs69 C k bod69 [1, 0, 1, 0, 1, 1, 1] e (fin Tryz.prog Tryz.f69 none (tok69 Kt))
noncomputable def p3_69 (k : Nat) (v17 : BY) (v18 : Bool) (Kt : Tk69) : Option Out := C 1410 (us 17 ++ [.c (.s (.str v17)), .c (.s (.bool v18))] ++ us 17) fun e => atK Tryz.prog (lookG (gam69)) 6 lvs69 C k bod69 [1, 1, 1, 0, 1, 0, 1] e (fin Tryz.prog Tryz.f69 none (tok69 Kt))
noncomputable def p4_69 (k : Nat) (v27 : Bool) (Kt : Tk69) : Option Out := C 1986 (us 27 ++ [.c (.s (.bool v27))] ++ us 8) fun e => atK Tryz.prog (lookG (gam69)) 6 lvs69 C k bod69 [1, 1, 1, 0, 1, 0, 1, 1, 1] e (fin Tryz.prog Tryz.f69 none (tok69 Kt))
theorem run69_eq (k : Nat) (a0 : Int) (a1 : BY) (Kt : Tk69) : run69 C k a0 a1 Kt =
  (bif (a1 == ([116, 114, 117, 101] : BY)) then (p1_69 C k a0 a1 a1 (a1 == ([116, 114, 117, 101] : BY)) Kt) else (bif (a1 == ([84, 114, 117, 101] : BY)) then (p1_69 C k a0 a1 a1 (a1 == ([84, 114, 117, 101] : BY)) Kt) else (p1_69 C k a0 a1 a1 (a1 == ([84, 82, 85, 69] : BY)) Kt))) := by kernel_rfl
theorem p1_69_eq (hC : ∀ key e t, C key e t = t e) (k : Nat) (v0 : Int) (v1 : BY) (v6 : BY) (v7 : Bool) (Kt : Tk69) : p1_69 C k v0 v1 v6 v7 Kt =
  (bif v7 then (Kt true true) else (bif (v6 == ([102, 97, 108, 115, 101] : BY)) then (p2_69 C k v0 v1 (v6 == ([102, 97, 108, 115, 101] : BY)) Kt) else (bif (v6 == ([70, 97, 108, 115, 101] : BY)) then (p2_69 C k v0 v1 (v6 == ([70, 97, 108, 115, 101] : BY)) Kt) else (p2_69 C k v0 v1 (v6 == ([70, 65, 76, 83, 69] : BY)) Kt)))) := (hC _ _ _).trans (by kernel_rfl)
theorem p2_69_eq (hC : ∀ key e t, C key e t = t e) (k : Nat) (v0 : Int) (v1 : BY) (v11 : Bool) (Kt : Tk69) : p2_69 C k v0 v1 v11 Kt =
  (bif v11 then (Kt false true) else (bif (v0 != 11) then (Kt false false) else (bif (v1 == ([121] : BY)) then (p3_69 C k v1 (v1 == ([121] : BY)) Kt) else (bif (v1 == ([89] : BY)) then (p3_69 C k v1 (v1 == ([89] : BY)) Kt) else (bif (v1 == ([121, 101, 115] : BY)) then (p3_69 C k v1 (v1 == ([121, 101, 115] : BY)) Kt) else (bif (v1 == ([89, 101, 115] : BY)) then (p3_69 C k v1 (v1 == ([89, 101, 115] : BY)) Kt) else (bif (v1 == ([89, 69, 83] : BY)) then (p3_69 C k v1 (v1 == ([89, 69, 83] : BY)) Kt) else (bif (v1 == ([111, 110] : BY)) then (p3_69 C k v1 (v1 == ([111, 110] : BY)) Kt) else (bif (v1 == ([79, 110] : BY)) then (p3_69 C k v1 (v1 == ([79, 110] : BY)) Kt) else (p3_69 C k v1 (v1 == ([79, 78] : BY)) Kt)))))))))) := (hC _ _ _).trans (by kernel_rfl)
theorem p3_69_eq (hC : ∀ key e t, C key e t = t e) (k : Nat) (v17 : BY) (v18 : Bool) (Kt : Tk69) : p3_69 C k v17 v18 Kt =
  (bif v18 then (Kt true true) else (bif (v17 == ([110] : BY)) then (p4_69 C k (v17 == ([110] : BY)) Kt) else (bif (v17 == ([78] : BY)) then (p4_69 C k (v17 == ([78] : BY)) Kt) else (bif (v17 == ([110, 111] : BY)) then (p4_69 C k (v17 == ([110, 111] : BY)) Kt) else (bif (v17 == ([78, 111] : BY)) then (p4_69 C k (v17 == ([78, 111] : BY)) Kt) else (bif (v17 == ([78, 79] : BY)) then (p4_69 C k (v17 == ([78, 79] : BY)) Kt) else (bif (v17 == ([111, 102, 102] : BY)) then (p4_69 C k (v17 == ([111, 102, 102] : BY)) Kt) else (bif (v17 == ([79, 102, 102] : BY)) then (p4_69 C k (v17 == ([79, 102, 102] : BY)) Kt) else (p4_69 C k (v17 == ([79, 70, 70] : BY)) Kt))))))))) := (hC _ _ _).trans (by kernel_rfl)
theorem p4_69_eq (hC : ∀ key e t, C key e t = t e) (k : Nat) (v27 : Bool) (Kt : Tk69) : p4_69 C k v27 Kt =
  (bif v27 then (Kt false true) else (Kt false false)) := (hC _ _ _).trans (by kernel_rfl)
end
theorem as69 {G : World → Prop} {ng : Nat} (S : Stays Tryz.prog G ng) {A : Ty69} (hA : ∀ (a0 : Int) (a1 : BY) (Kt : Tk69) (r : Out), A a0 a1 Kt = some r → run69 cut0 big a0 a1 Kt = some r) : FnIs Tryz.prog G ng 69 (adp69 A) := by
  refine spec_run cut0_eq S (l := gam69) (by intro p hp; cases hp) Tryz.func69 (by kernel_rfl) (nn := 6) (Lv := lvs69) (k := big) fun rc cs K r h => ?_
  unfold adp69 at h
  split at h
  · exact ⟨_, hA _ _ _ _ h, fun p hp => by unfold tok69 at hp; split at hp; exact hp; cases hp⟩
  · cases h

/-! targum/targumref6.Int12 -/
def lvs71 : Nat → Option (List (Nat × Co))
  | 194 => some [(0, .k), (26, .k)]
  | 385 => some [(0, .k), (4, .k)]
  | _ => none
section
variable (C : Nat → Env → (Env → Option Out) → Option Out) (N113 : Ty113) (N114 : Ty114) (N115 : Ty115)
def gam71 : List (Nat × Fn1) := [(113, adp113 N113), (114, adp114 N114), (115, adp115 N115)]
noncomputable def bod71 : Code := Tryz.f71.body.getD .skip
noncomputable def run71 (k : Nat) (a0 : BY) (Kt : Tk71) : Option Out := runK Tryz.prog (lookG (gam71 N113 N114 N115)) 9 lvs71 C k Tryz.f71 none [.s (.str a0)] (tok71 Kt)
noncomputable def p1_71 (k : Nat) (v0 : BY) (v26 : Bool) (Kt : Tk71) : Option Out := C 194 ([.c (.s (.str v0))] ++ us 25 ++ [.c (.s (.bool v26))] ++ us 21) fun e => atK Tryz.prog (lookG (gam71 N113 N114 N115)) 9 lvs71 C k bod71 [1, 0, 1] e (fin Tryz.prog Tryz.f71 none (tok71 Kt))
noncomputable def p2_71 (k : Nat) (v0 : BY) (v4 : Int) (Kt : Tk71) : Option Out := C 385 ([.c (.s (.str v0)), .u, .u, .u, .c (.s (.int .i64 v4))] ++ us 43) fun e => atK Tryz.prog (lookG (gam71 N113 N114 N115)) 9 lvs71 C k bod71 [1, 0, 1, 0, 1, 1] e (fin Tryz.prog Tryz.f71 none (tok71 Kt))
theorem run71_eq (k : Nat) (a0 : BY) (Kt : Tk71) : run71 C N113 N114 N115 k a0 Kt =
  (bif (decide ((a0.length : Int) > 2)) then ((at? a0 0).bind fun b1 => (bif ((b1.toNat : Int) == 48) then ((at? a0 1).bind fun b2 => (bif ((b2.toNat : Int) == 111) then (p1_71 C N113 N114 N115 k a0 true Kt) else ((at? a0 1).bind fun b3 => (p1_71 C N113 N114 N115 k a0 ((b3.toNat : Int) == 120) Kt)))) else (p1_71 C N113 N114 N115 k a0 false Kt))) else (p1_71 C N113 N114 N115 k a0 false Kt)) := by kernel_rfl
theorem p1_71_eq (hC : ∀ key e t, C key e t = t e) (k : Nat) (v0 : BY) (v26 : Bool) (Kt : Tk71) : p1_71 C N113 N114 N115 k v0 v26 Kt =
  (bif v26 then ((at? v0 1).bind fun b4 => (bif ((b4.toNat : Int) == 120) then (p2_71 C N113 N114 N115 k v0 16 Kt) else (p2_71 C N113 N114 N115 k v0 8 Kt))) else (N114 v0 fun r5 r6 => (N115 r6 r5 fun r7 => (Kt r7 (!(r7 == ([] : BY))))))) := (hC _ _ _).trans (by kernel_rfl)
theorem p2_71_eq (hC : ∀ key e t, C key e t = t e) (k : Nat) (v0 : BY) (v4 : Int) (Kt : Tk71) : p2_71 C N113 N114 N115 k v0 v4 Kt =
  ((cut v0 (some (2 : Int)) none).bind fun s8 => (N113 s8 v4 fun r9 => (Kt r9 (!(r9 == ([] : BY)))))) := (hC _ _ _).trans (by kernel_rfl)
end
theorem as71 {G : World → Prop} {ng : Nat} (S : Stays Tryz.prog G ng) {N113 : Ty113} {N114 : Ty114} {N115 : Ty115} (h113 : FnIs Tryz.prog G ng 113 (adp113 N113)) (h114 : FnIs Tryz.prog G ng 114 (adp114 N114)) (h115 : FnIs Tryz.prog G ng 115 (adp115 N115)) {A : Ty71} (hA : ∀ (a0 : BY) (Kt : Tk71) (r : Out), A a0 Kt = some r → run71 cut0 N113 N114 N115 big a0 Kt = some r) : FnIs Tryz.prog G ng 71 (adp71 A) := by
  refine spec_run cut0_eq S (l := gam71 N113 N114 N115) (by intro p hp; simp only [gam71, List.mem_cons, List.not_mem_nil, or_false] at hp; rcases hp with rfl | rfl | rfl <;> assumption) Tryz.func71 (by kernel_rfl) (nn := 9) (Lv := lvs71) (k := big) fun rc cs K r h => ?_
  unfold adp71 at h
  split at h
  · exact ⟨_, hA _ _ _ h, fun p hp => by unfold tok71 at hp; split at hp; exact hp; cases hp⟩
  · cases h

/-! targum/targumref6.Int11 -/
def lvs72 : Nat → Option (List (Nat × Co))
  | 258 => some [(4, .k), (5, .k), (27, .k)]
  | 450 => some [(4, .k), (5, .k), (6, .k), (7, .k), (8, .k)]
  | 577 => some [(5, .k), (6, .k), (7, .k), (8, .k)]
  | 1026 => some [(4, .k), (5, .k), (57, .k)]
  | _ => none
section
variable (C : Nat → Env → (Env → Option Out) → Option Out) (N113 : Ty113) (N114 : Ty114) (N115 : Ty115) (N116 : Ty116) (N117 : Ty117)
def gam72 : List (Nat × Fn1) := [(113, adp113 N113), (114, adp114 N114), (115, adp115 N115), (116, adp116 N116), (117, adp117 N117)]
noncomputable def bod72 : Code := Tryz.f72.body.getD .skip
noncomputable def run72 (k : Nat) (a0 : BY) (Kt : Tk72) : Option Out := runK Tryz.prog (lookG (gam72 N113 N114 N115 N116 N117)) 4 lvs72 C k Tryz.f72 none [.s (.str a0)] (tok72 Kt)
noncomputable def p1_72 (k : Nat) (v4 : BY) (v5 : Bool) (v27 : Bool) (Kt : Tk72) : Option Out := C 258 ([.u, .u, .u, .u, .c (.s (.str v4)), .c (.s (.bool v5))] ++ us 21 ++ [.c (.s (.bool v27))] ++ us 60) fun e => atK Tryz.prog (lookG (gam72 N113 N114 N115 N116 N117)) 4 lvs72 C k bod72 [1, 1, 0, 1] e (fin Tryz.prog Tryz.f72 none (tok72 Kt))
noncomputable def p2_72 (k : Nat) (v4 : BY) (v5 : Bool) (v6 : Int) (v7 : BY) (v8 : Int) (Kt : Tk72) : Option Out := C 450 ([.u, .u, .u, .u, .c (.s (.str v4)), .c (.s (.bool v5)), .c (.s (.int .i64 v6)), .c (.s (.str v7)), .c (.s (.int .i64 v8))] ++ us 79) fun e => atK Tryz.prog (lookG (gam72 N113 N114 N115 N116 N117)) 4 lvs72 C k bod72 [1, 1, 0, 1, 0, 1, 1] e (fin Tryz.prog Tryz.f72 none (tok72 Kt))
noncomputable def p3_72 (k : Nat) (v4 : BY) (v5 : Bool) (v57 : Bool) (Kt : Tk72) : Option Out := C 1026 ([.u, .u, .u, .u, .c (.s (.str v4)), .c (.s (.bool v5))] ++ us 51 ++ [.c (.s (.bool v57))] ++ us 30) fun e => atK Tryz.prog (lookG (gam72 N113 N114 N115 N116 N117)) 4 lvs72 C k bod72 [1, 1, 1, 0, 0, 1, 1, 1] e (fin Tryz.prog Tryz.f72 none (tok72 Kt))
noncomputable def p4_72 (k : Nat) (v5 : Bool) (v6 : Int) (v7 : BY) (v8 : Int) (Kt : Tk72) : Option Out := C 577 ([.u, .u, .u, .u, .u, .c (.s (.bool v5)), .c (.s (.int .i64 v6)), .c (.s (.str v7)), .c (.s (.int .i64 v8))] ++ us 79) fun e => atK Tryz.prog (lookG (gam72 N113 N114 N115 N116 N117)) 4 lvs72 C k bod72 [1, 1, 0, 1, 0, 1, 1, 1] e (fin Tryz.prog Tryz.f72 none (tok72 Kt))
theorem run72_eq (k : Nat) (a0 : BY) (Kt : Tk72) : run72 C N113 N114 N115 N116 N117 k a0 Kt =
  (N114 a0 fun r1 r2 => (bif (decide ((r1.length : Int) ≥ 2)) then ((at? r1 0).bind fun b3 => (p1_72 C N113 N114 N115 N116 N117 k r1 r2 ((b3.toNat : Int) == 48) Kt)) else (p1_72 C N113 N114 N115 N116 N117 k r1 r2 false Kt))) := by kernel_rfl
theorem p1_72_eq (hC : ∀ key e t, C key e t = t e) (k : Nat) (v4 : BY) (v5 : Bool) (v27 : Bool) (Kt : Tk72) : p1_72 C N113 N114 N115 N116 N117 k v4 v5 v27 Kt =
  (bif v27 then ((cut v4 (some (1 : Int)) none).bind fun s4 => ((at? v4 1).bind fun b5 => (bif ((b5.toNat : Int) == 98) then ((cut v4 (some (2 : Int)) none).bind fun s6 => (p2_72 C N113 N114 N115 N116 N117 k v4 v5 2 s6 1 Kt)) else (p2_72 C N113 N114 N115 N116 N117 k v4 v5 8 s4 3 Kt)))) else (bif (v4 == ([48] : BY)) then (Kt ([48] : BY) 4) else (bif (v4 == ([] : BY)) then (p3_72 C N113 N114 N115 N116 N117 k v4 v5 true Kt) else ((at? v4 0).bind fun b7 => (bif (decide ((b7.toNat : Int) < 49)) then (p3_72 C N113 N114 N115 N116 N117 k v4 v5 true Kt) else ((at? v4 0).bind fun b8 => (p3_72 C N113 N114 N115 N116 N117 k v4 v5 (decide ((b8.toNat : Int) > 57)) Kt))))))) := (hC _ _ _).trans (by kernel_rfl)
theorem p2_72_eq (hC : ∀ key e t, C key e t = t e) (k : Nat) (v4 : BY) (v5 : Bool) (v6 : Int) (v7 : BY) (v8 : Int) (Kt : Tk72) : p2_72 C N113 N114 N115 N116 N117 k v4 v5 v6 v7 v8 Kt =
  ((at? v4 1).bind fun b9 => (bif ((b9.toNat : Int) == 120) then ((cut v4 (some (2 : Int)) none).bind fun s10 => (p4_72 C N113 N114 N115 N116 N117 k v5 16 s10 2 Kt)) else (p4_72 C N113 N114 N115 N116 N117 k v5 v6 v7 v8 Kt))) := (hC _ _ _).trans (by kernel_rfl)
theorem p3_72_eq (hC : ∀ key e t, C key e t = t e) (k : Nat) (v4 : BY) (v5 : Bool) (v57 : Bool) (Kt : Tk72) : p3_72 C N113 N114 N115 N116 N117 k v4 v5 v57 Kt =
  (bif v57 then (Kt ([] : BY) 0) else (N116 v4 10 fun r11 r12 => (bif r12 then (N115 v5 r11 fun r13 => (Kt r13 5)) else (N117 v4 fun r14 r15 => (bif r15 then (N115 v5 r14 fun r16 => (Kt r16 6)) else (Kt ([] : BY) 0)))))) := (hC _ _ _).trans (by kernel_rfl)
theorem p4_72_eq (hC : ∀ key e t, C key e t = t e) (k : Nat) (v5 : Bool) (v6 : Int) (v7 : BY) (v8 : Int) (Kt : Tk72) : p4_72 C N113 N114 N115 N116 N117 k v5 v6 v7 v8 Kt =
  (N116 v7 v6 fun r17 r18 => (bif (!r18) then (Kt ([] : BY) 0) else (N113 r17 v6 fun r19 => (N115 v5 r19 fun r20 => (Kt r20 v8))))) := (hC _ _ _).trans (by kernel_rfl)
end
theorem as72 {G : World → Prop} {ng : Nat} (S : Stays Tryz.prog G ng) {N113 : Ty113} {N114 : Ty114} {N115 : Ty115} {N116 : Ty116} {N117 : Ty117} (h113 : FnIs Tryz.prog G ng 113 (adp113 N113)) (h114 : FnIs Tryz.prog G ng 114 (adp114 N114)) (h115 : FnIs Tryz.prog G ng 115 (adp115 N115)) (h116 : FnIs Tryz.prog G ng 116 (adp116 N116)) (h117 : FnIs Tryz.prog G ng 117 (adp117 N117)) {A : Ty72} (hA : ∀ (a0 : BY) (Kt : Tk72) (r : Out), A a0 Kt = some r → run72 cut0 N113 N114 N115 N116 N117 big a0 Kt = some r) : FnIs Tryz.prog G ng 72 (adp72 A) := by
  refine spec_run cut0_eq S (l := gam72 N113 N114 N115 N116 N117) (by intro p hp; simp only [gam72, List.mem_cons, List.not_mem_nil, or_false] at hp; rcases hp with rfl | rfl | rfl | rfl | rfl <;> assumption) Tryz.func72 (by kernel_rfl) (nn := 4) (Lv := lvs72) (k := big) fun rc cs K r h => ?_
  unfold adp72 at h
  split at h
  · exact ⟨_, hA _ _ _ h, fun p hp => by unfold tok72 at hp; split at hp; exact hp; cases hp⟩
  · cases h

/-! targum/targumref6.Float12 -/
def lvs73 : Nat → Option (List (Nat × Co))
  | 898 => some [(2, .k), (6, .k), (7, .k), (10, .k), (11, .k), (12, .k), (65, .k)]
  | 1153 => some [(2, .k), (6, .k), (7, .k), (10, .k), (11, .k), (12, .k)]
  | 1000643 => some [(2, .k), (6, .k), (7, .k), (10, .k)]
  | 1000963 => some [(2, .k), (6, .k), (7, .k), (10, .k), (11, .k), (13, .k)]
  | _ => none
section
variable (C : Nat → Env → (Env → Option Out) → Option Out) (N71 : Ty71) (N92 : Ty92) (N114 : Ty114) (N118 : Ty118) (N119 : Ty119) (N120 : Ty120)
def gam73 : List (Nat × Fn1) := [(71, adp71 N71), (92, adp92 N92), (114, adp114 N114), (118, adp118 N118), (119, adp119 N119), (120, adp120 N120)]
noncomputable def bod73 : Code := Tryz.f73.body.getD .skip
noncomputable def run73 (k : Nat) (a0 : BY) (Kt : Tk73) : Option Out := runK Tryz.prog (lookG (gam73 N71 N92 N114 N118 N119 N120)) 4 lvs73 C k Tryz.f73 none [.s (.str a0)] (tok73 Kt)
noncomputable def l1_73 (k : Nat) (j0 : Nat) (v2_0 : Int) (v2_1 : Bool) (v2_2 : BY) (v2_3 : BY) (v6 : BY) (v7 : Bool) (v10 : Int) (Kt : Tk73) : Option Out := C 1000643 ([.u, .u, .box 91 (.ss [.int .i64 v2_0, .bool v2_1, .str v2_2, .str v2_3]), .u, .u, .u, .c (.s (.str v6)), .c (.s (.bool v7)), .u, .u, .c (.s (.int .i64 v10))] ++ us 92) fun e => headK Tryz.prog (lookG (gam73 N71 N92 N114 N118 N119 N120)) 4 lvs73 C k j0 bod73 [1, 1, 1, 1, 1, 0, 0] e (fin Tryz.prog Tryz.f73 none (tok73 Kt))
noncomputable def p2_73 (k : Nat) (v2_0 : Int) (v2_1 : Bool) (v2_2 : BY) (v2_3 : BY) (v6 : BY) (v7 : Bool) (v10 : Int) (v11 : BY) (v12 : BY) (v65 : Bool) (Kt : Tk73) : Option Out := C 898 ([.u, .u, .box 91 (.ss [.int .i64 v2_0, .bool v2_1, .str v2_2, .str v2_3]), .u, .u, .u, .c (.s (.str v6)), .c (.s (.bool v7)), .u, .u, .c (.s (.int .i64 v10)), .c (.s (.str v11)), .c (.s (.str v12))] ++ us 52 ++ [.c (.s (.bool v65))] ++ us 37) fun e => atK Tryz.prog (lookG (gam73 N71 N92 N114 N118 N119 N120)) 4 lvs73 C k bod73 [1, 1, 1, 1, 1, 1, 1, 0, 1] e (fin Tryz.prog Tryz.f73 none (tok73 Kt))
noncomputable def l3_73 (k : Nat) (j0 : Nat) (v2_0 : Int) (v2_1 : Bool) (v2_2 : BY) (v2_3 : BY) (v6 : BY) (v7 : Bool) (v10 : Int) (v11 : BY) (v13 : Int) (Kt : Tk73) : Option Out := C 1000963 ([.u, .u, .box 91 (.ss [.int .i64 v2_0, .bool v2_1, .str v2_2, .str v2_3]), .u, .u, .u, .c (.s (.str v6)), .c (.s (.bool v7)), .u, .u, .c (.s (.int .i64 v10)), .c (.s (.str v11)), .u, .c (.s (.int .i64 v13))] ++ us 89) fun e => headK Tryz.prog (lookG (gam73 N71 N92 N114 N118 N119 N120)) 4 lvs73 C k j0 bod73 [1, 1, 1, 1, 1, 1, 1, 0, 1, 0, 1, 0, 0] e (fin Tryz.prog Tryz.f73 none (tok73 Kt))
noncomputable def p4_73 (k : Nat) (v2_0 : Int) (v2_1 : Bool) (v2_2 : BY) (v2_3 : BY) (v6 : BY) (v7 : Bool) (v10 : Int) (v11 : BY) (v12 : BY) (Kt : Tk73) : Option Out := C 1153 ([.u, .u, .box 91 (.ss [.int .i64 v2_0, .bool v2_1, .str v2_2, .str v2_3]), .u, .u, .u, .c (.s (.str v6)), .c (.s (.bool v7)), .u, .u, .c (.s (.int .i64 v10)), .c (.s (.str v11)), .c (.s (.str v12))] ++ us 90) fun e => atK Tryz.prog (lookG (gam73 N71 N92 N114 N118 N119 N120)) 4 lvs73 C k bod73 [1, 1, 1, 1, 1, 1, 1, 1] e (fin Tryz.prog Tryz.f73 none (tok73 Kt))
theorem run73_eq (k : Nat) (a0 : BY) (Kt : Tk73) : run73 C N71 N92 N114 N118 N119 N120 k a0 Kt =
  (N71 a0 fun r1 r2 => (bif r2 then (Kt 0 false ([] : BY) ([] : BY) false) else (N114 a0 fun r3 r4 => (N118 r3 r4 (decide ((r3.length : Int) < (a0.length : Int))) fun r5 r6 r7 r8 r9 => (bif r9 then (Kt r5 r6 r7 r8 true) else (l1_73 C N71 N92 N114 N118 N119 N120 k k 0 false ([] : BY) ([] : BY) r3 r4 0 Kt)))))) := by kernel_rfl
theorem l1_73_eq (hC : ∀ key e t, C key e t = t e) (k : Nat) (j0 : Nat) (v2_0 : Int) (v2_1 : Bool) (v2_2 : BY) (v2_3 : BY) (v6 : BY) (v7 : Bool) (v10 : Int) (Kt : Tk73) : l1_73 C N71 N92 N114 N118 N119 N120 k (j0 + 1) v2_0 v2_1 v2_2 v2_3 v6 v7 v10 Kt =
  (bif (decide (v10 < (v6.length : Int))) then ((at? v6 v10).bind fun b10 => (N92 (b10.toNat : Int) fun r11 => (bif r11 then (l1_73 C N71 N92 N114 N118 N119 N120 k j0 v2_0 v2_1 v2_2 v2_3 v6 v7 (IntKind.i64.wrap (v10 + 1)) Kt) else ((cut v6 none (some v10)).bind fun s12 => (bif (decide (v10 < (v6.length : Int))) then ((at? v6 v10).bind fun b13 => (p2_73 C N71 N92 N114 N118 N119 N120 k v2_0 v2_1 v2_2 v2_3 v6 v7 v10 s12 ([] : BY) ((b13.toNat : Int) == 46) Kt)) else (p2_73 C N71 N92 N114 N118 N119 N120 k v2_0 v2_1 v2_2 v2_3 v6 v7 v10 s12 ([] : BY) false Kt)))))) else ((cut v6 none (some v10)).bind fun s14 => (bif (decide (v10 < (v6.length : Int))) then ((at? v6 v10).bind fun b15 => (p2_73 C N71 N92 N114 N118 N119 N120 k v2_0 v2_1 v2_2 v2_3 v6 v7 v10 s14 ([] : BY) ((b15.toNat : Int) == 46) Kt)) else (p2_73 C N71 N92 N114 N118 N119 N120 k v2_0 v2_1 v2_2 v2_3 v6 v7 v10 s14 ([] : BY) false Kt)))) := (hC _ _ _).trans (by kernel_rfl)
theorem p2_73_eq (hC : ∀ key e t, C key e t = t e) (k : Nat) (v2_0 : Int) (v2_1 : Bool) (v2_2 : BY) (v2_3 : BY) (v6 : BY) (v7 : Bool) (v10 : Int) (v11 : BY) (v12 : BY) (v65 : Bool) (Kt : Tk73) : p2_73 C N71 N92 N114 N118 N119 N120 k v2_0 v2_1 v2_2 v2_3 v6 v7 v10 v11 v12 v65 Kt =
  (bif v65 then (l3_73 C N71 N92 N114 N118 N119 N120 k k v2_0 v2_1 v2_2 v2_3 v6 v7 v10 v11 (IntKind.i64.wrap (v10 + 1)) Kt) else (p4_73 C N71 N92 N114 N118 N119 N120 k v2_0 v2_1 v2_2 v2_3 v6 v7 v10 v11 v12 Kt)) := (hC _ _ _).trans (by kernel_rfl)
theorem l3_73_eq (hC : ∀ key e t, C key e t = t e) (k : Nat) (j0 : Nat) (v2_0 : Int) (v2_1 : Bool) (v2_2 : BY) (v2_3 : BY) (v6 : BY) (v7 : Bool) (v10 : Int) (v11 : BY) (v13 : Int) (Kt : Tk73) : l3_73 C N71 N92 N114 N118 N119 N120 k (j0 + 1) v2_0 v2_1 v2_2 v2_3 v6 v7 v10 v11 v13 Kt =
  (bif (decide (v13 < (v6.length : Int))) then ((at? v6 v13).bind fun b16 => (N92 (b16.toNat : Int) fun r17 => (bif r17 then (l3_73 C N71 N92 N114 N118 N119 N120 k j0 v2_0 v2_1 v2_2 v2_3 v6 v7 v10 v11 (IntKind.i64.wrap (v13 + 1)) Kt) else ((cut v6 (some (IntKind.i64.wrap (v10 + 1))) (some v13)).bind fun s18 => (p4_73 C N71 N92 N114 N118 N119 N120 k v2_0 v2_1 v2_2 v2_3 v6 v7 v13 v11 s18 Kt))))) else ((cut v6 (some (IntKind.i64.wrap (v10 + 1))) (some v13)).bind fun s19 => (p4_73 C N71 N92 N114 N118 N119 N120 k v2_0 v2_1 v2_2 v2_3 v6 v7 v13 v11 s19 Kt))) := (hC _ _ _).trans (by kernel_rfl)
theorem p4_73_eq (hC : ∀ key e t, C key e t = t e) (k : Nat) (v2_0 : Int) (v2_1 : Bool) (v2_2 : BY) (v2_3 : BY) (v6 : BY) (v7 : Bool) (v10 : Int) (v11 : BY) (v12 : BY) (Kt : Tk73) : p4_73 C N71 N92 N114 N118 N119 N120 k v2_0 v2_1 v2_2 v2_3 v6 v7 v10 v11 v12 Kt =
  ((cut v6 (some v10) none).bind fun s20 => (N119 s20 true fun r21 r22 => (bif (!r22) then (Kt 0 false ([] : BY) ([] : BY) false) else (N120 v7 v11 v12 r21 fun r23 r24 r25 r26 r27 => (Kt r23 r24 r25 r26 r27))))) := (hC _ _ _).trans (by kernel_rfl)
end
theorem as73 {G : World → Prop} {ng : Nat} (S : Stays Tryz.prog G ng) {N71 : Ty71} {N92 : Ty92} {N114 : Ty114} {N118 : Ty118} {N119 : Ty119} {N120 : Ty120} (h71 : FnIs Tryz.prog G ng 71 (adp71 N71)) (h92 : FnIs Tryz.prog G ng 92 (adp92 N92)) (h114 : FnIs Tryz.prog G ng 114 (adp114 N114)) (h118 : FnIs Tryz.prog G ng 118 (adp118 N118)) (h119 : FnIs Tryz.prog G ng 119 (adp119 N119)) (h120 : FnIs Tryz.prog G ng 120 (adp120 N120)) {A : Ty73} (hA : ∀ (a0 : BY) (Kt : Tk73) (r : Out), A a0 Kt = some r → run73 cut0 N71 N92 N114 N118 N119 N120 big a0 Kt = some r) : FnIs Tryz.prog G ng 73 (adp73 A) := by
  refine spec_run cut0_eq S (l := gam73 N71 N92 N114 N118 N119 N120) (by intro p hp; simp only [gam73, List.mem_cons, List.not_mem_nil, or_false] at hp; rcases hp with rfl | rfl | rfl | rfl | rfl | rfl <;> assumption) Tryz.func73 (by kernel_rfl) (nn := 4) (Lv := lvs73) (k := big) fun rc cs K r h => ?_
  unfold adp73 at h
  split at h
  · exact ⟨_, hA _ _ _ h, fun p hp => by unfold tok73 at hp; split at hp; exact hp; cases hp⟩
  · cases h

/-! targum/targumref6.Float11 -/
def lvs75 : Nat → Option (List (Nat × Co))
  | 1665 => some [(2, .k), (5, .k), (8, .k), (9, .k), (10, .k), (11, .k), (12, .k), (13, .k), (15, .k), (16, .k), (18, .k)]
  | 1730 => some [(2, .k), (5, .k), (8, .k), (11, .k), (12, .k), (13, .k), (15, .k), (16, .k), (123, .k)]
  | 1794 => some [(2, .k), (5, .k), (8, .k), (11, .k), (12, .k), (13, .k), (15, .k), (16, .k)]
  | 1858 => some [(2, .k), (5, .k), (11, .k), (13, .k), (15, .k), (16, .k), (130, .k)]
  | 1000707 => some [(2, .k), (4, .k), (5, .k), (8, .k), (9, .k), (10, .k)]
  | _ => none
section
variable (C : Nat → Env → (Env → Option Out) → Option Out) (N92 : Ty92) (N114 : Ty114) (N116 : Ty116) (N117 : Ty117) (N118 : Ty118) (N119 : Ty119) (N120 : Ty120) (N122 : Ty122)
def gam75 : List (Nat × Fn1) := [(92, adp92 N92), (114, adp114 N114), (116, adp116 N116), (117, adp117 N117), (118, adp118 N118), (119, adp119 N119), (120, adp120 N120), (122, adp122 N122)]
noncomputable def bod75 : Code := Tryz.f75.body.getD .skip
noncomputable def run75 (k : Nat) (a0 : BY) (Kt : Tk75) : Option Out := runK Tryz.prog (lookG (gam75 N92 N114 N116 N117 N118 N119 N120 N122)) 4 lvs75 C k Tryz.f75 none [.s (.str a0)] (tok75 Kt)
noncomputable def l1_75 (k : Nat) (j0 : Nat) (v2_0 : Int) (v2_1 : Bool) (v2_2 : BY) (v2_3 : BY) (v4 : BY) (v5 : Bool) (v8 : Int) (v9 : BY) (v10 : Int) (Kt : Tk75) : Option Out := C 1000707 ([.u, .u, .box 91 (.ss [.int .i64 v2_0, .bool v2_1, .str v2_2, .str v2_3]), .u, .c (.s (.str v4)), .c (.s (.bool v5)), .u, .u, .c (.s (.int .i64 v8)), .c (.s (.str v9)), .c (.s (.int .i64 v10))] ++ us 131) fun e => headK Tryz.prog (lookG (gam75 N92 N114 N116 N117 N118 N119 N120 N122)) 4 lvs75 C k j0 bod75 [1, 1, 1, 1, 1, 1, 1, 0, 0] e (fin Tryz.prog Tryz.f75 none (tok75 Kt))
noncomputable def p2_75 (k : Nat) (v2_0 : Int) (v2_1 : Bool) (v2_2 : BY) (v2_3 : BY) (v5 : Bool) (v8 : Int) (v9 : BY) (v10 : Int) (v11 : BY) (v12 : Bool) (v13 : BY) (v15 : BY) (v16 : Int) (v18 : Bool) (Kt : Tk75) : Option Out := C 1665 ([.u, .u, .box 91 (.ss [.int .i64 v2_0, .bool v2_1, .str v2_2, .str v2_3]), .u, .u, .c (.s (.bool v5)), .u, .u, .c (.s (.int .i64 v8)), .c (.s (.str v9)), .c (.s (.int .i64 v10)), .c (.s (.str v11)), .c (.s (.bool v12)), .c (.s (.str v13)), .u, .c (.s (.str v15)), .c (.s (.int .i64 v16)), .u, .c (.s (.bool v18))] ++ us 123) fun e => atK Tryz.prog (lookG (gam75 N92 N114 N116 N117 N118 N119 N120 N122)) 4 lvs75 C k bod75 [1, 1, 1, 1, 1, 1, 1, 1, 1, 1, 1, 1, 0, 1, 0, 1, 1, 1, 1] e (fin Tryz.prog Tryz.f75 none (tok75 Kt))
noncomputable def p3_75 (k : Nat) (v2_0 : Int) (v2_1 : Bool) (v2_2 : BY) (v2_3 : BY) (v5 : Bool) (v8 : Int) (v11 : BY) (v12 : Bool) (v13 : BY) (v15 : BY) (v16 : Int) (Kt : Tk75) : Option Out := C 1794 ([.u, .u, .box 91 (.ss [.int .i64 v2_0, .bool v2_1, .str v2_2, .str v2_3]), .u, .u, .c (.s (.bool v5)), .u, .u, .c (.s (.int .i64 v8)), .u, .u, .c (.s (.str v11)), .c (.s (.bool v12)), .c (.s (.str v13)), .u, .c (.s (.str v15)), .c (.s (.int .i64 v16))] ++ us 125) fun e => atK Tryz.prog (lookG (gam75 N92 N114 N116 N117 N118 N119 N120 N122)) 4 lvs75 C k bod75 [1, 1, 1, 1, 1, 1, 1, 1, 1, 1, 1, 1, 1] e (fin Tryz.prog Tryz.f75 none (tok75 Kt))
noncomputable def p4_75 (k : Nat) (v2_0 : Int) (v2_1 : Bool) (v2_2 : BY) (v2_3 : BY) (v5 : Bool) (v8 : Int) (v11 : BY) (v12 : Bool) (v13 : BY) (v15 : BY) (v16 : Int) (v123 : Bool) (Kt : Tk75) : Option Out := C 1730 ([.u, .u, .box 91 (.ss [.int .i64 v2_0, .bool v2_1, .str v2_2, .str v2_3]), .u, .u, .c (.s (.bool v5)), .u, .u, .c (.s (.int .i64 v8)), .u, .u, .c (.s (.str v11)), .c (.s (.bool v12)), .c (.s (.str v13)), .u, .c (.s (.str v15)), .c (.s (.int .i64 v16))] ++ us 106 ++ [.c (.s (.bool v123))] ++ us 18) fun e => atK Tryz.prog (lookG (gam75 N92 N114 N116 N117 N118 N119 N120 N122)) 4 lvs75 C k bod75 [1, 1, 1, 1, 1, 1, 1, 1, 1, 1, 1, 1, 0, 1, 0, 1, 1, 1, 1, 1] e (fin Tryz.prog Tryz.f75 none (tok75 Kt))
noncomputable def p5_75 (k : Nat) (v2_0 : Int) (v2_1 : Bool) (v2_2 : BY) (v2_3 : BY) (v5 : Bool) (v11 : BY) (v13 : BY) (v15 : BY) (v16 : Int) (v130 : Bool) (Kt : Tk75) : Option Out := C 1858 ([.u, .u, .box 91 (.ss [.int .i64 v2_0, .bool v2_1, .str v2_2, .str v2_3]), .u, .u, .c (.s (.bool v5)), .u, .u, .u, .u, .u, .c (.s (.str v11)), .u, .c (.s (.str v13)), .u, .c (.s (.str v15)), .c (.s (.int .i64 v16))] ++ us 113 ++ [.c (.s (.bool v130))] ++ us 11) fun e => atK Tryz.prog (lookG (gam75 N92 N114 N116 N117 N118 N119 N120 N122)) 4 lvs75 C k bod75 [1, 1, 1, 1, 1, 1, 1, 1, 1, 1, 1, 1, 1, 0, 1] e (fin Tryz.prog Tryz.f75 none (tok75 Kt))
theorem run75_eq (k : Nat) (a0 : BY) (Kt : Tk75) : run75 C N92 N114 N116 N117 N118 N119 N120 N122 k a0 Kt =
  (N114 a0 fun r1 r2 => (N118 r1 r2 (decide ((r1.length : Int) < (a0.length : Int))) fun r3 r4 r5 r6 r7 => (bif r7 then (Kt r3 r4 r5 r6 (IntKind.i64.wrap ((IntKind.i64.wrap ((4 : Int) + r3)) - 1))) else (N122 r1 46 fun r8 => (bif (decide (r8 < 0)) then (Kt 0 false ([] : BY) ([] : BY) 0) else ((cut r1 (some (IntKind.i64.wrap (r8 + 1))) none).bind fun s9 => (l1_75 C N92 N114 N116 N117 N118 N119 N120 N122 k k 0 false ([] : BY) ([] : BY) r1 r2 r8 s9 0 Kt))))))) := by kernel_rfl
theorem l1_75_eq (hC : ∀ key e t, C key e t = t e) (k : Nat) (j0 : Nat) (v2_0 : Int) (v2_1 : Bool) (v2_2 : BY) (v2_3 : BY) (v4 : BY) (v5 : Bool) (v8 : Int) (v9 : BY) (v10 : Int) (Kt : Tk75) : l1_75 C N92 N114 N116 N117 N118 N119 N120 N122 k (j0 + 1) v2_0 v2_1 v2_2 v2_3 v4 v5 v8 v9 v10 Kt =
  (bif (decide (v10 < (v9.length : Int))) then ((at? v9 v10).bind fun b10 => (N92 (b10.toNat : Int) fun r11 => (bif r11 then (l1_75 C N92 N114 N116 N117 N118 N119 N120 N122 k j0 v2_0 v2_1 v2_2 v2_3 v4 v5 v8 v9 (IntKind.i64.wrap (v10 + 1)) Kt) else ((at? v9 v10).bind fun b12 => (bif ((b12.toNat : Int) == 95) then (l1_75 C N92 N114 N116 N117 N118 N119 N120 N122 k j0 v2_0 v2_1 v2_2 v2_3 v4 v5 v8 v9 (IntKind.i64.wrap (v10 + 1)) Kt) else ((cut v9 none (some v10)).bind fun s13 => (N116 s13 10 fun r14 r15 => ((cut v9 (some v10) none).bind fun s16 => (N119 s16 false fun r17 r18 => (bif (!r18) then (Kt 0 false ([] : BY) ([] : BY) 0) else (bif (decide (v8 > 0)) then ((at? v4 0).bind fun b19 => (N92 (b19.toNat : Int) fun r20 => (bif (!r20) then (Kt 0 false ([] : BY) ([] : BY) 0) else ((cut v4 none (some v8)).bind fun s21 => (N116 s21 10 fun r22 r23 => (bif (!r23) then ((cut v4 none (some v8)).bind fun s24 => (N117 s24 fun r25 r26 => (p2_75 C N92 N114 N116 N117 N118 N119 N120 N122 k v2_0 v2_1 v2_2 v2_3 v5 v8 v9 v10 r14 r15 r17 r25 3 r26 Kt))) else (p2_75 C N92 N114 N116 N117 N118 N119 N120 N122 k v2_0 v2_1 v2_2 v2_3 v5 v8 v9 v10 r14 r15 r17 r22 1 r23 Kt))))))) else (p3_75 C N92 N114 N116 N117 N118 N119 N120 N122 k v2_0 v2_1 v2_2 v2_3 v5 v8 r14 r15 r17 ([] : BY) 2 Kt)))))))))))) else ((cut v9 none (some v10)).bind fun s27 => (N116 s27 10 fun r28 r29 => ((cut v9 (some v10) none).bind fun s30 => (N119 s30 false fun r31 r32 => (bif (!r32) then (Kt 0 false ([] : BY) ([] : BY) 0) else (bif (decide (v8 > 0)) then ((at? v4 0).bind fun b33 => (N92 (b33.toNat : Int) fun r34 => (bif (!r34) then (Kt 0 false ([] : BY) ([] : BY) 0) else ((cut v4 none (some v8)).bind fun s35 => (N116 s35 10 fun r36 r37 => (bif (!r37) then ((cut v4 none (some v8)).bind fun s38 => (N117 s38 fun r39 r40 => (p2_75 C N92 N114 N116 N117 N118 N119 N120 N122 k v2_0 v2_1 v2_2 v2_3 v5 v8 v9 v10 r28 r29 r31 r39 3 r40 Kt))) else (p2_75 C N92 N114 N116 N117 N118 N119 N120 N122 k v2_0 v2_1 v2_2 v2_3 v5 v8 v9 v10 r28 r29 r31 r36 1 r37 Kt))))))) else (p3_75 C N92 N114 N116 N117 N118 N119 N120 N122 k v2_0 v2_1 v2_2 v2_3 v5 v8 r28 r29 r31 ([] : BY) 2 Kt)))))))) := (hC _ _ _).trans (by kernel_rfl)
theorem p2_75_eq (hC : ∀ key e t, C key e t = t e) (k : Nat) (v2_0 : Int) (v2_1 : Bool) (v2_2 : BY) (v2_3 : BY) (v5 : Bool) (v8 : Int) (v9 : BY) (v10 : Int) (v11 : BY) (v12 : Bool) (v13 : BY) (v15 : BY) (v16 : Int) (v18 : Bool) (Kt : Tk75) : p2_75 C N92 N114 N116 N117 N118 N119 N120 N122 k v2_0 v2_1 v2_2 v2_3 v5 v8 v9 v10 v11 v12 v13 v15 v16 v18 Kt =
  (bif (!v18) then (p4_75 C N92 N114 N116 N117 N118 N119 N120 N122 k v2_0 v2_1 v2_2 v2_3 v5 v8 v11 v12 v13 v15 v16 true Kt) else (bif (v16 == 3) then (p4_75 C N92 N114 N116 N117 N118 N119 N120 N122 k v2_0 v2_1 v2_2 v2_3 v5 v8 v11 v12 v13 v15 v16 (decide (v10 < (v9.length : Int))) Kt) else (p4_75 C N92 N114 N116 N117 N118 N119 N120 N122 k v2_0 v2_1 v2_2 v2_3 v5 v8 v11 v12 v13 v15 v16 false Kt))) := (hC _ _ _).trans (by kernel_rfl)
theorem p3_75_eq (hC : ∀ key e t, C key e t = t e) (k : Nat) (v2_0 : Int) (v2_1 : Bool) (v2_2 : BY) (v2_3 : BY) (v5 : Bool) (v8 : Int) (v11 : BY) (v12 : Bool) (v13 : BY) (v15 : BY) (v16 : Int) (Kt : Tk75) : p3_75 C N92 N114 N116 N117 N118 N119 N120 N122 k v2_0 v2_1 v2_2 v2_3 v5 v8 v11 v12 v13 v15 v16 Kt =
  (bif (v8 == 0) then (p5_75 C N92 N114 N116 N117 N118 N119 N120 N122 k v2_0 v2_1 v2_2 v2_3 v5 v11 v13 v15 v16 (!v12) Kt) else (p5_75 C N92 N114 N116 N117 N118 N119 N120 N122 k v2_0 v2_1 v2_2 v2_3 v5 v11 v13 v15 v16 false Kt)) := (hC _ _ _).trans (by kernel_rfl)
theorem p4_75_eq (hC : ∀ key e t, C key e t = t e) (k : Nat) (v2_0 : Int) (v2_1 : Bool) (v2_2 : BY) (v2_3 : BY) (v5 : Bool) (v8 : Int) (v11 : BY) (v12 : Bool) (v13 : BY) (v15 : BY) (v16 : Int) (v123 : Bool) (Kt : Tk75) : p4_75 C N92 N114 N116 N117 N118 N119 N120 N122 k v2_0 v2_1 v2_2 v2_3 v5 v8 v11 v12 v13 v15 v16 v123 Kt =
  (bif v123 then (Kt 0 false ([] : BY) ([] : BY) 0) else (p3_75 C N92 N114 N116 N117 N118 N119 N120 N122 k v2_0 v2_1 v2_2 v2_3 v5 v8 v11 v12 v13 v15 v16 Kt)) := (hC _ _ _).trans (by kernel_rfl)
theorem p5_75_eq (hC : ∀ key e t, C key e t = t e) (k : Nat) (v2_0 : Int) (v2_1 : Bool) (v2_2 : BY) (v2_3 : BY) (v5 : Bool) (v11 : BY) (v13 : BY) (v15 : BY) (v16 : Int) (v130 : Bool) (Kt : Tk75) : p5_75 C N92 N114 N116 N117 N118 N119 N120 N122 k v2_0 v2_1 v2_2 v2_3 v5 v11 v13 v15 v16 v130 Kt =
  (bif v130 then (Kt 0 false ([] : BY) ([] : BY) 0) else (N120 v5 v15 v11 v13 fun r41 r42 r43 r44 r45 => (Kt r41 r42 r43 r44 v16))) := (hC _ _ _).trans (by kernel_rfl)
end
theorem as75 {G : World → Prop} {ng : Nat} (S : Stays Tryz.prog G ng) {N92 : Ty92} {N114 : Ty114} {N116 : Ty116} {N117 : Ty117} {N118 : Ty118} {N119 : Ty119} {N120 : Ty120} {N122 : Ty122} (h92 : FnIs Tryz.prog G ng 92 (adp92 N92)) (h114 : FnIs Tryz.prog G ng 114 (adp114 N114)) (h116 : FnIs Tryz.prog G ng 116 (adp116 N116)) (h117 : FnIs Tryz.prog G ng 117 (adp117 N117)) (h118 : FnIs Tryz.prog G ng 118 (adp118 N118)) (h119 : FnIs Tryz.prog G ng 119 (adp119 N119)) (h120 : FnIs Tryz.prog G ng 120 (adp120 N120)) (h122 : FnIs Tryz.prog G ng 122 (adp122 N122)) {A : Ty75} (hA : ∀ (a0 : BY) (Kt : Tk75) (r : Out), A a0 Kt = some r → run75 cut0 N92 N114 N116 N117 N118 N119 N120 N122 big a0 Kt = some r) : FnIs Tryz.prog G ng 75 (adp75 A) := by
  refine spec_run cut0_eq S (l := gam75 N92 N114 N116 N117 N118 N119 N120 N122) (by intro p hp; simp only [gam75, List.mem_cons, List.not_mem_nil, or_false] at hp; rcases hp with rfl | rfl | rfl | rfl | rfl | rfl | rfl | rfl <;> assumption) Tryz.func75 (by kernel_rfl) (nn := 4) (Lv := lvs75) (k := big) fun rc cs K r h => ?_
  unfold adp75 at h
  split at h
  · exact ⟨_, hA _ _ _ h, fun p hp => by unfold tok75 at hp; split at hp; exact hp; cases hp⟩
  · cases h

/-! targum/targumref6.sign -/
def lvs114 : Nat → Option (List (Nat × Co))
  | 194 => some [(0, .k), (16, .k)]
  | _ => none
section
variable (C : Nat → Env → (Env → Option Out) → Option Out)
def gam114 : List (Nat × Fn1) := []
noncomputable def bod114 : Code := Tryz.f114.body.getD .skip
noncomputable def run114 (k : Nat) (a0 : BY) (Kt : Tk114) : Option Out := runK Tryz.prog (lookG (gam114)) 4 lvs114 C k Tryz.f114 none [.s (.str a0)] (tok114 Kt)
noncomputable def p1_114 (k : Nat) (v0 : BY) (v16 : Bool) (Kt : Tk114) : Option Out := C 194 ([.c (.s (.str v0))] ++ us 15 ++ [.c (.s (.bool v16))] ++ us 6) fun e => atK Tryz.prog (lookG (gam114)) 4 lvs114 C k bod114 [1, 0, 1] e (fin Tryz.prog Tryz.f114 none (tok114 Kt))
theorem run114_eq (k : Nat) (a0 : BY) (Kt : Tk114) : run114 C k a0 Kt =
  (bif (decide ((a0.length : Int) > 0)) then ((at? a0 0).bind fun b1 => (bif ((b1.toNat : Int) == 43) then (p1_114 C k a0 true Kt) else ((at? a0 0).bind fun b2 => (p1_114 C k a0 ((b2.toNat : Int) == 45) Kt)))) else (p1_114 C k a0 false Kt)) := by kernel_rfl
theorem p1_114_eq (hC : ∀ key e t, C key e t = t e) (k : Nat) (v0 : BY) (v16 : Bool) (Kt : Tk114) : p1_114 C k v0 v16 Kt =
  (bif v16 then ((cut v0 (some (1 : Int)) none).bind fun s3 => ((at? v0 0).bind fun b4 => (Kt s3 ((b4.toNat : Int) == 45)))) else (Kt v0 false)) := (hC _ _ _).trans (by kernel_rfl)
end
theorem as114 {G : World → Prop} {ng : Nat} (S : Stays Tryz.prog G ng) {A : Ty114} (hA : ∀ (a0 : BY) (Kt : Tk114) (r : Out), A a0 Kt = some r → run114 cut0 big a0 Kt = some r) : FnIs Tryz.prog G ng 114 (adp114 A) := by
  refine spec_run cut0_eq S (l := gam114) (by intro p hp; cases hp) Tryz.func114 (by kernel_rfl) (nn := 4) (Lv := lvs114) (k := big) fun rc cs K r h => ?_
  unfold adp114 at h
  split at h
  · exact ⟨_, hA _ _ _ h, fun p hp => by unfold tok114 at hp; split at hp; exact hp; cases hp⟩
  · cases h

/-! targum/targumref6.bare -/
def lvs116 : Nat → Option (List (Nat × Co))
  | 320 => some [(0, .k), (1, .k), (6, .o (.ints .u8 [])), (7, .k)]
  | 1000259 => some [(0, .k), (1, .k), (6, .o (.ints .u8 [])), (7, .k)]
  | _ => none
section
variable (C : Nat → Env → (Env → Option Out) → Option Out) (N90 : Ty90)
def gam116 : List (Nat × Fn1) := [(90, adp90 N90)]
noncomputable def bod116 : Code := Tryz.f116.body.getD .skip
noncomputable def run116 (k : Nat) (a0 : BY) (a1 : Int) (Kt : Tk116) : Option Out := runK Tryz.prog (lookG (gam116 N90)) 8 lvs116 C k Tryz.f116 none [.s (.str a0), .s (.int .i64 a1)] (tok116 Kt)
noncomputable def l1_116 (k : Nat) (j0 : Nat) (v0 : BY) (v1 : Int) (v6 : List Int) (v7 : Int) (Kt : Tk116) : Option Out := C 1000259 ([.c (.s (.str v0)), .c (.s (.int .i64 v1)), .u, .u, .u, .u, .c (.own (.ints .u8 v6)), .c (.s (.int .i64 v7))] ++ us 27) fun e => headK Tryz.prog (lookG (gam116 N90)) 8 lvs116 C k j0 bod116 [1, 1, 0, 1, 0] e (fin Tryz.prog Tryz.f116 none (tok116 Kt))
noncomputable def p2_116 (k : Nat) (j0 : Nat) (v0 : BY) (v1 : Int) (v6 : List Int) (v7 : Int) (Kt : Tk116) : Option Out := C 320 ([.c (.s (.str v0)), .c (.s (.int .i64 v1)), .u, .u, .u, .u, .c (.own (.ints .u8 v6)), .c (.s (.int .i64 v7))] ++ us 27) fun e => atK Tryz.prog (lookG (gam116 N90)) 8 lvs116 C k bod116 [1, 1, 0, 1, 0, j0, 1, 1] e (fin Tryz.prog Tryz.f116 none (tok116 Kt))
theorem run116_eq (k : Nat) (a0 : BY) (a1 : Int) (Kt : Tk116) : run116 C N90 k a0 a1 Kt =
  (l1_116 C N90 k k a0 a1 ([] : List Int) 0 Kt) := by kernel_rfl
theorem l1_116_eq (hC : ∀ key e t, C key e t = t e) (k : Nat) (j0 : Nat) (v0 : BY) (v1 : Int) (v6 : List Int) (v7 : Int) (Kt : Tk116) : l1_116 C N90 k (j0 + 1) v0 v1 v6 v7 Kt =
  (bif (decide (v7 < (v0.length : Int))) then ((at? v0 v7).bind fun b1 => (bif ((b1.toNat : Int) == 95) then (p2_116 C N90 k j0 v0 v1 v6 v7 Kt) else ((at? v0 v7).bind fun b2 => (N90 (b2.toNat : Int) fun r3 => (bif (decide (r3 ≥ v1)) then (Kt ([] : BY) false) else ((at? v0 v7).bind fun b4 => (bif decide ((v6 ++ ([(b4.toNat : Int)] : List Int)).length ≤ 1099511627776) then (p2_116 C N90 k j0 v0 v1 (v6 ++ ([(b4.toNat : Int)] : List Int)) v7 Kt) else none))))))) else (Kt (v6.map fun n => UInt8.ofNat n.toNat) (decide ((v6.length : Int) > 0)))) := (hC _ _ _).trans (by kernel_rfl)
theorem p2_116_eq (hC : ∀ key e t, C key e t = t e) (k : Nat) (j0 : Nat) (v0 : BY) (v1 : Int) (v6 : List Int) (v7 : Int) (Kt : Tk116) : p2_116 C N90 k j0 v0 v1 v6 v7 Kt =
  (l1_116 C N90 k j0 v0 v1 v6 (IntKind.i64.wrap (v7 + 1)) Kt) := (hC _ _ _).trans (by kernel_rfl)
end
theorem as116 {G : World → Prop} {ng : Nat} (S : Stays Tryz.prog G ng) {N90 : Ty90} (h90 : FnIs Tryz.prog G ng 90 (adp90 N90)) {A : Ty116} (hA : ∀ (a0 : BY) (a1 : Int) (Kt : Tk116) (r : Out), A a0 a1 Kt = some r → run116 cut0 N90 big a0 a1 Kt = some r) : FnIs Tryz.prog G ng 116 (adp116 A) := by
  refine spec_run cut0_eq S (l := gam116 N90) (by intro p hp; simp only [gam116, List.mem_cons, List.not_mem_nil, or_false] at hp; rcases hp with rfl <;> assumption) Tryz.func116 (by kernel_rfl) (nn := 8) (Lv := lvs116) (k := big) fun rc cs K r h => ?_
  unfold adp116 at h
  split at h
  · exact ⟨_, hA _ _ _ _ h, fun p hp => by unfold tok116 at hp; split at hp; exact hp; cases hp⟩
  · cases h

/-! targum/targumref6.sixty -/
def lvs117 : Nat → Option (List (Nat × Co))
  | 258 => some [(0, .k), (4, .k), (21, .k)]
  | 897 => some [(0, .k), (4, .k), (7, .k), (8, .k), (9, .k)]
  | 1000579 => some [(0, .k), (4, .k), (7, .k)]
  | 1001219 => some [(0, .k), (4, .k), (7, .k), (8, .k), (9, .k), (10, .k), (11, .k), (54, .k), (55, .k), (56, .k), (59, .k), (60, .k), (61, .k), (62, .k), (66, .k)]
  | _ => none
section
variable (C : Nat → Env → (Env → Option Out) → Option Out) (N92 : Ty92) (N115 : Ty115) (N116 : Ty116) (N122 : Ty122) (N174 : Ty174) (N175 : Ty175)
def gam117 : List (Nat × Fn1) := [(92, adp92 N92), (115, adp115 N115), (116, adp116 N116), (122, adp122 N122), (174, adp174 N174), (175, adp175 N175)]
noncomputable def bod117 : Code := Tryz.f117.body.getD .skip
noncomputable def run117 (k : Nat) (a0 : BY) (Kt : Tk117) : Option Out := runK Tryz.prog (lookG (gam117 N92 N115 N116 N122 N174 N175)) 4 lvs117 C k Tryz.f117 none [.s (.str a0)] (tok117 Kt)
noncomputable def p1_117 (k : Nat) (v0 : BY) (v4 : Int) (v21 : Bool) (Kt : Tk117) : Option Out := C 258 ([.c (.s (.str v0)), .u, .u, .u, .c (.s (.int .i64 v4))] ++ us 16 ++ [.c (.s (.bool v21))] ++ us 68) fun e => atK Tryz.prog (lookG (gam117 N92 N115 N116 N122 N174 N175)) 4 lvs117 C k bod117 [1, 1, 0, 1] e (fin Tryz.prog Tryz.f117 none (tok117 Kt))
noncomputable def l2_117 (k : Nat) (j0 : Nat) (v0 : BY) (v4 : Int) (v7 : BY) (Kt : Tk117) : Option Out := C 1000579 ([.c (.s (.str v0)), .u, .u, .u, .c (.s (.int .i64 v4)), .u, .u, .c (.s (.str v7))] ++ us 82) fun e => headK Tryz.prog (lookG (gam117 N92 N115 N116 N122 N174 N175)) 4 lvs117 C k j0 bod117 [1, 1, 1, 1, 1, 1, 0, 0] e (fin Tryz.prog Tryz.f117 none (tok117 Kt))
noncomputable def p3_117 (k : Nat) (j0 : Nat) (v0 : BY) (v4 : Int) (v7 : BY) (v8 : BY) (v9 : Int) (Kt : Tk117) : Option Out := C 897 ([.c (.s (.str v0)), .u, .u, .u, .c (.s (.int .i64 v4)), .u, .u, .c (.s (.str v7)), .c (.s (.str v8)), .c (.s (.int .i64 v9))] ++ us 80) fun e => atK Tryz.prog (lookG (gam117 N92 N115 N116 N122 N174 N175)) 4 lvs117 C k bod117 [1, 1, 1, 1, 1, 1, 0, 0, j0, 1, 0, 1, 1, 1] e (fin Tryz.prog Tryz.f117 none (tok117 Kt))
noncomputable def l4_117 (k : Nat) (j0 : Nat) (j1 : Nat) (v0 : BY) (v4 : Int) (v7 : BY) (v8 : BY) (v9 : Int) (v10 : Int) (v11 : Int) (v54 : BY) (v55 : Int) (v56 : Bool) (v59 : BY) (v60 : Int) (v61 : Bool) (v62 : Bool) (v66 : Bool) (Kt : Tk117) : Option Out := C 1001219 ([.c (.s (.str v0)), .u, .u, .u, .c (.s (.int .i64 v4)), .u, .u, .c (.s (.str v7)), .c (.s (.str v8)), .c (.s (.int .i64 v9)), .c (.s (.int .i64 v10)), .c (.s (.int .i64 v11))] ++ us 42 ++ [.c (.s (.str v54)), .c (.s (.int .i64 v55)), .c (.s (.bool v56)), .u, .u, .c (.s (.str v59)), .c (.s (.int .i64 v60)), .c (.s (.bool v61)), .c (.s (.bool v62)), .u, .u, .u, .c (.s (.bool v66))] ++ us 23) fun e => headK Tryz.prog (lookG (gam117 N92 N115 N116 N122 N174 N175)) 4 lvs117 C k j1 bod117 [1, 1, 1, 1, 1, 1, 0, 0, j0, 1, 0, 1, 1, 1, 1, 1, 1, 0, 1, 0] e (fin Tryz.prog Tryz.f117 none (tok117 Kt))
theorem run117_eq (k : Nat) (a0 : BY) (Kt : Tk117) : run117 C N92 N115 N116 N122 N174 N175 k a0 Kt =
  (N122 a0 58 fun r1 => (bif (decide (r1 < 1)) then (p1_117 C N92 N115 N116 N122 N174 N175 k a0 r1 true Kt) else ((at? a0 0).bind fun b2 => (N92 (b2.toNat : Int) fun r3 => (p1_117 C N92 N115 N116 N122 N174 N175 k a0 r1 (!r3) Kt))))) := by kernel_rfl
theorem p1_117_eq (hC : ∀ key e t, C key e t = t e) (k : Nat) (v0 : BY) (v4 : Int) (v21 : Bool) (Kt : Tk117) : p1_117 C N92 N115 N116 N122 N174 N175 k v0 v4 v21 Kt =
  (bif v21 then (Kt ([] : BY) false) else ((cut v0 none (some v4)).bind fun s4 => (N116 s4 10 fun r5 r6 => (bif (!r6) then (Kt ([] : BY) false) else (N115 false r5 fun r7 => (l2_117 C N92 N115 N116 N122 N174 N175 k k v0 v4 r7 Kt)))))) := (hC _ _ _).trans (by kernel_rfl)
theorem l2_117_eq (hC : ∀ key e t, C key e t = t e) (k : Nat) (j0 : Nat) (v0 : BY) (v4 : Int) (v7 : BY) (Kt : Tk117) : l2_117 C N92 N115 N116 N122 N174 N175 k (j0 + 1) v0 v4 v7 Kt =
  (bif (decide (v4 < (v0.length : Int))) then ((cut v0 (some (IntKind.i64.wrap (v4 + 1))) none).bind fun s8 => (N122 s8 58 fun r9 => (bif (decide (r9 < 0)) then (p3_117 C N92 N115 N116 N122 N174 N175 k j0 v0 v4 v7 s8 (s8.length : Int) Kt) else (p3_117 C N92 N115 N116 N122 N174 N175 k j0 v0 v4 v7 s8 r9 Kt)))) else (Kt v7 true)) := (hC _ _ _).trans (by kernel_rfl)
theorem p3_117_eq (hC : ∀ key e t, C key e t = t e) (k : Nat) (j0 : Nat) (v0 : BY) (v4 : Int) (v7 : BY) (v8 : BY) (v9 : Int) (Kt : Tk117) : p3_117 C N92 N115 N116 N122 N174 N175 k j0 v0 v4 v7 v8 v9 Kt =
  ((cut v8 none (some v9)).bind fun s10 => (N174 s10 fun r11 => (bif (!r11) then (Kt ([] : BY) false) else (bif (decide ((s10.length : Int) > 2)) then (Kt ([] : BY) false) else (bif ((s10.length : Int) == 2) then ((at? s10 0).bind fun b12 => (bif (decide ((b12.toNat : Int) > 53)) then (Kt ([] : BY) false) else (l4_117 C N92 N115 N116 N122 N174 N175 k j0 k v0 v4 v7 s10 v9 0 0 s10 (s10.length : Int) (decide ((s10.length : Int) > 2)) s10 (s10.length : Int) ((s10.length : Int) == 2) true (decide ((b12.toNat : Int) > 53)) Kt))) else (l4_117 C N92 N115 N116 N122 N174 N175 k j0 k v0 v4 v7 s10 v9 0 0 s10 (s10.length : Int) (decide ((s10.length : Int) > 2)) s10 (s10.length : Int) ((s10.length : Int) == 2) false false Kt)))))) := (hC _ _ _).trans (by kernel_rfl)
theorem l4_117_eq (hC : ∀ key e t, C key e t = t e) (k : Nat) (j0 : Nat) (j1 : Nat) (v0 : BY) (v4 : Int) (v7 : BY) (v8 : BY) (v9 : Int) (v10 : Int) (v11 : Int) (v54 : BY) (v55 : Int) (v56 : Bool) (v59 : BY) (v60 : Int) (v61 : Bool) (v62 : Bool) (v66 : Bool) (Kt : Tk117) : l4_117 C N92 N115 N116 N122 N174 N175 k j0 (j1 + 1) v0 v4 v7 v8 v9 v10 v11 v54 v55 v56 v59 v60 v61 v62 v66 Kt =
  (bif (decide (v11 < (v8.length : Int))) then ((at? v8 v11).bind fun b13 => (l4_117 C N92 N115 N116 N122 N174 N175 k j0 j1 v0 v4 v7 v8 v9 (IntKind.i64.wrap ((IntKind.i64.wrap ((10 : Int) * v10)) + (IntKind.i64.wrap (IntKind.u8.wrap ((b13.toNat : Int) - 48))))) (IntKind.i64.wrap (v11 + 1)) v54 v55 v56 v59 v60 v61 v62 v66 Kt)) else (N175 v7 60 v10 fun r14 => (l2_117 C N92 N115 N116 N122 N174 N175 k j0 v0 (IntKind.i64.wrap ((IntKind.i64.wrap (v4 + 1)) + v9)) r14 Kt))) := (hC _ _ _).trans (by kernel_rfl)
end
theorem as117 {G : World → Prop} {ng : Nat} (S : Stays Tryz.prog G ng) {N92 : Ty92} {N115 : Ty115} {N116 : Ty116} {N122 : Ty122} {N174 : Ty174} {N175 : Ty175} (h92 : FnIs Tryz.prog G ng 92 (adp92 N92)) (h115 : FnIs Tryz.prog G ng 115 (adp115 N115)) (h116 : FnIs Tryz.prog G ng 116 (adp116 N116)) (h122 : FnIs Tryz.prog G ng 122 (adp122 N122)) (h174 : FnIs Tryz.prog G ng 174 (adp174 N174)) (h175 : FnIs Tryz.prog G ng 175 (adp175 N175)) {A : Ty117} (hA : ∀ (a0 : BY) (Kt : Tk117) (r : Out), A a0 Kt = some r → run117 cut0 N92 N115 N116 N122 N174 N175 big a0 Kt = some r) : FnIs Tryz.prog G ng 117 (adp117 A) := by
  refine spec_run cut0_eq S (l := gam117 N92 N115 N116 N122 N174 N175) (by intro p hp; simp only [gam117, List.mem_cons, List.not_mem_nil, or_false] at hp; rcases hp with rfl | rfl | rfl | rfl | rfl | rfl <;> assumption) Tryz.func117 (by kernel_rfl) (nn := 4) (Lv := lvs117) (k := big) fun rc cs K r h => ?_
  unfold adp117 at h
  split at h
  · exact ⟨_, hA _ _ _ h, fun p hp => by unfold tok117 at hp; split at hp; exact hp; cases hp⟩
  · cases h

/-! targum/targumref6.odd -/
def lvs118 : Nat → Option (List (Nat × Co))
  | 386 => some [(1, .k), (2, .k), (6, .k), (8, .k), (9, .k)]
  | 642 => some [(2, .k), (6, .k), (15, .k)]
  | 769 => some [(6, .k)]
  | _ => none
section
variable (C : Nat → Env → (Env → Option Out) → Option Out)
def gam118 : List (Nat × Fn1) := []
noncomputable def bod118 : Code := Tryz.f118.body.getD .skip
noncomputable def run118 (k : Nat) (a0 : BY) (a1 : Bool) (a2 : Bool) (Kt : Tk118) : Option Out := runK Tryz.prog (lookG (gam118)) 8 lvs118 C k Tryz.f118 none [.s (.str a0), .s (.bool a1), .s (.bool a2)] (tok118 Kt)
noncomputable def p1_118 (k : Nat) (v1 : Bool) (v2 : Bool) (v6_0 : Int) (v6_1 : Bool) (v6_2 : BY) (v6_3 : BY) (v8 : BY) (v9 : Bool) (Kt : Tk118) : Option Out := C 386 ([.u, .c (.s (.bool v1)), .c (.s (.bool v2)), .u, .u, .u, .box 91 (.ss [.int .i64 v6_0, .bool v6_1, .str v6_2, .str v6_3]), .u, .c (.s (.str v8)), .c (.s (.bool v9))] ++ us 13) fun e => atK Tryz.prog (lookG (gam118)) 8 lvs118 C k bod118 [1, 0, 1, 0, 1] e (fin Tryz.prog Tryz.f118 none (tok118 Kt))
noncomputable def p2_118 (k : Nat) (v2 : Bool) (v6_0 : Int) (v6_1 : Bool) (v6_2 : BY) (v6_3 : BY) (v15 : Bool) (Kt : Tk118) : Option Out := C 642 ([.u, .u, .c (.s (.bool v2)), .u, .u, .u, .box 91 (.ss [.int .i64 v6_0, .bool v6_1, .str v6_2, .str v6_3])] ++ us 8 ++ [.c (.s (.bool v15))] ++ us 7) fun e => atK Tryz.prog (lookG (gam118)) 8 lvs118 C k bod118 [1, 0, 1, 0, 1, 1, 1] e (fin Tryz.prog Tryz.f118 none (tok118 Kt))
noncomputable def p3_118 (k : Nat) (v6_0 : Int) (v6_1 : Bool) (v6_2 : BY) (v6_3 : BY) (Kt : Tk118) : Option Out := C 769 (us 6 ++ [.box 91 (.ss [.int .i64 v6_0, .bool v6_1, .str v6_2, .str v6_3])] ++ us 16) fun e => atK Tryz.prog (lookG (gam118)) 8 lvs118 C k bod118 [1, 1] e (fin Tryz.prog Tryz.f118 none (tok118 Kt))
theorem run118_eq (k : Nat) (a0 : BY) (a1 : Bool) (a2 : Bool) (Kt : Tk118) : run118 C k a0 a1 a2 Kt =
  (bif (a0 == ([46, 105, 110, 102] : BY)) then (p1_118 C k a1 a2 0 false ([] : BY) ([] : BY) a0 (a0 == ([46, 105, 110, 102] : BY)) Kt) else (bif (a0 == ([46, 73, 110, 102] : BY)) then (p1_118 C k a1 a2 0 false ([] : BY) ([] : BY) a0 (a0 == ([46, 73, 110, 102] : BY)) Kt) else (p1_118 C k a1 a2 0 false ([] : BY) ([] : BY) a0 (a0 == ([46, 73, 78, 70] : BY)) Kt))) := by kernel_rfl
theorem p1_118_eq (hC : ∀ key e t, C key e t = t e) (k : Nat) (v1 : Bool) (v2 : Bool) (v6_0 : Int) (v6_1 : Bool) (v6_2 : BY) (v6_3 : BY) (v8 : BY) (v9 : Bool) (Kt : Tk118) : p1_118 C k v1 v2 v6_0 v6_1 v6_2 v6_3 v8 v9 Kt =
  (bif v9 then (Kt 1 v1 ([] : BY) ([] : BY) true) else (bif (v8 == ([46, 110, 97, 110] : BY)) then (p2_118 C k v2 v6_0 v6_1 v6_2 v6_3 (v8 == ([46, 110, 97, 110] : BY)) Kt) else (bif (v8 == ([46, 78, 97, 78] : BY)) then (p2_118 C k v2 v6_0 v6_1 v6_2 v6_3 (v8 == ([46, 78, 97, 78] : BY)) Kt) else (p2_118 C k v2 v6_0 v6_1 v6_2 v6_3 (v8 == ([46, 78, 65, 78] : BY)) Kt)))) := (hC _ _ _).trans (by kernel_rfl)
theorem p2_118_eq (hC : ∀ key e t, C key e t = t e) (k : Nat) (v2 : Bool) (v6_0 : Int) (v6_1 : Bool) (v6_2 : BY) (v6_3 : BY) (v15 : Bool) (Kt : Tk118) : p2_118 C k v2 v6_0 v6_1 v6_2 v6_3 v15 Kt =
  (bif v15 then (bif (!v2) then (Kt 2 false ([] : BY) ([] : BY) true) else (p3_118 C k v6_0 v6_1 v6_2 v6_3 Kt)) else (p3_118 C k v6_0 v6_1 v6_2 v6_3 Kt)) := (hC _ _ _).trans (by kernel_rfl)
theorem p3_118_eq (hC : ∀ key e t, C key e t = t e) (k : Nat) (v6_0 : Int) (v6_1 : Bool) (v6_2 : BY) (v6_3 : BY) (Kt : Tk118) : p3_118 C k v6_0 v6_1 v6_2 v6_3 Kt =
  (Kt 0 false ([] : BY) ([] : BY) false) := (hC _ _ _).trans (by kernel_rfl)
end
theorem as118 {G : World → Prop} {ng : Nat} (S : Stays Tryz.prog G ng) {A : Ty118} (hA : ∀ (a0 : BY) (a1 : Bool) (a2 : Bool) (Kt : Tk118) (r : Out), A a0 a1 a2 Kt = some r → run118 cut0 big a0 a1 a2 Kt = some r) : FnIs Tryz.prog G ng 118 (adp118 A) := by
  refine spec_run cut0_eq S (l := gam118) (by intro p hp; cases hp) Tryz.func118 (by kernel_rfl) (nn := 8) (Lv := lvs118) (k := big) fun rc cs K r h => ?_
  unfold adp118 at h
  split at h
  · exact ⟨_, hA _ _ _ _ _ h, fun p hp => by unfold tok118 at hp; split at hp; exact hp; cases hp⟩
  · cases h

/-! targum/targumref6.tail -/
def lvs119 : Nat → Option (List (Nat × Co))
  | 322 => some [(0, .k), (1, .k), (17, .k)]
  | 514 => some [(6, .k), (7, .k), (38, .k)]
  | _ => none
section
variable (C : Nat → Env → (Env → Option Out) → Option Out) (N114 : Ty114) (N115 : Ty115) (N174 : Ty174)
def gam119 : List (Nat × Fn1) := [(114, adp114 N114), (115, adp115 N115), (174, adp174 N174)]
noncomputable def bod119 : Code := Tryz.f119.body.getD .skip
noncomputable def run119 (k : Nat) (a0 : BY) (a1 : Bool) (Kt : Tk119) : Option Out := runK Tryz.prog (lookG (gam119 N114 N115 N174)) 8 lvs119 C k Tryz.f119 none [.s (.str a0), .s (.bool a1)] (tok119 Kt)
noncomputable def p1_119 (k : Nat) (v0 : BY) (v1 : Bool) (v17 : Bool) (Kt : Tk119) : Option Out := C 322 ([.c (.s (.str v0)), .c (.s (.bool v1))] ++ us 15 ++ [.c (.s (.bool v17))] ++ us 24) fun e => atK Tryz.prog (lookG (gam119 N114 N115 N174)) 8 lvs119 C k bod119 [1, 1, 0, 1] e (fin Tryz.prog Tryz.f119 none (tok119 Kt))
noncomputable def p2_119 (k : Nat) (v6 : BY) (v7 : Bool) (v38 : Bool) (Kt : Tk119) : Option Out := C 514 (us 6 ++ [.c (.s (.str v6)), .c (.s (.bool v7))] ++ us 30 ++ [.c (.s (.bool v38)), .u, .u, .u]) fun e => atK Tryz.prog (lookG (gam119 N114 N115 N174)) 8 lvs119 C k bod119 [1, 1, 1, 1, 0, 1] e (fin Tryz.prog Tryz.f119 none (tok119 Kt))
theorem run119_eq (k : Nat) (a0 : BY) (a1 : Bool) (Kt : Tk119) : run119 C N114 N115 N174 k a0 a1 Kt =
  (bif (a0 == ([] : BY)) then (Kt ([48] : BY) true) else ((at? a0 0).bind fun b1 => (bif ((b1.toNat : Int) != 101) then ((at? a0 0).bind fun b2 => (p1_119 C N114 N115 N174 k a0 a1 ((b2.toNat : Int) != 69) Kt)) else (p1_119 C N114 N115 N174 k a0 a1 false Kt)))) := by kernel_rfl
theorem p1_119_eq (hC : ∀ key e t, C key e t = t e) (k : Nat) (v0 : BY) (v1 : Bool) (v17 : Bool) (Kt : Tk119) : p1_119 C N114 N115 N174 k v0 v1 v17 Kt =
  (bif v17 then (Kt ([] : BY) false) else ((cut v0 (some (1 : Int)) none).bind fun s3 => (N114 s3 fun r4 r5 => (bif ((r4.length : Int) == (IntKind.i64.wrap ((v0.length : Int) - 1))) then (bif (!v1) then (p2_119 C N114 N115 N174 k r4 r5 true Kt) else (N174 r4 fun r6 => (p2_119 C N114 N115 N174 k r4 r5 (!r6) Kt))) else (N174 r4 fun r7 => (p2_119 C N114 N115 N174 k r4 r5 (!r7) Kt)))))) := (hC _ _ _).trans (by kernel_rfl)
theorem p2_119_eq (hC : ∀ key e t, C key e t = t e) (k : Nat) (v6 : BY) (v7 : Bool) (v38 : Bool) (Kt : Tk119) : p2_119 C N114 N115 N174 k v6 v7 v38 Kt =
  (bif v38 then (Kt ([] : BY) false) else (N115 v7 v6 fun r8 => (Kt r8 true))) := (hC _ _ _).trans (by kernel_rfl)
end
theorem as119 {G : World → Prop} {ng : Nat} (S : Stays Tryz.prog G ng) {N114 : Ty114} {N115 : Ty115} {N174 : Ty174} (h114 : FnIs Tryz.prog G ng 114 (adp114 N114)) (h115 : FnIs Tryz.prog G ng 115 (adp115 N115)) (h174 : FnIs Tryz.prog G ng 174 (adp174 N174)) {A : Ty119} (hA : ∀ (a0 : BY) (a1 : Bool) (Kt : Tk119) (r : Out), A a0 a1 Kt = some r → run119 cut0 N114 N115 N174 big a0 a1 Kt = some r) : FnIs Tryz.prog G ng 119 (adp119 A) := by
  refine spec_run cut0_eq S (l := gam119 N114 N115 N174) (by intro p hp; simp only [gam119, List.mem_cons, List.not_mem_nil, or_false] at hp; rcases hp with rfl | rfl | rfl <;> assumption) Tryz.func119 (by kernel_rfl) (nn := 8) (Lv := lvs119) (k := big) fun rc cs K r h => ?_
  unfold adp119 at h
  split at h
  · exact ⟨_, hA _ _ _ _ h, fun p hp => by unfold tok119 at hp; split at hp; exact hp; cases hp⟩
  · cases h

/-! targum/targumref6.find -/
def lvs122 : Nat → Option (List (Nat × Co))
  | 1000195 => some [(0, .k), (1, .k), (5, .k)]
  | _ => none
section
variable (C : Nat → Env → (Env → Option Out) → Option Out)
def gam122 : List (Nat × Fn1) := []
noncomputable def bod122 : Code := Tryz.f122.body.getD .skip
noncomputable def run122 (k : Nat) (a0 : BY) (a1 : Int) (Kt : Tk122) : Option Out := runK Tryz.prog (lookG (gam122)) 6 lvs122 C k Tryz.f122 none [.s (.str a0), .s (.int .u8 a1)] (tok122 Kt)
noncomputable def l1_122 (k : Nat) (j0 : Nat) (v0 : BY) (v1 : Int) (v5 : Int) (Kt : Tk122) : Option Out := C 1000195 ([.c (.s (.str v0)), .c (.s (.int .u8 v1)), .u, .u, .u, .c (.s (.int .i64 v5))] ++ us 12) fun e => headK Tryz.prog (lookG (gam122)) 6 lvs122 C k j0 bod122 [1, 0, 1, 0] e (fin Tryz.prog Tryz.f122 none (tok122 Kt))
theorem run122_eq (k : Nat) (a0 : BY) (a1 : Int) (Kt : Tk122) : run122 C k a0 a1 Kt =
  (l1_122 C k k a0 a1 0 Kt) := by kernel_rfl
theorem l1_122_eq (hC : ∀ key e t, C key e t = t e) (k : Nat) (j0 : Nat) (v0 : BY) (v1 : Int) (v5 : Int) (Kt : Tk122) : l1_122 C k (j0 + 1) v0 v1 v5 Kt =
  (bif (decide (v5 < (v0.length : Int))) then ((at? v0 v5).bind fun b1 => (bif ((b1.toNat : Int) == v1) then (Kt v5) else (l1_122 C k j0 v0 v1 (IntKind.i64.wrap (v5 + 1)) Kt))) else (Kt (-1))) := (hC _ _ _).trans (by kernel_rfl)
end
theorem as122 {G : World → Prop} {ng : Nat} (S : Stays Tryz.prog G ng) {A : Ty122} (hA : ∀ (a0 : BY) (a1 : Int) (Kt : Tk122) (r : Out), A a0 a1 Kt = some r → run122 cut0 big a0 a1 Kt = some r) : FnIs Tryz.prog G ng 122 (adp122 A) := by
  refine spec_run cut0_eq S (l := gam122) (by intro p hp; cases hp) Tryz.func122 (by kernel_rfl) (nn := 6) (Lv := lvs122) (k := big) fun rc cs K r h => ?_
  unfold adp122 at h
  split at h
  · exact ⟨_, hA _ _ _ _ h, fun p hp => by unfold tok122 at hp; split at hp; exact hp; cases hp⟩
  · cases h

/-! targum/targumref10.Bytes -/
def lvs128 : Nat → Option (List (Nat × Co))
  | 1000451 => some [(4, .k), (5, .o (.ints .u8 [])), (6, .k)]
  | 1000707 => some [(4, .k), (5, .k), (6, .k), (7, .k), (8, .k), (9, .k)]
  | _ => none
section
variable (C : Nat → Env → (Env → Option Out) → Option Out) (N129 : Ty129) (N181 : Ty181) (N182 : Ty182)
def gam128 : List (Nat × Fn1) := [(129, adp129 N129), (181, adp181 N181), (182, adp182 N182)]
noncomputable def bod128 : Code := Tryz.f128.body.getD .skip
noncomputable def run128 (k : Nat) (a0 : BY) (Kt : Tk128) : Option Out := runK Tryz.prog (lookG (gam128 N129 N181 N182)) 4 lvs128 C k Tryz.f128 none [.s (.str a0)] (tok128 Kt)
noncomputable def l1_128 (k : Nat) (j0 : Nat) (v4 : BY) (v5 : List Int) (v6 : Int) (Kt : Tk128) : Option Out := C 1000451 ([.u, .u, .u, .u, .c (.s (.str v4)), .c (.own (.ints .u8 v5)), .c (.s (.int .i64 v6))] ++ us 81) fun e => headK Tryz.prog (lookG (gam128 N129 N181 N182)) 4 lvs128 C k j0 bod128 [1, 1, 1, 1, 0, 1, 0] e (fin Tryz.prog Tryz.f128 none (tok128 Kt))
noncomputable def l2_128 (k : Nat) (j0 : Nat) (j1 : Nat) (v4 : BY) (v5 : List Int) (v6 : Int) (v7 : Int) (v8 : Int) (v9 : Int) (Kt : Tk128) : Option Out := C 1000707 ([.u, .u, .u, .u, .c (.s (.str v4)), .c (.own (.ints .u8 v5)), .c (.s (.int .i64 v6)), .c (.s (.int .i64 v7)), .c (.s (.int .i64 v8)), .c (.s (.int .i64 v9))] ++ us 78) fun e => headK Tryz.prog (lookG (gam128 N129 N181 N182)) 4 lvs128 C k j1 bod128 [1, 1, 1, 1, 0, 1, 0, j0, 1, 0, 0, 1, 0, 1, 0] e (fin Tryz.prog Tryz.f128 none (tok128 Kt))
theorem run128_eq (k : Nat) (a0 : BY) (Kt : Tk128) : run128 C N129 N181 N182 k a0 Kt =
  (N129 a0 fun r1 => (bif (((r1.length : Int).tmod 4) != 0) then (Kt ([] : List Int) false) else (l1_128 C N129 N181 N182 k k r1 ([] : List Int) 0 Kt))) := by kernel_rfl
theorem l1_128_eq (hC : ∀ key e t, C key e t = t e) (k : Nat) (j0 : Nat) (v4 : BY) (v5 : List Int) (v6 : Int) (Kt : Tk128) : l1_128 C N129 N181 N182 k (j0 + 1) v4 v5 v6 Kt =
  (bif (decide (v6 < (v4.length : Int))) then (l2_128 C N129 N181 N182 k j0 k v4 v5 v6 0 0 0 Kt) else (N182 v5 fun r2 => (bif (!(r2 == v4)) then (Kt ([] : List Int) false) else (Kt v5 true)))) := (hC _ _ _).trans (by kernel_rfl)
theorem l2_128_eq (hC : ∀ key e t, C key e t = t e) (k : Nat) (j0 : Nat) (j1 : Nat) (v4 : BY) (v5 : List Int) (v6 : Int) (v7 : Int) (v8 : Int) (v9 : Int) (Kt : Tk128) : l2_128 C N129 N181 N182 k j0 (j1 + 1) v4 v5 v6 v7 v8 v9 Kt =
  (bif (decide (v9 < 4)) then ((at? v4 (IntKind.i64.wrap (v6 + v9))).bind fun b3 => (N181 (b3.toNat : Int) fun r4 => (bif (decide (r4 < 0)) then ((at? v4 (IntKind.i64.wrap (v6 + v9))).bind fun b5 => (bif ((b5.toNat : Int) == 61) then (bif ((IntKind.i64.wrap (v6 + 4)) == (v4.length : Int)) then (bif (decide (v9 ≥ 2)) then (l2_128 C N129 N181 N182 k j0 j1 v4 v5 v6 (IntKind.i64.wrap ((IntKind.i64.wrap (v7 * 64)) + 0)) (IntKind.i64.wrap (v8 + 1)) (IntKind.i64.wrap (v9 + 1)) Kt) else (bif (decide (r4 < 0)) then (Kt ([] : List Int) false) else (bif (decide (v8 > 0)) then (Kt ([] : List Int) false) else (l2_128 C N129 N181 N182 k j0 j1 v4 v5 v6 (IntKind.i64.wrap ((IntKind.i64.wrap (v7 * 64)) + r4)) v8 (IntKind.i64.wrap (v9 + 1)) Kt)))) else (bif (decide (r4 < 0)) then (Kt ([] : List Int) false) else (bif (decide (v8 > 0)) then (Kt ([] : List Int) false) else (l2_128 C N129 N181 N182 k j0 j1 v4 v5 v6 (IntKind.i64.wrap ((IntKind.i64.wrap (v7 * 64)) + r4)) v8 (IntKind.i64.wrap (v9 + 1)) Kt)))) else (bif (decide (r4 < 0)) then (Kt ([] : List Int) false) else (bif (decide (v8 > 0)) then (Kt ([] : List Int) false) else (l2_128 C N129 N181 N182 k j0 j1 v4 v5 v6 (IntKind.i64.wrap ((IntKind.i64.wrap (v7 * 64)) + r4)) v8 (IntKind.i64.wrap (v9 + 1)) Kt))))) else (bif (decide (r4 < 0)) then (Kt ([] : List Int) false) else (bif (decide (v8 > 0)) then (Kt ([] : List Int) false) else (l2_128 C N129 N181 N182 k j0 j1 v4 v5 v6 (IntKind.i64.wrap ((IntKind.i64.wrap (v7 * 64)) + r4)) v8 (IntKind.i64.wrap (v9 + 1)) Kt)))))) else (bif decide ((v5 ++ ([(IntKind.u8.wrap (IntKind.i64.wrap (v7.tdiv 65536))), (IntKind.u8.wrap (IntKind.i64.wrap (v7.tdiv 256))), (IntKind.u8.wrap v7)] : List Int)).length ≤ 1099511627776) then ((cutN (v5 ++ ([(IntKind.u8.wrap (IntKind.i64.wrap (v7.tdiv 65536))), (IntKind.u8.wrap (IntKind.i64.wrap (v7.tdiv 256))), (IntKind.u8.wrap v7)] : List Int)).length none (some (IntKind.i64.wrap (((v5 ++ ([(IntKind.u8.wrap (IntKind.i64.wrap (v7.tdiv 65536))), (IntKind.u8.wrap (IntKind.i64.wrap (v7.tdiv 256))), (IntKind.u8.wrap v7)] : List Int)).length : Int) - v8)))).bind fun p6 => (l1_128 C N129 N181 N182 k j0 v4 (((v5 ++ ([(IntKind.u8.wrap (IntKind.i64.wrap (v7.tdiv 65536))), (IntKind.u8.wrap (IntKind.i64.wrap (v7.tdiv 256))), (IntKind.u8.wrap v7)] : List Int)).drop 0).take p6.2) (IntKind.i64.wrap (v6 + 4)) Kt)) else none)) := (hC _ _ _).trans (by kernel_rfl)
end
theorem as128 {G : World → Prop} {ng : Nat} (S : Stays Tryz.prog G ng) {N129 : Ty129} {N181 : Ty181} {N182 : Ty182} (h129 : FnIs Tryz.prog G ng 129 (adp129 N129)) (h181 : FnIs Tryz.prog G ng 181 (adp181 N181)) (h182 : FnIs Tryz.prog G ng 182 (adp182 N182)) {A : Ty128} (hA : ∀ (a0 : BY) (Kt : Tk128) (r : Out), A a0 Kt = some r → run128 cut0 N129 N181 N182 big a0 Kt = some r) : FnIs Tryz.prog G ng 128 (adp128 A) := by
  refine spec_run cut0_eq S (l := gam128 N129 N181 N182) (by intro p hp; simp only [gam128, List.mem_cons, List.not_mem_nil, or_false] at hp; rcases hp with rfl | rfl | rfl <;> assumption) Tryz.func128 (by kernel_rfl) (nn := 4) (Lv := lvs128) (k := big) fun rc cs K r h => ?_
  unfold adp128 at h
  split at h
  · exact ⟨_, hA _ _ _ h, fun p hp => by unfold tok128 at hp; split at hp; exact hp; cases hp⟩
  · cases h

end Go.Proofs.YtffmgholjdfcnaaGreatDoor
