/- Pieces of the program's functions, printed by gen.py (a program of this session's own), and the equations that the kernel finds. -/
import Derived.Test.YtffmgholjdfcnaaGreatDoorGW
import Derived.Test.YtffmgholjdfcnaaGreatDoorProg
set_option maxRecDepth 100000
set_option linter.unusedVariables false
namespace Go.Proofs.YtffmgholjdfcnaaGreatDoor
open Go Go.Proofs AM
/-! targum/dec.Print -/
def lvs66 : Nat → Option (List (Nat × Co))
  | 323 => some [(1, .k), (3, .k)]
  | 897 => some [(1, .k), (3, .k), (4, .k)]
  | _ => none
section
variable (C : Nat → Env → (Env → Option Out) → Option Out) (N109 : Ty109)
def gam66 : List (Nat × Fn1) := [(109, adp109 N109)]
noncomputable def bod66 : Code := Tryz.f66.body.getD .skip
noncomputable def run66 (k : Nat) (a0_Kind : Int) (a0_Neg : Bool) (a0_Digits : BY) (a0_Exp : BY) (Kt : Tk66) : Option Out := runK Tryz.prog (lookG (gam66 N109)) 5 lvs66 C k Tryz.f66 none [.agg (.ss [.int .i64 a0_Kind, .bool a0_Neg, .str a0_Digits, .str a0_Exp])] (tok66 Kt)
noncomputable def p1_66 (k : Nat) (v1_0 : Int) (v1_1 : Bool) (v1_2 : BY) (v1_3 : BY) (v3 : BY) (Kt : Tk66) : Option Out := C 323 ([.u, .box 91 (.ss [.int .i64 v1_0, .bool v1_1, .str v1_2, .str v1_3]), .u, .c (.s (.str v3))] ++ us 33) fun e => atK Tryz.prog (lookG (gam66 N109)) 5 lvs66 C k bod66 [1, 1, 1] e (fin Tryz.prog Tryz.f66 none (tok66 Kt))
noncomputable def p2_66 (k : Nat) (v1_0 : Int) (v1_1 : Bool) (v1_2 : BY) (v1_3 : BY) (v3 : BY) (v4 : BY) (Kt : Tk66) : Option Out := C 897 ([.u, .box 91 (.ss [.int .i64 v1_0, .bool v1_1, .str v1_2, .str v1_3]), .u, .c (.s (.str v3)), .c (.s (.str v4))] ++ us 32) fun e => atK Tryz.prog (lookG (gam66 N109)) 5 lvs66 C k bod66 [1, 1, 1, 1, 1, 1] e (fin Tryz.prog Tryz.f66 none (tok66 Kt))
theorem run66_eq (k : Nat) (a0_Kind : Int) (a0_Neg : Bool) (a0_Digits : BY) (a0_Exp : BY) (Kt : Tk66) : run66 C N109 k a0_Kind a0_Neg a0_Digits a0_Exp Kt =
  (bif a0_Neg then (p1_66 C N109 k a0_Kind a0_Neg a0_Digits a0_Exp ([45] : BY) Kt) else (p1_66 C N109 k a0_Kind a0_Neg a0_Digits a0_Exp ([] : BY) Kt)) := by kernel_rfl
theorem p1_66_eq (hC : ∀ key e t, C key e t = t e) (k : Nat) (v1_0 : Int) (v1_1 : Bool) (v1_2 : BY) (v1_3 : BY) (v3 : BY) (Kt : Tk66) : p1_66 C N109 k v1_0 v1_1 v1_2 v1_3 v3 Kt =
  (N109 v1_0 v1_1 v1_2 v1_3 fun r1 => (bif (!r1) then (Kt ([] : BY)) else (bif ((v1_0 == 2) && ((v1_1 == false) && ((v1_2 == ([] : BY)) && ((v1_3 == ([] : BY)) && true)))) then (Kt ([46, 110, 97, 110] : BY)) else (bif ((v1_0 == 1) && ((v1_1 == v1_1) && ((v1_2 == ([] : BY)) && ((v1_3 == ([] : BY)) && true)))) then ((cat v3 ([46, 105, 110, 102] : BY)).bind fun s2 => (Kt s2)) else ((at? v1_3 0).bind fun b3 => (bif ((b3.toNat : Int) == 45) then (p2_66 C N109 k v1_0 v1_1 v1_2 v1_3 v3 ([] : BY) Kt) else (p2_66 C N109 k v1_0 v1_1 v1_2 v1_3 v3 ([43] : BY) Kt))))))) := (hC _ _ _).trans (by kernel_rfl)
theorem p2_66_eq (hC : ∀ key e t, C key e t = t e) (k : Nat) (v1_0 : Int) (v1_1 : Bool) (v1_2 : BY) (v1_3 : BY) (v3 : BY) (v4 : BY) (Kt : Tk66) : p2_66 C N109 k v1_0 v1_1 v1_2 v1_3 v3 v4 Kt =
  ((cat v3 v1_2).bind fun s4 => ((cat s4 ([46, 101] : BY)).bind fun s5 => ((cat s5 v4).bind fun s6 => ((cat s6 v1_3).bind fun s7 => (Kt s7))))) := (hC _ _ _).trans (by kernel_rfl)
end
theorem as66 {G : World → Prop} {ng : Nat} (S : Stays Tryz.prog G ng) {N109 : Ty109} (h109 : FnIs Tryz.prog G ng 109 (adp109 N109)) {A : Ty66} (hA : ∀ (a0_Kind : Int) (a0_Neg : Bool) (a0_Digits : BY) (a0_Exp : BY) (Kt : Tk66) (r : Out), A a0_Kind a0_Neg a0_Digits a0_Exp Kt = some r → run66 cut0 N109 big a0_Kind a0_Neg a0_Digits a0_Exp Kt = some r) : FnIs Tryz.prog G ng 66 (adp66 A) := by
  refine spec_run cut0_eq S (l := gam66 N109) (by intro p hp; simp only [gam66, List.mem_cons, List.not_mem_nil, or_false] at hp; rcases hp with rfl <;> assumption) Tryz.func66 (by kernel_rfl) (nn := 5) (Lv := lvs66) (k := big) fun rc cs K r h => ?_
  unfold adp66 at h
  split at h
  · exact ⟨_, hA _ _ _ _ _ _ h, fun p hp => by unfold tok66 at hp; split at hp; exact hp; cases hp⟩
  · cases h

/-! targum/dec.Make -/
def lvs99 : Nat → Option (List (Nat × Co))
  | 258 => some [(0, .k), (2, .k), (3, .k), (8, .k), (10, .k), (26, .k)]
  | _ => none
section
variable (C : Nat → Env → (Env → Option Out) → Option Out) (N148 : Ty148) (N149 : Ty149) (N150 : Ty150) (N151 : Ty151) (N152 : Ty152) (N153 : Ty153)
def gam99 : List (Nat × Fn1) := [(148, adp148 N148), (149, adp149 N149), (150, adp150 N150), (151, adp151 N151), (152, adp152 N152), (153, adp153 N153)]
noncomputable def bod99 : Code := Tryz.f99.body.getD .skip
noncomputable def run99 (k : Nat) (a0 : Bool) (a1 : BY) (a2 : BY) (a3 : BY) (Kt : Tk99) : Option Out := runK Tryz.prog (lookG (gam99 N148 N149 N150 N151 N152 N153)) 12 lvs99 C k Tryz.f99 none [.s (.bool a0), .s (.str a1), .s (.str a2), .s (.str a3)] (tok99 Kt)
noncomputable def p1_99 (k : Nat) (v0 : Bool) (v2 : BY) (v3 : BY) (v8_0 : Int) (v8_1 : Bool) (v8_2 : BY) (v8_3 : BY) (v10 : BY) (v26 : Bool) (Kt : Tk99) : Option Out := C 258 ([.c (.s (.bool v0)), .u, .c (.s (.str v2)), .c (.s (.str v3)), .u, .u, .u, .u, .box 91 (.ss [.int .i64 v8_0, .bool v8_1, .str v8_2, .str v8_3]), .u, .c (.s (.str v10))] ++ us 15 ++ [.c (.s (.bool v26))] ++ us 23) fun e => atK Tryz.prog (lookG (gam99 N148 N149 N150 N151 N152 N153)) 12 lvs99 C k bod99 [1, 1, 0, 1] e (fin Tryz.prog Tryz.f99 none (tok99 Kt))
theorem run99_eq (k : Nat) (a0 : Bool) (a1 : BY) (a2 : BY) (a3 : BY) (Kt : Tk99) : run99 C N148 N149 N150 N151 N152 N153 k a0 a1 a2 a3 Kt =
  ((cat a1 a2).bind fun s1 => (bif (s1 == ([] : BY)) then (p1_99 C N148 N149 N150 N151 N152 N153 k a0 a2 a3 0 false ([] : BY) ([] : BY) s1 true Kt) else (N149 s1 fun r2 => (bif (!r2) then (p1_99 C N148 N149 N150 N151 N152 N153 k a0 a2 a3 0 false ([] : BY) ([] : BY) s1 true Kt) else (N150 a3 fun r3 => (p1_99 C N148 N149 N150 N151 N152 N153 k a0 a2 a3 0 false ([] : BY) ([] : BY) s1 (!r3) Kt)))))) := by kernel_rfl
theorem p1_99_eq (hC : ∀ key e t, C key e t = t e) (k : Nat) (v0 : Bool) (v2 : BY) (v3 : BY) (v8_0 : Int) (v8_1 : Bool) (v8_2 : BY) (v8_3 : BY) (v10 : BY) (v26 : Bool) (Kt : Tk99) : p1_99 C N148 N149 N150 N151 N152 N153 k v0 v2 v3 v8_0 v8_1 v8_2 v8_3 v10 v26 Kt =
  (bif v26 then (Kt 0 false ([] : BY) ([] : BY) false) else (N151 v10 ([48] : BY) fun r4 => (N152 v3 (IntKind.i64.wrap ((IntKind.i64.wrap ((v10.length : Int) - (r4.length : Int))) - (v2.length : Int))) fun r5 => (N148 r4 ([48] : BY) fun r6 => (bif (r6 == ([] : BY)) then (N153 v0 fun r7 r8 r9 r10 => (Kt r7 r8 r9 r10 true)) else (Kt 0 v0 r6 r5 true)))))) := (hC _ _ _).trans (by kernel_rfl)
end
theorem as99 {G : World → Prop} {ng : Nat} (S : Stays Tryz.prog G ng) {N148 : Ty148} {N149 : Ty149} {N150 : Ty150} {N151 : Ty151} {N152 : Ty152} {N153 : Ty153} (h148 : FnIs Tryz.prog G ng 148 (adp148 N148)) (h149 : FnIs Tryz.prog G ng 149 (adp149 N149)) (h150 : FnIs Tryz.prog G ng 150 (adp150 N150)) (h151 : FnIs Tryz.prog G ng 151 (adp151 N151)) (h152 : FnIs Tryz.prog G ng 152 (adp152 N152)) (h153 : FnIs Tryz.prog G ng 153 (adp153 N153)) {A : Ty99} (hA : ∀ (a0 : Bool) (a1 : BY) (a2 : BY) (a3 : BY) (Kt : Tk99) (r : Out), A a0 a1 a2 a3 Kt = some r → run99 cut0 N148 N149 N150 N151 N152 N153 big a0 a1 a2 a3 Kt = some r) : FnIs Tryz.prog G ng 99 (adp99 A) := by
  refine spec_run cut0_eq S (l := gam99 N148 N149 N150 N151 N152 N153) (by intro p hp; simp only [gam99, List.mem_cons, List.not_mem_nil, or_false] at hp; rcases hp with rfl | rfl | rfl | rfl | rfl | rfl <;> assumption) Tryz.func99 (by kernel_rfl) (nn := 12) (Lv := lvs99) (k := big) fun rc cs K r h => ?_
  unfold adp99 at h
  split at h
  · exact ⟨_, hA _ _ _ _ _ _ h, fun p hp => by unfold tok99 at hp; split at hp; exact hp; cases hp⟩
  · cases h

/-! targum/dec.Good -/
def lvs109 : Nat → Option (List (Nat × Co))
  | 386 => some [(1, .k), (5, .k)]
  | _ => none
section
variable (C : Nat → Env → (Env → Option Out) → Option Out) (N149 : Ty149) (N150 : Ty150) (N153 : Ty153)
def gam109 : List (Nat × Fn1) := [(149, adp149 N149), (150, adp150 N150), (153, adp153 N153)]
noncomputable def bod109 : Code := Tryz.f109.body.getD .skip
noncomputable def run109 (k : Nat) (a0_Kind : Int) (a0_Neg : Bool) (a0_Digits : BY) (a0_Exp : BY) (Kt : Tk109) : Option Out := runK Tryz.prog (lookG (gam109 N149 N150 N153)) 4 lvs109 C k Tryz.f109 none [.agg (.ss [.int .i64 a0_Kind, .bool a0_Neg, .str a0_Digits, .str a0_Exp])] (tok109 Kt)
noncomputable def p1_109 (k : Nat) (v1_0 : Int) (v1_1 : Bool) (v1_2 : BY) (v1_3 : BY) (v5 : Bool) (Kt : Tk109) : Option Out := C 386 ([.u, .box 91 (.ss [.int .i64 v1_0, .bool v1_1, .str v1_2, .str v1_3]), .u, .u, .u, .c (.s (.bool v5))] ++ us 44) fun e => atK Tryz.prog (lookG (gam109 N149 N150 N153)) 4 lvs109 C k bod109 [1, 0, 1, 0, 1] e (fin Tryz.prog Tryz.f109 none (tok109 Kt))
theorem run109_eq (k : Nat) (a0_Kind : Int) (a0_Neg : Bool) (a0_Digits : BY) (a0_Exp : BY) (Kt : Tk109) : run109 C N149 N150 N153 k a0_Kind a0_Neg a0_Digits a0_Exp Kt =
  (N153 a0_Neg fun r1 r2 r3 r4 => (bif ((a0_Kind == r1) && ((a0_Neg == r2) && ((a0_Digits == r3) && ((a0_Exp == r4) && true)))) then (p1_109 C N149 N150 N153 k a0_Kind a0_Neg a0_Digits a0_Exp ((a0_Kind == r1) && ((a0_Neg == r2) && ((a0_Digits == r3) && ((a0_Exp == r4) && true)))) Kt) else (bif ((a0_Kind == 1) && ((a0_Neg == a0_Neg) && ((a0_Digits == ([] : BY)) && ((a0_Exp == ([] : BY)) && true)))) then (p1_109 C N149 N150 N153 k a0_Kind a0_Neg a0_Digits a0_Exp ((a0_Kind == 1) && ((a0_Neg == a0_Neg) && ((a0_Digits == ([] : BY)) && ((a0_Exp == ([] : BY)) && true)))) Kt) else (p1_109 C N149 N150 N153 k a0_Kind a0_Neg a0_Digits a0_Exp ((a0_Kind == 2) && ((a0_Neg == false) && ((a0_Digits == ([] : BY)) && ((a0_Exp == ([] : BY)) && true)))) Kt)))) := by kernel_rfl
theorem p1_109_eq (hC : ∀ key e t, C key e t = t e) (k : Nat) (v1_0 : Int) (v1_1 : Bool) (v1_2 : BY) (v1_3 : BY) (v5 : Bool) (Kt : Tk109) : p1_109 C N149 N150 N153 k v1_0 v1_1 v1_2 v1_3 v5 Kt =
  (bif v5 then (Kt true) else (bif (v1_0 == 0) then (bif (decide ((v1_2.length : Int) > 0)) then (N149 v1_2 fun r5 => (bif r5 then ((at? v1_2 0).bind fun b6 => (bif ((b6.toNat : Int) != 48) then ((at? v1_2 (IntKind.i64.wrap ((v1_2.length : Int) - 1))).bind fun b7 => (bif ((b7.toNat : Int) != 48) then (N150 v1_3 fun r8 => (Kt r8)) else (Kt false))) else (Kt false))) else (Kt false))) else (Kt false)) else (Kt false))) := (hC _ _ _).trans (by kernel_rfl)
end
theorem as109 {G : World → Prop} {ng : Nat} (S : Stays Tryz.prog G ng) {N149 : Ty149} {N150 : Ty150} {N153 : Ty153} (h149 : FnIs Tryz.prog G ng 149 (adp149 N149)) (h150 : FnIs Tryz.prog G ng 150 (adp150 N150)) (h153 : FnIs Tryz.prog G ng 153 (adp153 N153)) {A : Ty109} (hA : ∀ (a0_Kind : Int) (a0_Neg : Bool) (a0_Digits : BY) (a0_Exp : BY) (Kt : Tk109) (r : Out), A a0_Kind a0_Neg a0_Digits a0_Exp Kt = some r → run109 cut0 N149 N150 N153 big a0_Kind a0_Neg a0_Digits a0_Exp Kt = some r) : FnIs Tryz.prog G ng 109 (adp109 A) := by
  refine spec_run cut0_eq S (l := gam109 N149 N150 N153) (by intro p hp; simp only [gam109, List.mem_cons, List.not_mem_nil, or_false] at hp; rcases hp with rfl | rfl | rfl <;> assumption) Tryz.func109 (by kernel_rfl) (nn := 4) (Lv := lvs109) (k := big) fun rc cs K r h => ?_
  unfold adp109 at h
  split at h
  · exact ⟨_, hA _ _ _ _ _ _ h, fun p hp => by unfold tok109 at hp; split at hp; exact hp; cases hp⟩
  · cases h

/-! targum/dec.digits -/
def lvs149 : Nat → Option (List (Nat × Co))
  | _ => none
section
variable (C : Nat → Env → (Env → Option Out) → Option Out) (N163 : Ty163)
def gam149 : List (Nat × Fn1) := [(163, adp163 N163)]
noncomputable def bod149 : Code := Tryz.f149.body.getD .skip
noncomputable def run149 (k : Nat) (a0 : BY) (Kt : Tk149) : Option Out := runK Tryz.prog (lookG (gam149 N163)) 3 lvs149 C k Tryz.f149 none [.s (.str a0)] (tok149 Kt)
theorem run149_eq (k : Nat) (a0 : BY) (Kt : Tk149) : run149 C N163 k a0 Kt =
  (N163 a0 ([48, 49, 50, 51, 52, 53, 54, 55, 56, 57] : BY) fun r1 => (Kt (r1 == ([] : BY)))) := by kernel_rfl
end
theorem as149 {G : World → Prop} {ng : Nat} (S : Stays Tryz.prog G ng) {N163 : Ty163} (h163 : FnIs Tryz.prog G ng 163 (adp163 N163)) {A : Ty149} (hA : ∀ (a0 : BY) (Kt : Tk149) (r : Out), A a0 Kt = some r → run149 cut0 N163 big a0 Kt = some r) : FnIs Tryz.prog G ng 149 (adp149 A) := by
  refine spec_run cut0_eq S (l := gam149 N163) (by intro p hp; simp only [gam149, List.mem_cons, List.not_mem_nil, or_false] at hp; rcases hp with rfl <;> assumption) Tryz.func149 (by kernel_rfl) (nn := 3) (Lv := lvs149) (k := big) fun rc cs K r h => ?_
  unfold adp149 at h
  split at h
  · exact ⟨_, hA _ _ _ h, fun p hp => by unfold tok149 at hp; split at hp; exact hp; cases hp⟩
  · cases h

/-! targum/dec.nought -/
def lvs153 : Nat → Option (List (Nat × Co))
  | _ => none
section
variable (C : Nat → Env → (Env → Option Out) → Option Out)
def gam153 : List (Nat × Fn1) := []
noncomputable def bod153 : Code := Tryz.f153.body.getD .skip
noncomputable def run153 (k : Nat) (a0 : Bool) (Kt : Tk153) : Option Out := runK Tryz.prog (lookG (gam153)) 3 lvs153 C k Tryz.f153 none [.s (.bool a0)] (tok153 Kt)
theorem run153_eq (k : Nat) (a0 : Bool) (Kt : Tk153) : run153 C k a0 Kt =
  (Kt 0 a0 ([48] : BY) ([48] : BY)) := by kernel_rfl
end
theorem as153 {G : World → Prop} {ng : Nat} (S : Stays Tryz.prog G ng) {A : Ty153} (hA : ∀ (a0 : Bool) (Kt : Tk153) (r : Out), A a0 Kt = some r → run153 cut0 big a0 Kt = some r) : FnIs Tryz.prog G ng 153 (adp153 A) := by
  refine spec_run cut0_eq S (l := gam153) (by intro p hp; cases hp) Tryz.func153 (by kernel_rfl) (nn := 3) (Lv := lvs153) (k := big) fun rc cs K r h => ?_
  unfold adp153 at h
  split at h
  · exact ⟨_, hA _ _ _ h, fun p hp => by unfold tok153 at hp; split at hp; exact hp; cases hp⟩
  · cases h

/-! targum/int11.Of -/
def lvs64 : Nat → Option (List (Nat × Co))
  | 1537 => some [(5, .k), (7, .k)]
  | 1001282 => some [(5, .k), (7, .k), (8, .k), (48, .k), (49, .k), (50, .k)]
  | _ => none
section
variable (C : Nat → Env → (Env → Option Out) → Option Out) (N95 : Ty95) (N96 : Ty96) (N100 : Ty100) (N101 : Ty101) (N102 : Ty102) (N103 : Ty103) (N104 : Ty104) (N105 : Ty105)
def gam64 : List (Nat × Fn1) := [(95, adp95 N95), (96, adp96 N96), (100, adp100 N100), (101, adp101 N101), (102, adp102 N102), (103, adp103 N103), (104, adp104 N104), (105, adp105 N105)]
noncomputable def bod64 : Code := Tryz.f64.body.getD .skip
noncomputable def run64 (k : Nat) (a0 : BY) (Kt : Tk64) : Option Out := runK Tryz.prog (lookG (gam64 N95 N96 N100 N101 N102 N103 N104 N105)) 11 lvs64 C k Tryz.f64 none [.s (.str a0)] (tok64 Kt)
noncomputable def p1_64 (k : Nat) (v5 : Bool) (v7 : BY) (Kt : Tk64) : Option Out := C 1537 ([.u, .u, .u, .u, .u, .c (.s (.bool v5)), .u, .c (.s (.str v7))] ++ us 54) fun e => atK Tryz.prog (lookG (gam64 N95 N96 N100 N101 N102 N103 N104 N105)) 11 lvs64 C k bod64 [1, 1, 1, 1, 1, 1] e (fin Tryz.prog Tryz.f64 none (tok64 Kt))
noncomputable def l2_64 (k : Nat) (j0 : Nat) (v5 : Bool) (v7 : BY) (v8 : List BY) (v48_a : Nat) (v48_n : Nat) (v49 : Int) (v50 : Int) (Kt : Tk64) : Option Out := C 1001282 ([.u, .u, .u, .u, .u, .c (.s (.bool v5)), .u, .c (.s (.str v7)), .c (.own (.strs v8))] ++ us 39 ++ [.ali 8 v48_a v48_n, .c (.s (.int .i64 v49)), .c (.s (.int .i64 v50))] ++ us 11) fun e => headK Tryz.prog (lookG (gam64 N95 N96 N100 N101 N102 N103 N104 N105)) 11 lvs64 C k j0 bod64 [1, 1, 1, 1, 1, 0, 1, 0, 1, 1, 1, 1, 1, 1, 1, 1, 1, 0, 1, 1, 1, 0] e (fin Tryz.prog Tryz.f64 none (tok64 Kt))
theorem run64_eq (k : Nat) (a0 : BY) (Kt : Tk64) : run64 C N95 N96 N100 N101 N102 N103 N104 N105 k a0 Kt =
  (N100 a0 fun r1 => (N101 a0 fun r2 r3 => (N102 r3 ([95] : BY) ([] : BY) fun r4 => (bif (r1 == 0) then (Kt ([] : BY) false) else (bif (r1 == 1) then ((cut r4 (some (2 : Int)) none).bind fun s5 => (N95 s5 2 fun r6 => (p1_64 C N95 N96 N100 N101 N102 N103 N104 N105 k r2 r6 Kt))) else (bif (r1 == 2) then ((cut r4 (some (2 : Int)) none).bind fun s7 => (N95 s7 16 fun r8 => (p1_64 C N95 N96 N100 N101 N102 N103 N104 N105 k r2 r8 Kt))) else (bif (r1 == 3) then ((cut r4 (some (1 : Int)) none).bind fun s9 => (N95 s9 8 fun r10 => (p1_64 C N95 N96 N100 N101 N102 N103 N104 N105 k r2 r10 Kt))) else (bif (r1 == 6) then (N103 r4 ([58] : BY) fun r11 => (bif (decide (0 ≤ (0 : Int)) && decide ((0 : Int) < (r11.length : Int))) then ((r11[0]?).bind fun x12 => (N96 false x12 fun r13 => ((cutN r11.length (some (1 : Int)) none).bind fun p14 => (l2_64 C N95 N96 N100 N101 N102 N103 N104 N105 k k r2 r13 r11 p14.1 p14.2 (p14.2 : Int) 0 Kt)))) else none)) else (p1_64 C N95 N96 N100 N101 N102 N103 N104 N105 k r2 r4 Kt))))))))) := by kernel_rfl
theorem p1_64_eq (hC : ∀ key e t, C key e t = t e) (k : Nat) (v5 : Bool) (v7 : BY) (Kt : Tk64) : p1_64 C N95 N96 N100 N101 N102 N103 N104 N105 k v5 v7 Kt =
  (N96 v5 v7 fun r15 => (Kt r15 true)) := (hC _ _ _).trans (by kernel_rfl)
theorem l2_64_eq (hC : ∀ key e t, C key e t = t e) (k : Nat) (j0 : Nat) (v5 : Bool) (v7 : BY) (v8 : List BY) (v48_a : Nat) (v48_n : Nat) (v49 : Int) (v50 : Int) (Kt : Tk64) : l2_64 C N95 N96 N100 N101 N102 N103 N104 N105 k (j0 + 1) v5 v7 v8 v48_a v48_n v49 v50 Kt =
  (bif (decide (v50 < v49)) then (bif (decide (0 ≤ v50) && decide (v50 < (v48_n : Int))) then ((v8[(v48_a + v50.toNat)]?).bind fun x16 => (N105 x16 fun r17 => (N104 v7 60 r17 fun r18 => (l2_64 C N95 N96 N100 N101 N102 N103 N104 N105 k j0 v5 r18 v8 v48_a v48_n v49 (IntKind.i64.wrap (v50 + 1)) Kt)))) else none) else (p1_64 C N95 N96 N100 N101 N102 N103 N104 N105 k v5 v7 Kt)) := (hC _ _ _).trans (by kernel_rfl)
end
theorem as64 {G : World → Prop} {ng : Nat} (S : Stays Tryz.prog G ng) {N95 : Ty95} {N96 : Ty96} {N100 : Ty100} {N101 : Ty101} {N102 : Ty102} {N103 : Ty103} {N104 : Ty104} {N105 : Ty105} (h95 : FnIs Tryz.prog G ng 95 (adp95 N95)) (h96 : FnIs Tryz.prog G ng 96 (adp96 N96)) (h100 : FnIs Tryz.prog G ng 100 (adp100 N100)) (h101 : FnIs Tryz.prog G ng 101 (adp101 N101)) (h102 : FnIs Tryz.prog G ng 102 (adp102 N102)) (h103 : FnIs Tryz.prog G ng 103 (adp103 N103)) (h104 : FnIs Tryz.prog G ng 104 (adp104 N104)) (h105 : FnIs Tryz.prog G ng 105 (adp105 N105)) {A : Ty64} (hA : ∀ (a0 : BY) (Kt : Tk64) (r : Out), A a0 Kt = some r → run64 cut0 N95 N96 N100 N101 N102 N103 N104 N105 big a0 Kt = some r) : FnIs Tryz.prog G ng 64 (adp64 A) := by
  refine spec_run cut0_eq S (l := gam64 N95 N96 N100 N101 N102 N103 N104 N105) (by intro p hp; simp only [gam64, List.mem_cons, List.not_mem_nil, or_false] at hp; rcases hp with rfl | rfl | rfl | rfl | rfl | rfl | rfl | rfl <;> assumption) Tryz.func64 (by kernel_rfl) (nn := 11) (Lv := lvs64) (k := big) fun rc cs K r h => ?_
  unfold adp64 at h
  split at h
  · exact ⟨_, hA _ _ _ h, fun p hp => by unfold tok64 at hp; split at hp; exact hp; cases hp⟩
  · cases h

/-! targum/int11.Form -/
def lvs100 : Nat → Option (List (Nat × Co))
  | 1025 => some [(0, .k), (3, .k), (4, .k), (5, .k), (6, .k)]
  | 1154 => some [(0, .k), (3, .k), (5, .k), (52, .k)]
  | 3000000 => some [(0, .k), (3, .k), (5, .k)]
  | 3000001 => some [(0, .k), (3, .k), (4, .k), (5, .k), (6, .k)]
  | 3000002 => some [(0, .k), (3, .k), (5, .k)]
  | 3000003 => some [(0, .k), (3, .k), (5, .k)]
  | _ => none
section
variable (C : Nat → Env → (Env → Option Out) → Option Out) (N101 : Ty101) (N154 : Ty154) (N155 : Ty155)
def gam100 : List (Nat × Fn1) := [(101, adp101 N101), (154, adp154 N154), (155, adp155 N155)]
noncomputable def bod100 : Code := Tryz.f100.body.getD .skip
noncomputable def run100 (k : Nat) (a0 : BY) (Kt : Tk100) : Option Out := runK Tryz.prog (lookG (gam100 N101 N154 N155)) 3 lvs100 C k Tryz.f100 none [.s (.str a0)] (tok100 Kt)
noncomputable def g1_100 (k : Nat) (j0 : Nat) (v0 : BY) (v3 : Int) (v5 : Int) (Kt : Tk100) : Option Out := C 3000000 ([.c (.s (.str v0)), .u, .u, .c (.s (.int .i64 v3)), .u, .c (.s (.int .i64 v5))] ++ us 133) fun e => jumpK Tryz.prog (lookG (gam100 N101 N154 N155)) 3 lvs100 C k j0 0 bod100 [1] e (fin Tryz.prog Tryz.f100 none (tok100 Kt))
noncomputable def p2_100 (k : Nat) (j0 : Nat) (v0 : BY) (v3 : Int) (v4 : BY) (v5 : Int) (v6 : Bool) (Kt : Tk100) : Option Out := C 1025 ([.c (.s (.str v0)), .u, .u, .c (.s (.int .i64 v3)), .c (.s (.str v4)), .c (.s (.int .i64 v5)), .c (.s (.bool v6))] ++ us 132) fun e => atK Tryz.prog (lookG (gam100 N101 N154 N155)) 3 lvs100 C k bod100 [1, j0, 1, 1, 1, 1, 1, 1, 1, 1] e (fin Tryz.prog Tryz.f100 none (tok100 Kt))
noncomputable def p3_100 (k : Nat) (j0 : Nat) (v0 : BY) (v3 : Int) (v5 : Int) (v52 : Bool) (Kt : Tk100) : Option Out := C 1154 ([.c (.s (.str v0)), .u, .u, .c (.s (.int .i64 v3)), .u, .c (.s (.int .i64 v5))] ++ us 46 ++ [.c (.s (.bool v52))] ++ us 86) fun e => atK Tryz.prog (lookG (gam100 N101 N154 N155)) 3 lvs100 C k bod100 [1, j0, 1, 1, 1, 1, 1, 1, 1, 1, 1, 1, 1, 0, 1] e (fin Tryz.prog Tryz.f100 none (tok100 Kt))
noncomputable def g4_100 (k : Nat) (j0 : Nat) (v0 : BY) (v3 : Int) (v4 : BY) (v5 : Int) (v6 : Bool) (Kt : Tk100) : Option Out := C 3000001 ([.c (.s (.str v0)), .u, .u, .c (.s (.int .i64 v3)), .c (.s (.str v4)), .c (.s (.int .i64 v5)), .c (.s (.bool v6))] ++ us 132) fun e => jumpK Tryz.prog (lookG (gam100 N101 N154 N155)) 3 lvs100 C k j0 1 bod100 [1] e (fin Tryz.prog Tryz.f100 none (tok100 Kt))
noncomputable def g5_100 (k : Nat) (j0 : Nat) (v0 : BY) (v3 : Int) (v5 : Int) (Kt : Tk100) : Option Out := C 3000003 ([.c (.s (.str v0)), .u, .u, .c (.s (.int .i64 v3)), .u, .c (.s (.int .i64 v5))] ++ us 133) fun e => jumpK Tryz.prog (lookG (gam100 N101 N154 N155)) 3 lvs100 C k j0 3 bod100 [1] e (fin Tryz.prog Tryz.f100 none (tok100 Kt))
noncomputable def g6_100 (k : Nat) (j0 : Nat) (v0 : BY) (v3 : Int) (v5 : Int) (Kt : Tk100) : Option Out := C 3000002 ([.c (.s (.str v0)), .u, .u, .c (.s (.int .i64 v3)), .u, .c (.s (.int .i64 v5))] ++ us 133) fun e => jumpK Tryz.prog (lookG (gam100 N101 N154 N155)) 3 lvs100 C k j0 2 bod100 [1] e (fin Tryz.prog Tryz.f100 none (tok100 Kt))
theorem run100_eq (k : Nat) (a0 : BY) (Kt : Tk100) : run100 C N101 N154 N155 k a0 Kt =
  (N101 a0 fun r1 r2 => (N154 r2 fun r3 r4 r5 => (bif (r3 == 4) then (Kt r3) else (bif (r3 == 5) then (g1_100 C N101 N154 N155 k k r2 r3 r5 Kt) else (bif (r5 == (r2.length : Int)) then (Kt 0) else ((at? r2 r5).bind fun b6 => (bif ((b6.toNat : Int) != 95) then ((at? r2 r5).bind fun b7 => (N155 r4 (b7.toNat : Int) fun r8 => (bif (decide (r8 < 0)) then (Kt 0) else (p2_100 C N101 N154 N155 k k r2 r3 r4 r5 true Kt)))) else (p2_100 C N101 N154 N155 k k r2 r3 r4 r5 false Kt)))))))) := by kernel_rfl
theorem g1_100_eq (hC : ∀ key e t, C key e t = t e) (k : Nat) (j0 : Nat) (v0 : BY) (v3 : Int) (v5 : Int) (Kt : Tk100) : g1_100 C N101 N154 N155 k (j0 + 1) v0 v3 v5 Kt =
  (bif (v0 == ([] : BY)) then (p3_100 C N101 N154 N155 k j0 v0 v3 v5 true Kt) else ((at? v0 0).bind fun b9 => (bif (decide ((b9.toNat : Int) < 49)) then (p3_100 C N101 N154 N155 k j0 v0 v3 v5 true Kt) else ((at? v0 0).bind fun b10 => (p3_100 C N101 N154 N155 k j0 v0 v3 v5 (decide ((b10.toNat : Int) > 57)) Kt))))) := (hC _ _ _).trans (by kernel_rfl)
theorem p2_100_eq (hC : ∀ key e t, C key e t = t e) (k : Nat) (j0 : Nat) (v0 : BY) (v3 : Int) (v4 : BY) (v5 : Int) (v6 : Bool) (Kt : Tk100) : p2_100 C N101 N154 N155 k j0 v0 v3 v4 v5 v6 Kt =
  (g4_100 C N101 N154 N155 k j0 v0 v3 v4 (IntKind.i64.wrap (v5 + 1)) v6 Kt) := (hC _ _ _).trans (by kernel_rfl)
theorem p3_100_eq (hC : ∀ key e t, C key e t = t e) (k : Nat) (j0 : Nat) (v0 : BY) (v3 : Int) (v5 : Int) (v52 : Bool) (Kt : Tk100) : p3_100 C N101 N154 N155 k j0 v0 v3 v5 v52 Kt =
  (bif v52 then (Kt 0) else (bif ((IntKind.i64.wrap (v5 + 1)) == (v0.length : Int)) then (Kt v3) else ((at? v0 (IntKind.i64.wrap (v5 + 1))).bind fun b11 => (bif ((b11.toNat : Int) == 58) then (g5_100 C N101 N154 N155 k j0 v0 6 (IntKind.i64.wrap (v5 + 1)) Kt) else ((at? v0 (IntKind.i64.wrap (v5 + 1))).bind fun b12 => (bif ((b12.toNat : Int) != 95) then ((at? v0 (IntKind.i64.wrap (v5 + 1))).bind fun b13 => (N155 ([48, 49, 50, 51, 52, 53, 54, 55, 56, 57] : BY) (b13.toNat : Int) fun r14 => (bif (decide (r14 < 0)) then (Kt 0) else (g6_100 C N101 N154 N155 k j0 v0 v3 (IntKind.i64.wrap ((IntKind.i64.wrap (v5 + 1)) + 1)) Kt)))) else (g6_100 C N101 N154 N155 k j0 v0 v3 (IntKind.i64.wrap ((IntKind.i64.wrap (v5 + 1)) + 1)) Kt))))))) := (hC _ _ _).trans (by kernel_rfl)
theorem g4_100_eq (hC : ∀ key e t, C key e t = t e) (k : Nat) (j0 : Nat) (v0 : BY) (v3 : Int) (v4 : BY) (v5 : Int) (v6 : Bool) (Kt : Tk100) : g4_100 C N101 N154 N155 k (j0 + 1) v0 v3 v4 v5 v6 Kt =
  (bif (v5 == (v0.length : Int)) then (bif v6 then (Kt v3) else (Kt 0)) else ((at? v0 v5).bind fun b15 => (bif ((b15.toNat : Int) != 95) then ((at? v0 v5).bind fun b16 => (N155 v4 (b16.toNat : Int) fun r17 => (bif (decide (r17 < 0)) then (Kt 0) else (p2_100 C N101 N154 N155 k j0 v0 v3 v4 v5 true Kt)))) else (p2_100 C N101 N154 N155 k j0 v0 v3 v4 v5 v6 Kt)))) := (hC _ _ _).trans (by kernel_rfl)
theorem g5_100_eq (hC : ∀ key e t, C key e t = t e) (k : Nat) (j0 : Nat) (v0 : BY) (v3 : Int) (v5 : Int) (Kt : Tk100) : g5_100 C N101 N154 N155 k (j0 + 1) v0 v3 v5 Kt =
  (bif (v5 == (v0.length : Int)) then (Kt v3) else ((at? v0 v5).bind fun b18 => (bif ((b18.toNat : Int) != 58) then (Kt 0) else (bif (decide ((IntKind.i64.wrap ((IntKind.i64.wrap (v5 + 1)) + 1)) < (v0.length : Int))) then ((at? v0 (IntKind.i64.wrap (v5 + 1))).bind fun b19 => (bif (decide ((b19.toNat : Int) ≥ 48)) then ((at? v0 (IntKind.i64.wrap (v5 + 1))).bind fun b20 => (bif (decide ((b20.toNat : Int) ≤ 53)) then ((at? v0 (IntKind.i64.wrap ((IntKind.i64.wrap (v5 + 1)) + 1))).bind fun b21 => (bif (decide ((b21.toNat : Int) ≥ 48)) then ((at? v0 (IntKind.i64.wrap ((IntKind.i64.wrap (v5 + 1)) + 1))).bind fun b22 => (bif (decide ((b22.toNat : Int) ≤ 57)) then (bif ((IntKind.i64.wrap ((IntKind.i64.wrap (v5 + 1)) + 1)) == (v0.length : Int)) then (Kt 0) else ((at? v0 (IntKind.i64.wrap ((IntKind.i64.wrap (v5 + 1)) + 1))).bind fun b23 => (bif (decide ((b23.toNat : Int) < 48)) then (Kt 0) else ((at? v0 (IntKind.i64.wrap ((IntKind.i64.wrap (v5 + 1)) + 1))).bind fun b24 => (bif (decide ((b24.toNat : Int) > 57)) then (Kt 0) else (g5_100 C N101 N154 N155 k j0 v0 v3 (IntKind.i64.wrap ((IntKind.i64.wrap ((IntKind.i64.wrap (v5 + 1)) + 1)) + 1)) Kt)))))) else (bif ((IntKind.i64.wrap (v5 + 1)) == (v0.length : Int)) then (Kt 0) else ((at? v0 (IntKind.i64.wrap (v5 + 1))).bind fun b25 => (bif (decide ((b25.toNat : Int) < 48)) then (Kt 0) else ((at? v0 (IntKind.i64.wrap (v5 + 1))).bind fun b26 => (bif (decide ((b26.toNat : Int) > 57)) then (Kt 0) else (g5_100 C N101 N154 N155 k j0 v0 v3 (IntKind.i64.wrap ((IntKind.i64.wrap (v5 + 1)) + 1)) Kt)))))))) else (bif ((IntKind.i64.wrap (v5 + 1)) == (v0.length : Int)) then (Kt 0) else ((at? v0 (IntKind.i64.wrap (v5 + 1))).bind fun b27 => (bif (decide ((b27.toNat : Int) < 48)) then (Kt 0) else ((at? v0 (IntKind.i64.wrap (v5 + 1))).bind fun b28 => (bif (decide ((b28.toNat : Int) > 57)) then (Kt 0) else (g5_100 C N101 N154 N155 k j0 v0 v3 (IntKind.i64.wrap ((IntKind.i64.wrap (v5 + 1)) + 1)) Kt)))))))) else (bif ((IntKind.i64.wrap (v5 + 1)) == (v0.length : Int)) then (Kt 0) else ((at? v0 (IntKind.i64.wrap (v5 + 1))).bind fun b29 => (bif (decide ((b29.toNat : Int) < 48)) then (Kt 0) else ((at? v0 (IntKind.i64.wrap (v5 + 1))).bind fun b30 => (bif (decide ((b30.toNat : Int) > 57)) then (Kt 0) else (g5_100 C N101 N154 N155 k j0 v0 v3 (IntKind.i64.wrap ((IntKind.i64.wrap (v5 + 1)) + 1)) Kt)))))))) else (bif ((IntKind.i64.wrap (v5 + 1)) == (v0.length : Int)) then (Kt 0) else ((at? v0 (IntKind.i64.wrap (v5 + 1))).bind fun b31 => (bif (decide ((b31.toNat : Int) < 48)) then (Kt 0) else ((at? v0 (IntKind.i64.wrap (v5 + 1))).bind fun b32 => (bif (decide ((b32.toNat : Int) > 57)) then (Kt 0) else (g5_100 C N101 N154 N155 k j0 v0 v3 (IntKind.i64.wrap ((IntKind.i64.wrap (v5 + 1)) + 1)) Kt)))))))) else (bif ((IntKind.i64.wrap (v5 + 1)) == (v0.length : Int)) then (Kt 0) else ((at? v0 (IntKind.i64.wrap (v5 + 1))).bind fun b33 => (bif (decide ((b33.toNat : Int) < 48)) then (Kt 0) else ((at? v0 (IntKind.i64.wrap (v5 + 1))).bind fun b34 => (bif (decide ((b34.toNat : Int) > 57)) then (Kt 0) else (g5_100 C N101 N154 N155 k j0 v0 v3 (IntKind.i64.wrap ((IntKind.i64.wrap (v5 + 1)) + 1)) Kt)))))))))) := (hC _ _ _).trans (by kernel_rfl)
theorem g6_100_eq (hC : ∀ key e t, C key e t = t e) (k : Nat) (j0 : Nat) (v0 : BY) (v3 : Int) (v5 : Int) (Kt : Tk100) : g6_100 C N101 N154 N155 k (j0 + 1) v0 v3 v5 Kt =
  (bif (v5 == (v0.length : Int)) then (Kt v3) else ((at? v0 v5).bind fun b35 => (bif ((b35.toNat : Int) == 58) then (g5_100 C N101 N154 N155 k j0 v0 6 v5 Kt) else ((at? v0 v5).bind fun b36 => (bif ((b36.toNat : Int) != 95) then ((at? v0 v5).bind fun b37 => (N155 ([48, 49, 50, 51, 52, 53, 54, 55, 56, 57] : BY) (b37.toNat : Int) fun r38 => (bif (decide (r38 < 0)) then (Kt 0) else (g6_100 C N101 N154 N155 k j0 v0 v3 (IntKind.i64.wrap (v5 + 1)) Kt)))) else (g6_100 C N101 N154 N155 k j0 v0 v3 (IntKind.i64.wrap (v5 + 1)) Kt)))))) := (hC _ _ _).trans (by kernel_rfl)
end
theorem as100 {G : World → Prop} {ng : Nat} (S : Stays Tryz.prog G ng) {N101 : Ty101} {N154 : Ty154} {N155 : Ty155} (h101 : FnIs Tryz.prog G ng 101 (adp101 N101)) (h154 : FnIs Tryz.prog G ng 154 (adp154 N154)) (h155 : FnIs Tryz.prog G ng 155 (adp155 N155)) {A : Ty100} (hA : ∀ (a0 : BY) (Kt : Tk100) (r : Out), A a0 Kt = some r → run100 cut0 N101 N154 N155 big a0 Kt = some r) : FnIs Tryz.prog G ng 100 (adp100 A) := by
  refine spec_run cut0_eq S (l := gam100 N101 N154 N155) (by intro p hp; simp only [gam100, List.mem_cons, List.not_mem_nil, or_false] at hp; rcases hp with rfl | rfl | rfl <;> assumption) Tryz.func100 (by kernel_rfl) (nn := 3) (Lv := lvs100) (k := big) fun rc cs K r h => ?_
  unfold adp100 at h
  split at h
  · exact ⟨_, hA _ _ _ h, fun p hp => by unfold tok100 at hp; split at hp; exact hp; cases hp⟩
  · cases h

/-! targum/int11.unsigned -/
def lvs101 : Nat → Option (List (Nat × Co))
  | 194 => some [(0, .k), (15, .k)]
  | _ => none
section
variable (C : Nat → Env → (Env → Option Out) → Option Out)
def gam101 : List (Nat × Fn1) := []
noncomputable def bod101 : Code := Tryz.f101.body.getD .skip
noncomputable def run101 (k : Nat) (a0 : BY) (Kt : Tk101) : Option Out := runK Tryz.prog (lookG (gam101)) 4 lvs101 C k Tryz.f101 none [.s (.str a0)] (tok101 Kt)
noncomputable def p1_101 (k : Nat) (v0 : BY) (v15 : Bool) (Kt : Tk101) : Option Out := C 194 ([.c (.s (.str v0))] ++ us 14 ++ [.c (.s (.bool v15))] ++ us 6) fun e => atK Tryz.prog (lookG (gam101)) 4 lvs101 C k bod101 [1, 0, 1] e (fin Tryz.prog Tryz.f101 none (tok101 Kt))
theorem run101_eq (k : Nat) (a0 : BY) (Kt : Tk101) : run101 C k a0 Kt =
  (bif (!(a0 == ([] : BY))) then ((at? a0 0).bind fun b1 => (bif ((b1.toNat : Int) == 43) then (p1_101 C k a0 true Kt) else ((at? a0 0).bind fun b2 => (p1_101 C k a0 ((b2.toNat : Int) == 45) Kt)))) else (p1_101 C k a0 false Kt)) := by kernel_rfl
theorem p1_101_eq (hC : ∀ key e t, C key e t = t e) (k : Nat) (v0 : BY) (v15 : Bool) (Kt : Tk101) : p1_101 C k v0 v15 Kt =
  (bif v15 then ((at? v0 0).bind fun b3 => ((cut v0 (some (1 : Int)) none).bind fun s4 => (Kt ((b3.toNat : Int) == 45) s4))) else (Kt false v0)) := (hC _ _ _).trans (by kernel_rfl)
end
theorem as101 {G : World → Prop} {ng : Nat} (S : Stays Tryz.prog G ng) {A : Ty101} (hA : ∀ (a0 : BY) (Kt : Tk101) (r : Out), A a0 Kt = some r → run101 cut0 big a0 Kt = some r) : FnIs Tryz.prog G ng 101 (adp101 A) := by
  refine spec_run cut0_eq S (l := gam101) (by intro p hp; cases hp) Tryz.func101 (by kernel_rfl) (nn := 4) (Lv := lvs101) (k := big) fun rc cs K r h => ?_
  unfold adp101 at h
  split at h
  · exact ⟨_, hA _ _ _ h, fun p hp => by unfold tok101 at hp; split at hp; exact hp; cases hp⟩
  · cases h

/-! targum/int11.small -/
def lvs105 : Nat → Option (List (Nat × Co))
  | 1000258 => some [(0, .k), (3, .k), (6, .k), (7, .k)]
  | _ => none
section
variable (C : Nat → Env → (Env → Option Out) → Option Out)
def gam105 : List (Nat × Fn1) := []
noncomputable def bod105 : Code := Tryz.f105.body.getD .skip
noncomputable def run105 (k : Nat) (a0 : BY) (Kt : Tk105) : Option Out := runK Tryz.prog (lookG (gam105)) 5 lvs105 C k Tryz.f105 none [.s (.str a0)] (tok105 Kt)
noncomputable def l1_105 (k : Nat) (j0 : Nat) (v0 : BY) (v3 : Int) (v6 : Int) (v7 : Int) (Kt : Tk105) : Option Out := C 1000258 ([.c (.s (.str v0)), .u, .u, .c (.s (.int .i64 v3)), .u, .u, .c (.s (.int .i64 v6)), .c (.s (.int .i64 v7))] ++ us 12) fun e => headK Tryz.prog (lookG (gam105)) 5 lvs105 C k j0 bod105 [1, 1, 0, 1, 0] e (fin Tryz.prog Tryz.f105 none (tok105 Kt))
theorem run105_eq (k : Nat) (a0 : BY) (Kt : Tk105) : run105 C k a0 Kt =
  (l1_105 C k k a0 0 (a0.length : Int) 0 Kt) := by kernel_rfl
theorem l1_105_eq (hC : ∀ key e t, C key e t = t e) (k : Nat) (j0 : Nat) (v0 : BY) (v3 : Int) (v6 : Int) (v7 : Int) (Kt : Tk105) : l1_105 C k (j0 + 1) v0 v3 v6 v7 Kt =
  (bif (decide (v7 < v6)) then ((at? v0 v7).bind fun b1 => (l1_105 C k j0 v0 (IntKind.i64.wrap ((IntKind.i64.wrap ((10 : Int) * v3)) + (IntKind.i64.wrap (IntKind.u8.wrap ((b1.toNat : Int) - 48))))) v6 (IntKind.i64.wrap (v7 + 1)) Kt)) else (Kt v3)) := (hC _ _ _).trans (by kernel_rfl)
end
theorem as105 {G : World → Prop} {ng : Nat} (S : Stays Tryz.prog G ng) {A : Ty105} (hA : ∀ (a0 : BY) (Kt : Tk105) (r : Out), A a0 Kt = some r → run105 cut0 big a0 Kt = some r) : FnIs Tryz.prog G ng 105 (adp105 A) := by
  refine spec_run cut0_eq S (l := gam105) (by intro p hp; cases hp) Tryz.func105 (by kernel_rfl) (nn := 5) (Lv := lvs105) (k := big) fun rc cs K r h => ?_
  unfold adp105 at h
  split at h
  · exact ⟨_, hA _ _ _ h, fun p hp => by unfold tok105 at hp; split at hp; exact hp; cases hp⟩
  · cases h

/-! targum/int11.head -/
def lvs154 : Nat → Option (List (Nat × Co))
  | _ => none
section
variable (C : Nat → Env → (Env → Option Out) → Option Out) (N94 : Ty94)
def gam154 : List (Nat × Fn1) := [(94, adp94 N94)]
noncomputable def bod154 : Code := Tryz.f154.body.getD .skip
noncomputable def run154 (k : Nat) (a0 : BY) (Kt : Tk154) : Option Out := runK Tryz.prog (lookG (gam154 N94)) 5 lvs154 C k Tryz.f154 none [.s (.str a0)] (tok154 Kt)
theorem run154_eq (k : Nat) (a0 : BY) (Kt : Tk154) : run154 C N94 k a0 Kt =
  (N94 a0 ([48, 98] : BY) fun r1 => (bif r1 then (Kt 1 ([48, 49] : BY) 2) else (N94 a0 ([48, 120] : BY) fun r2 => (bif r2 then (Kt 2 ([48, 49, 50, 51, 52, 53, 54, 55, 56, 57, 97, 98, 99, 100, 101, 102, 65, 66, 67, 68, 69, 70] : BY) 2) else (bif (a0 == ([48] : BY)) then (Kt 4 ([] : BY) 1) else (N94 a0 ([48] : BY) fun r3 => (bif r3 then ((cut ([48, 49, 50, 51, 52, 53, 54, 55, 56, 57] : BY) none (some (8 : Int))).bind fun s4 => (Kt 3 s4 1)) else (Kt 5 ([48, 49, 50, 51, 52, 53, 54, 55, 56, 57] : BY) 0)))))))) := by kernel_rfl
end
theorem as154 {G : World → Prop} {ng : Nat} (S : Stays Tryz.prog G ng) {N94 : Ty94} (h94 : FnIs Tryz.prog G ng 94 (adp94 N94)) {A : Ty154} (hA : ∀ (a0 : BY) (Kt : Tk154) (r : Out), A a0 Kt = some r → run154 cut0 N94 big a0 Kt = some r) : FnIs Tryz.prog G ng 154 (adp154 A) := by
  refine spec_run cut0_eq S (l := gam154 N94) (by intro p hp; simp only [gam154, List.mem_cons, List.not_mem_nil, or_false] at hp; rcases hp with rfl <;> assumption) Tryz.func154 (by kernel_rfl) (nn := 5) (Lv := lvs154) (k := big) fun rc cs K r h => ?_
  unfold adp154 at h
  split at h
  · exact ⟨_, hA _ _ _ h, fun p hp => by unfold tok154 at hp; split at hp; exact hp; cases hp⟩
  · cases h

end Go.Proofs.YtffmgholjdfcnaaGreatDoor
