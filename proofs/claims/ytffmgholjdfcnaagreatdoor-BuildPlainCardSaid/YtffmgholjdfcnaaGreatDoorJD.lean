/- Texts of this session, joined. -/
import Derived.Test.YtffmgholjdfcnaaGreatDoorJW
import Derived.Test.YtffmgholjdfcnaaGreatDoorProg
set_option maxRecDepth 100000
set_option linter.unusedVariables false
namespace Go.Proofs.YtffmgholjdfcnaaGreatDoor
open Go Go.Proofs AM
open Go.IntKind (i64 u8)
noncomputable section
def lvs66 : Nat → Option (List (Nat × Co))
 | 323 => some [(1, .k), (3, .k)]
 | 897 => some [(1, .k), (3, .k), (4, .k)]
 | _ => none
section
variable (C : Nat → Env → (Env → Option Out) → Option Out) (N109 : Ty109)
def gam66 : List (Nat × Fn1) := [(109, adp109 N109)]
def bod66 : Code := Tryz.f66.body.getD .skip
def run66 (k : Nat) (a0_Kind : Int) (a0_Neg : Bool) (a0_Digits a0_Exp : BY) (Kt : Tk66) : Option Out := runK Tryz.prog (lookG (gam66 N109)) 5 lvs66 C k Tryz.f66 none [.agg (.ss [.int .i64 a0_Kind, .bool a0_Neg, .str a0_Digits, .str a0_Exp])] (tok66 Kt)
def p1_66 (k : Nat) (v1_0 : Int) (v1_1 : Bool) (v1_2 v1_3 v3 : BY) (Kt : Tk66) : Option Out := C 323 ([.u, .box 91 (.ss [.int .i64 v1_0, .bool v1_1, .str v1_2, .str v1_3]), .u, .c (.s (.str v3))] ++ us 33) fun e => atK Tryz.prog (lookG (gam66 N109)) 5 lvs66 C k bod66 [1, 1, 1] e (fin Tryz.prog Tryz.f66 none (tok66 Kt))
def p2_66 (k : Nat) (v1_0 : Int) (v1_1 : Bool) (v1_2 v1_3 v3 v4 : BY) (Kt : Tk66) : Option Out := C 897 ([.u, .box 91 (.ss [.int .i64 v1_0, .bool v1_1, .str v1_2, .str v1_3]), .u, .c (.s (.str v3)), .c (.s (.str v4))] ++ us 32) fun e => atK Tryz.prog (lookG (gam66 N109)) 5 lvs66 C k bod66 [1, 1, 1, 1, 1, 1] e (fin Tryz.prog Tryz.f66 none (tok66 Kt))
theorem run66_eq (k : Nat) (a0_Kind : Int) (a0_Neg : Bool) (a0_Digits a0_Exp : BY) (Kt : Tk66) : run66 C N109 k a0_Kind a0_Neg a0_Digits a0_Exp Kt =
 (bif a0_Neg then (p1_66 C N109 k a0_Kind a0_Neg a0_Digits a0_Exp ([45] : BY) Kt) else (p1_66 C N109 k a0_Kind a0_Neg a0_Digits a0_Exp ([] : BY) Kt)) := by kernel_rfl
theorem p1_66_eq (hC : Cv C) (k : Nat) (v1_0 : Int) (v1_1 : Bool) (v1_2 v1_3 v3 : BY) (Kt : Tk66) : p1_66 C N109 k v1_0 v1_1 v1_2 v1_3 v3 Kt =
 (N109 v1_0 v1_1 v1_2 v1_3 fun r1 => (bif (!r1) then (Kt ([] : BY)) else (bif ((v1_0 == 2) && ((v1_1 == false) && ((v1_2 == ([] : BY)) && ((v1_3 == ([] : BY)) && true)))) then (Kt ([46, 110, 97, 110] : BY)) else (bif ((v1_0 == 1) && ((v1_1 == v1_1) && ((v1_2 == ([] : BY)) && ((v1_3 == ([] : BY)) && true)))) then ((cat v3 ([46, 105, 110, 102] : BY)).bind fun s2 => (Kt s2)) else ((at? v1_3 0).bind fun b3 => (bif ((b3.toNat : Int) == 45) then (p2_66 C N109 k v1_0 v1_1 v1_2 v1_3 v3 ([] : BY) Kt) else (p2_66 C N109 k v1_0 v1_1 v1_2 v1_3 v3 ([43] : BY) Kt))))))) := (hC _ _ _).trans (by kernel_rfl)
theorem p2_66_eq (hC : Cv C) (k : Nat) (v1_0 : Int) (v1_1 : Bool) (v1_2 v1_3 v3 v4 : BY) (Kt : Tk66) : p2_66 C N109 k v1_0 v1_1 v1_2 v1_3 v3 v4 Kt =
 ((cat v3 v1_2).bind fun s4 => ((cat s4 ([46, 101] : BY)).bind fun s5 => ((cat s5 v4).bind fun s6 => ((cat s6 v1_3).bind fun s7 => (Kt s7))))) := (hC _ _ _).trans (by kernel_rfl)
end
theorem as66 {G : World → Prop} {ng : Nat} (S : Stays Tryz.prog G ng) {N109 : Ty109} (h109 : FnIs Tryz.prog G ng 109 (adp109 N109)) {A : Ty66} (hA : ∀ (a0_Kind : Int) (a0_Neg : Bool) (a0_Digits : BY) (a0_Exp : BY) (Kt : Tk66) (r : Out), A a0_Kind a0_Neg a0_Digits a0_Exp Kt = some r → run66 cut0 N109 big a0_Kind a0_Neg a0_Digits a0_Exp Kt = some r) : FnIs Tryz.prog G ng 66 (adp66 A) := by
 refine spec_run cut0_eq S (l := gam66 N109) (by intro p hp; simp only [gam66, List.mem_cons, List.not_mem_nil, or_false] at hp; rcases hp with rfl <;> assumption) Tryz.func66 (by kernel_rfl) (nn := 5) (Lv := lvs66) (k := big) fun rc cs K r h => ?_
 unfold adp66 at h
 split at h
 ·exact ⟨_, hA _ _ _ _ _ _ h, fun p hp => by unfold tok66 at hp; split at hp; exact hp; cases hp⟩
 ·cases h
def lvs99 : Nat → Option (List (Nat × Co))
 | 258 => some [(0, .k), (2, .k), (3, .k), (8, .k), (10, .k), (26, .k)]
 | _ => none
section
variable (C : Nat → Env → (Env → Option Out) → Option Out) (N148 : Ty148) (N149 : Ty149) (N150 : Ty150) (N151 : Ty151) (N152 : Ty152) (N153 : Ty153)
def gam99 : List (Nat × Fn1) := [(148, adp148 N148), (149, adp149 N149), (150, adp150 N150), (151, adp151 N151), (152, adp152 N152), (153, adp153 N153)]
def bod99 : Code := Tryz.f99.body.getD .skip
def run99 (k : Nat) (a0 : Bool) (a1 a2 a3 : BY) (Kt : Tk99) : Option Out := runK Tryz.prog (lookG (gam99 N148 N149 N150 N151 N152 N153)) 12 lvs99 C k Tryz.f99 none [.s (.bool a0), .s (.str a1), .s (.str a2), .s (.str a3)] (tok99 Kt)
def p1_99 (k : Nat) (v0 : Bool) (v2 v3 : BY) (v8_0 : Int) (v8_1 : Bool) (v8_2 v8_3 v10 : BY) (v26 : Bool) (Kt : Tk99) : Option Out := C 258 ([.c (.s (.bool v0)), .u, .c (.s (.str v2)), .c (.s (.str v3)), .u, .u, .u, .u, .box 91 (.ss [.int .i64 v8_0, .bool v8_1, .str v8_2, .str v8_3]), .u, .c (.s (.str v10))] ++ us 15 ++ [.c (.s (.bool v26))] ++ us 23) fun e => atK Tryz.prog (lookG (gam99 N148 N149 N150 N151 N152 N153)) 12 lvs99 C k bod99 [1, 1, 0, 1] e (fin Tryz.prog Tryz.f99 none (tok99 Kt))
theorem run99_eq (k : Nat) (a0 : Bool) (a1 a2 a3 : BY) (Kt : Tk99) : run99 C N148 N149 N150 N151 N152 N153 k a0 a1 a2 a3 Kt =
 ((cat a1 a2).bind fun s1 => (bif (s1 == ([] : BY)) then (p1_99 C N148 N149 N150 N151 N152 N153 k a0 a2 a3 0 false ([] : BY) ([] : BY) s1 true Kt) else (N149 s1 fun r2 => (bif (!r2) then (p1_99 C N148 N149 N150 N151 N152 N153 k a0 a2 a3 0 false ([] : BY) ([] : BY) s1 true Kt) else (N150 a3 fun r3 => (p1_99 C N148 N149 N150 N151 N152 N153 k a0 a2 a3 0 false ([] : BY) ([] : BY) s1 (!r3) Kt)))))) := by kernel_rfl
theorem p1_99_eq (hC : Cv C) (k : Nat) (v0 : Bool) (v2 v3 : BY) (v8_0 : Int) (v8_1 : Bool) (v8_2 v8_3 v10 : BY) (v26 : Bool) (Kt : Tk99) : p1_99 C N148 N149 N150 N151 N152 N153 k v0 v2 v3 v8_0 v8_1 v8_2 v8_3 v10 v26 Kt =
 (bif v26 then (Kt 0 false ([] : BY) ([] : BY) false) else (N151 v10 ([48] : BY) fun r4 => (N152 v3 (i64.wrap ((i64.wrap ((v10.length : Int) - (r4.length : Int))) - (v2.length : Int))) fun r5 => (N148 r4 ([48] : BY) fun r6 => (bif (r6 == ([] : BY)) then (N153 v0 fun r7 r8 r9 r10 => (Kt r7 r8 r9 r10 true)) else (Kt 0 v0 r6 r5 true)))))) := (hC _ _ _).trans (by kernel_rfl)
end
theorem as99 {G : World → Prop} {ng : Nat} (S : Stays Tryz.prog G ng) {N148 : Ty148} {N149 : Ty149} {N150 : Ty150} {N151 : Ty151} {N152 : Ty152} {N153 : Ty153} (h148 : FnIs Tryz.prog G ng 148 (adp148 N148)) (h149 : FnIs Tryz.prog G ng 149 (adp149 N149)) (h150 : FnIs Tryz.prog G ng 150 (adp150 N150)) (h151 : FnIs Tryz.prog G ng 151 (adp151 N151)) (h152 : FnIs Tryz.prog G ng 152 (adp152 N152)) (h153 : FnIs Tryz.prog G ng 153 (adp153 N153)) {A : Ty99} (hA : ∀ (a0 : Bool) (a1 : BY) (a2 : BY) (a3 : BY) (Kt : Tk99) (r : Out), A a0 a1 a2 a3 Kt = some r → run99 cut0 N148 N149 N150 N151 N152 N153 big a0 a1 a2 a3 Kt = some r) : FnIs Tryz.prog G ng 99 (adp99 A) := by
 refine spec_run cut0_eq S (l := gam99 N148 N149 N150 N151 N152 N153) (by intro p hp; simp only [gam99, List.mem_cons, List.not_mem_nil, or_false] at hp; rcases hp with rfl | rfl | rfl | rfl | rfl | rfl <;> assumption) Tryz.func99 (by kernel_rfl) (nn := 12) (Lv := lvs99) (k := big) fun rc cs K r h => ?_
 unfold adp99 at h
 split at h
 ·exact ⟨_, hA _ _ _ _ _ _ h, fun p hp => by unfold tok99 at hp; split at hp; exact hp; cases hp⟩
 ·cases h
def lvs109 : Nat → Option (List (Nat × Co))
 | 386 => some [(1, .k), (5, .k)]
 | _ => none
section
variable (C : Nat → Env → (Env → Option Out) → Option Out) (N149 : Ty149) (N150 : Ty150) (N153 : Ty153)
def gam109 : List (Nat × Fn1) := [(149, adp149 N149), (150, adp150 N150), (153, adp153 N153)]
def bod109 : Code := Tryz.f109.body.getD .skip
def run109 (k : Nat) (a0_Kind : Int) (a0_Neg : Bool) (a0_Digits a0_Exp : BY) (Kt : Tk109) : Option Out := runK Tryz.prog (lookG (gam109 N149 N150 N153)) 4 lvs109 C k Tryz.f109 none [.agg (.ss [.int .i64 a0_Kind, .bool a0_Neg, .str a0_Digits, .str a0_Exp])] (tok109 Kt)
def p1_109 (k : Nat) (v1_0 : Int) (v1_1 : Bool) (v1_2 v1_3 : BY) (v5 : Bool) (Kt : Tk109) : Option Out := C 386 ([.u, .box 91 (.ss [.int .i64 v1_0, .bool v1_1, .str v1_2, .str v1_3]), .u, .u, .u, .c (.s (.bool v5))] ++ us 44) fun e => atK Tryz.prog (lookG (gam109 N149 N150 N153)) 4 lvs109 C k bod109 [1, 0, 1, 0, 1] e (fin Tryz.prog Tryz.f109 none (tok109 Kt))
theorem run109_eq (k : Nat) (a0_Kind : Int) (a0_Neg : Bool) (a0_Digits a0_Exp : BY) (Kt : Tk109) : run109 C N149 N150 N153 k a0_Kind a0_Neg a0_Digits a0_Exp Kt =
 (N153 a0_Neg fun r1 r2 r3 r4 => (bif ((a0_Kind == r1) && ((a0_Neg == r2) && ((a0_Digits == r3) && ((a0_Exp == r4) && true)))) then (p1_109 C N149 N150 N153 k a0_Kind a0_Neg a0_Digits a0_Exp ((a0_Kind == r1) && ((a0_Neg == r2) && ((a0_Digits == r3) && ((a0_Exp == r4) && true)))) Kt) else (bif ((a0_Kind == 1) && ((a0_Neg == a0_Neg) && ((a0_Digits == ([] : BY)) && ((a0_Exp == ([] : BY)) && true)))) then (p1_109 C N149 N150 N153 k a0_Kind a0_Neg a0_Digits a0_Exp ((a0_Kind == 1) && ((a0_Neg == a0_Neg) && ((a0_Digits == ([] : BY)) && ((a0_Exp == ([] : BY)) && true)))) Kt) else (p1_109 C N149 N150 N153 k a0_Kind a0_Neg a0_Digits a0_Exp ((a0_Kind == 2) && ((a0_Neg == false) && ((a0_Digits == ([] : BY)) && ((a0_Exp == ([] : BY)) && true)))) Kt)))) := by kernel_rfl
theorem p1_109_eq (hC : Cv C) (k : Nat) (v1_0 : Int) (v1_1 : Bool) (v1_2 v1_3 : BY) (v5 : Bool) (Kt : Tk109) : p1_109 C N149 N150 N153 k v1_0 v1_1 v1_2 v1_3 v5 Kt =
 (bif v5 then (Kt true) else (bif (v1_0 == 0) then (bif (decide ((v1_2.length : Int) > 0)) then (N149 v1_2 fun r5 => (bif r5 then ((at? v1_2 0).bind fun b6 => (bif ((b6.toNat : Int) != 48) then ((at? v1_2 (i64.wrap ((v1_2.length : Int) - 1))).bind fun b7 => (bif ((b7.toNat : Int) != 48) then (N150 v1_3 fun r8 => (Kt r8)) else (Kt false))) else (Kt false))) else (Kt false))) else (Kt false)) else (Kt false))) := (hC _ _ _).trans (by kernel_rfl)
end
theorem as109 {G : World → Prop} {ng : Nat} (S : Stays Tryz.prog G ng) {N149 : Ty149} {N150 : Ty150} {N153 : Ty153} (h149 : FnIs Tryz.prog G ng 149 (adp149 N149)) (h150 : FnIs Tryz.prog G ng 150 (adp150 N150)) (h153 : FnIs Tryz.prog G ng 153 (adp153 N153)) {A : Ty109} (hA : ∀ (a0_Kind : Int) (a0_Neg : Bool) (a0_Digits : BY) (a0_Exp : BY) (Kt : Tk109) (r : Out), A a0_Kind a0_Neg a0_Digits a0_Exp Kt = some r → run109 cut0 N149 N150 N153 big a0_Kind a0_Neg a0_Digits a0_Exp Kt = some r) : FnIs Tryz.prog G ng 109 (adp109 A) := by
 refine spec_run cut0_eq S (l := gam109 N149 N150 N153) (by intro p hp; simp only [gam109, List.mem_cons, List.not_mem_nil, or_false] at hp; rcases hp with rfl | rfl | rfl <;> assumption) Tryz.func109 (by kernel_rfl) (nn := 4) (Lv := lvs109) (k := big) fun rc cs K r h => ?_
 unfold adp109 at h
 split at h
 ·exact ⟨_, hA _ _ _ _ _ _ h, fun p hp => by unfold tok109 at hp; split at hp; exact hp; cases hp⟩
 ·cases h
def lvs149 : Nat → Option (List (Nat × Co))
 | _ => none
section
variable (C : Nat → Env → (Env → Option Out) → Option Out) (N163 : Ty163)
def gam149 : List (Nat × Fn1) := [(163, adp163 N163)]
def run149 (k : Nat) (a0 : BY) (Kt : Tk149) : Option Out := runK Tryz.prog (lookG (gam149 N163)) 3 lvs149 C k Tryz.f149 none [.s (.str a0)] (tok149 Kt)
theorem run149_eq (k : Nat) (a0 : BY) (Kt : Tk149) : run149 C N163 k a0 Kt =
 (N163 a0 ([48, 49, 50, 51, 52, 53, 54, 55, 56, 57] : BY) fun r1 => (Kt (r1 == ([] : BY)))) := by kernel_rfl
end
theorem as149 {G : World → Prop} {ng : Nat} (S : Stays Tryz.prog G ng) {N163 : Ty163} (h163 : FnIs Tryz.prog G ng 163 (adp163 N163)) {A : Ty149} (hA : ∀ (a0 : BY) (Kt : Tk149) (r : Out), A a0 Kt = some r → run149 cut0 N163 big a0 Kt = some r) : FnIs Tryz.prog G ng 149 (adp149 A) := by
 refine spec_run cut0_eq S (l := gam149 N163) (by intro p hp; simp only [gam149, List.mem_cons, List.not_mem_nil, or_false] at hp; rcases hp with rfl <;> assumption) Tryz.func149 (by kernel_rfl) (nn := 3) (Lv := lvs149) (k := big) fun rc cs K r h => ?_
 unfold adp149 at h
 split at h
 ·exact ⟨_, hA _ _ _ h, fun p hp => by unfold tok149 at hp; split at hp; exact hp; cases hp⟩
 ·cases h
def lvs153 : Nat → Option (List (Nat × Co))
 | _ => none
section
variable (C : Nat → Env → (Env → Option Out) → Option Out)
def gam153 : List (Nat × Fn1) := []
def run153 (k : Nat) (a0 : Bool) (Kt : Tk153) : Option Out := runK Tryz.prog (lookG (gam153)) 3 lvs153 C k Tryz.f153 none [.s (.bool a0)] (tok153 Kt)
theorem run153_eq (k : Nat) (a0 : Bool) (Kt : Tk153) : run153 C k a0 Kt =
 (Kt 0 a0 ([48] : BY) ([48] : BY)) := by kernel_rfl
end
theorem as153 {G : World → Prop} {ng : Nat} (S : Stays Tryz.prog G ng) {A : Ty153} (hA : ∀ (a0 : Bool) (Kt : Tk153) (r : Out), A a0 Kt = some r → run153 cut0 big a0 Kt = some r) : FnIs Tryz.prog G ng 153 (adp153 A) := by
 refine spec_run cut0_eq S (l := gam153) (by intro p hp; cases hp) Tryz.func153 (by kernel_rfl) (nn := 3) (Lv := lvs153) (k := big) fun rc cs K r h => ?_
 unfold adp153 at h
 split at h
 ·exact ⟨_, hA _ _ _ h, fun p hp => by unfold tok153 at hp; split at hp; exact hp; cases hp⟩
 ·cases h
def lvs64 : Nat → Option (List (Nat × Co))
 | 1537 => some [(5, .k), (7, .k)]
 | 1001282 => some [(5, .k), (7, .k), (8, .k), (48, .k), (49, .k), (50, .k)]
 | _ => none
section
variable (C : Nat → Env → (Env → Option Out) → Option Out) (N95 : Ty95) (N96 : Ty96) (N100 : Ty100) (N101 : Ty101) (N102 : Ty102) (N103 : Ty103) (N104 : Ty104) (N105 : Ty105)
def gam64 : List (Nat × Fn1) := [(95, adp95 N95), (96, adp96 N96), (100, adp100 N100), (101, adp101 N101), (102, adp102 N102), (103, adp103 N103), (104, adp104 N104), (105, adp105 N105)]
def bod64 : Code := Tryz.f64.body.getD .skip
def run64 (k : Nat) (a0 : BY) (Kt : Tk64) : Option Out := runK Tryz.prog (lookG (gam64 N95 N96 N100 N101 N102 N103 N104 N105)) 11 lvs64 C k Tryz.f64 none [.s (.str a0)] (tok64 Kt)
def p1_64 (k : Nat) (v5 : Bool) (v7 : BY) (Kt : Tk64) : Option Out := C 1537 ([.u, .u, .u, .u, .u, .c (.s (.bool v5)), .u, .c (.s (.str v7))] ++ us 54) fun e => atK Tryz.prog (lookG (gam64 N95 N96 N100 N101 N102 N103 N104 N105)) 11 lvs64 C k bod64 [1, 1, 1, 1, 1, 1] e (fin Tryz.prog Tryz.f64 none (tok64 Kt))
def l2_64 (k j0 : Nat) (v5 : Bool) (v7 : BY) (v8 : List BY) (v48_a v48_n : Nat) (v49 v50 : Int) (Kt : Tk64) : Option Out := C 1001282 ([.u, .u, .u, .u, .u, .c (.s (.bool v5)), .u, .c (.s (.str v7)), .c (.own (.strs v8))] ++ us 39 ++ [.ali 8 v48_a v48_n, .c (.s (.int .i64 v49)), .c (.s (.int .i64 v50))] ++ us 11) fun e => headK Tryz.prog (lookG (gam64 N95 N96 N100 N101 N102 N103 N104 N105)) 11 lvs64 C k j0 bod64 [1, 1, 1, 1, 1, 0, 1, 0, 1, 1, 1, 1, 1, 1, 1, 1, 1, 0, 1, 1, 1, 0] e (fin Tryz.prog Tryz.f64 none (tok64 Kt))
theorem run64_eq (k : Nat) (a0 : BY) (Kt : Tk64) : run64 C N95 N96 N100 N101 N102 N103 N104 N105 k a0 Kt =
 (N100 a0 fun r1 => (N101 a0 fun r2 r3 => (N102 r3 ([95] : BY) ([] : BY) fun r4 => (bif (r1 == 0) then (Kt ([] : BY) false) else (bif (r1 == 1) then ((cut r4 (some (2 : Int)) none).bind fun s5 => (N95 s5 2 fun r6 => (p1_64 C N95 N96 N100 N101 N102 N103 N104 N105 k r2 r6 Kt))) else (bif (r1 == 2) then ((cut r4 (some (2 : Int)) none).bind fun s7 => (N95 s7 16 fun r8 => (p1_64 C N95 N96 N100 N101 N102 N103 N104 N105 k r2 r8 Kt))) else (bif (r1 == 3) then ((cut r4 (some (1 : Int)) none).bind fun s9 => (N95 s9 8 fun r10 => (p1_64 C N95 N96 N100 N101 N102 N103 N104 N105 k r2 r10 Kt))) else (bif (r1 == 6) then (N103 r4 ([58] : BY) fun r11 => (bif (decide (0 ≤ (0 : Int)) && decide ((0 : Int) < (r11.length : Int))) then ((r11[0]?).bind fun x12 => (N96 false x12 fun r13 => ((cutN r11.length (some (1 : Int)) none).bind fun p14 => (l2_64 C N95 N96 N100 N101 N102 N103 N104 N105 k k r2 r13 r11 p14.1 p14.2 (p14.2 : Int) 0 Kt)))) else none)) else (p1_64 C N95 N96 N100 N101 N102 N103 N104 N105 k r2 r4 Kt))))))))) := by kernel_rfl
theorem p1_64_eq (hC : Cv C) (k : Nat) (v5 : Bool) (v7 : BY) (Kt : Tk64) : p1_64 C N95 N96 N100 N101 N102 N103 N104 N105 k v5 v7 Kt =
 (N96 v5 v7 fun r15 => (Kt r15 true)) := (hC _ _ _).trans (by kernel_rfl)
theorem l2_64_eq (hC : Cv C) (k j0 : Nat) (v5 : Bool) (v7 : BY) (v8 : List BY) (v48_a v48_n : Nat) (v49 v50 : Int) (Kt : Tk64) : l2_64 C N95 N96 N100 N101 N102 N103 N104 N105 k (j0 + 1) v5 v7 v8 v48_a v48_n v49 v50 Kt =
 (bif (decide (v50 < v49)) then (bif (decide (0 ≤ v50) && decide (v50 < (v48_n : Int))) then ((v8[(v48_a + v50.toNat)]?).bind fun x16 => (N105 x16 fun r17 => (N104 v7 60 r17 fun r18 => (l2_64 C N95 N96 N100 N101 N102 N103 N104 N105 k j0 v5 r18 v8 v48_a v48_n v49 (i64.wrap (v50 + 1)) Kt)))) else none) else (p1_64 C N95 N96 N100 N101 N102 N103 N104 N105 k v5 v7 Kt)) := (hC _ _ _).trans (by kernel_rfl)
end
theorem as64 {G : World → Prop} {ng : Nat} (S : Stays Tryz.prog G ng) {N95 : Ty95} {N96 : Ty96} {N100 : Ty100} {N101 : Ty101} {N102 : Ty102} {N103 : Ty103} {N104 : Ty104} {N105 : Ty105} (h95 : FnIs Tryz.prog G ng 95 (adp95 N95)) (h96 : FnIs Tryz.prog G ng 96 (adp96 N96)) (h100 : FnIs Tryz.prog G ng 100 (adp100 N100)) (h101 : FnIs Tryz.prog G ng 101 (adp101 N101)) (h102 : FnIs Tryz.prog G ng 102 (adp102 N102)) (h103 : FnIs Tryz.prog G ng 103 (adp103 N103)) (h104 : FnIs Tryz.prog G ng 104 (adp104 N104)) (h105 : FnIs Tryz.prog G ng 105 (adp105 N105)) {A : Ty64} (hA : ∀ (a0 : BY) (Kt : Tk64) (r : Out), A a0 Kt = some r → run64 cut0 N95 N96 N100 N101 N102 N103 N104 N105 big a0 Kt = some r) : FnIs Tryz.prog G ng 64 (adp64 A) := by
 refine spec_run cut0_eq S (l := gam64 N95 N96 N100 N101 N102 N103 N104 N105) (by intro p hp; simp only [gam64, List.mem_cons, List.not_mem_nil, or_false] at hp; rcases hp with rfl | rfl | rfl | rfl | rfl | rfl | rfl | rfl <;> assumption) Tryz.func64 (by kernel_rfl) (nn := 11) (Lv := lvs64) (k := big) fun rc cs K r h => ?_
 unfold adp64 at h
 split at h
 ·exact ⟨_, hA _ _ _ h, fun p hp => by unfold tok64 at hp; split at hp; exact hp; cases hp⟩
 ·cases h
def lvs100 : Nat → Option (List (Nat × Co))
 | 1025 => some [(0, .k), (3, .k), (4, .k), (5, .k), (6, .k)]
 | 1154 => some [(0, .k), (3, .k), (5, .k), (52, .k)]
 | 3000000 => some [(0, .k), (3, .k), (5, .k)]
 | 3000001 => some [(0, .k), (3, .k), (4, .k), (5, .k), (6, .k)]
 | 3000002 => some [(0, .k), (3, .k), (5, .k)]
 | 3000003 => some [(0, .k), (3, .k), (5, .k)]
 | _ => none
section
variable (C : Nat → Env → (Env → Option Out) → Option Out) (N101 : Ty101) (N154 : Ty154) (N155 : Ty155)
def gam100 : List (Nat × Fn1) := [(101, adp101 N101), (154, adp154 N154), (155, adp155 N155)]
def bod100 : Code := Tryz.f100.body.getD .skip
def run100 (k : Nat) (a0 : BY) (Kt : Tk100) : Option Out := runK Tryz.prog (lookG (gam100 N101 N154 N155)) 3 lvs100 C k Tryz.f100 none [.s (.str a0)] (tok100 Kt)
def g1_100 (k j0 : Nat) (v0 : BY) (v3 v5 : Int) (Kt : Tk100) : Option Out := C 3000000 ([.c (.s (.str v0)), .u, .u, .c (.s (.int .i64 v3)), .u, .c (.s (.int .i64 v5))] ++ us 133) fun e => jumpK Tryz.prog (lookG (gam100 N101 N154 N155)) 3 lvs100 C k j0 0 bod100 [1] e (fin Tryz.prog Tryz.f100 none (tok100 Kt))
def p2_100 (k j0 : Nat) (v0 : BY) (v3 : Int) (v4 : BY) (v5 : Int) (v6 : Bool) (Kt : Tk100) : Option Out := C 1025 ([.c (.s (.str v0)), .u, .u, .c (.s (.int .i64 v3)), .c (.s (.str v4)), .c (.s (.int .i64 v5)), .c (.s (.bool v6))] ++ us 132) fun e => atK Tryz.prog (lookG (gam100 N101 N154 N155)) 3 lvs100 C k bod100 [1, j0, 1, 1, 1, 1, 1, 1, 1, 1] e (fin Tryz.prog Tryz.f100 none (tok100 Kt))
def p3_100 (k j0 : Nat) (v0 : BY) (v3 v5 : Int) (v52 : Bool) (Kt : Tk100) : Option Out := C 1154 ([.c (.s (.str v0)), .u, .u, .c (.s (.int .i64 v3)), .u, .c (.s (.int .i64 v5))] ++ us 46 ++ [.c (.s (.bool v52))] ++ us 86) fun e => atK Tryz.prog (lookG (gam100 N101 N154 N155)) 3 lvs100 C k bod100 [1, j0, 1, 1, 1, 1, 1, 1, 1, 1, 1, 1, 1, 0, 1] e (fin Tryz.prog Tryz.f100 none (tok100 Kt))
def g4_100 (k j0 : Nat) (v0 : BY) (v3 : Int) (v4 : BY) (v5 : Int) (v6 : Bool) (Kt : Tk100) : Option Out := C 3000001 ([.c (.s (.str v0)), .u, .u, .c (.s (.int .i64 v3)), .c (.s (.str v4)), .c (.s (.int .i64 v5)), .c (.s (.bool v6))] ++ us 132) fun e => jumpK Tryz.prog (lookG (gam100 N101 N154 N155)) 3 lvs100 C k j0 1 bod100 [1] e (fin Tryz.prog Tryz.f100 none (tok100 Kt))
def g5_100 (k j0 : Nat) (v0 : BY) (v3 v5 : Int) (Kt : Tk100) : Option Out := C 3000003 ([.c (.s (.str v0)), .u, .u, .c (.s (.int .i64 v3)), .u, .c (.s (.int .i64 v5))] ++ us 133) fun e => jumpK Tryz.prog (lookG (gam100 N101 N154 N155)) 3 lvs100 C k j0 3 bod100 [1] e (fin Tryz.prog Tryz.f100 none (tok100 Kt))
def g6_100 (k j0 : Nat) (v0 : BY) (v3 v5 : Int) (Kt : Tk100) : Option Out := C 3000002 ([.c (.s (.str v0)), .u, .u, .c (.s (.int .i64 v3)), .u, .c (.s (.int .i64 v5))] ++ us 133) fun e => jumpK Tryz.prog (lookG (gam100 N101 N154 N155)) 3 lvs100 C k j0 2 bod100 [1] e (fin Tryz.prog Tryz.f100 none (tok100 Kt))
theorem run100_eq (k : Nat) (a0 : BY) (Kt : Tk100) : run100 C N101 N154 N155 k a0 Kt =
 (N101 a0 fun r1 r2 => (N154 r2 fun r3 r4 r5 => (bif (r3 == 4) then (Kt r3) else (bif (r3 == 5) then (g1_100 C N101 N154 N155 k k r2 r3 r5 Kt) else (bif (r5 == (r2.length : Int)) then (Kt 0) else ((at? r2 r5).bind fun b6 => (bif ((b6.toNat : Int) != 95) then ((at? r2 r5).bind fun b7 => (N155 r4 (b7.toNat : Int) fun r8 => (bif (decide (r8 < 0)) then (Kt 0) else (p2_100 C N101 N154 N155 k k r2 r3 r4 r5 true Kt)))) else (p2_100 C N101 N154 N155 k k r2 r3 r4 r5 false Kt)))))))) := by kernel_rfl
theorem g1_100_eq (hC : Cv C) (k j0 : Nat) (v0 : BY) (v3 v5 : Int) (Kt : Tk100) : g1_100 C N101 N154 N155 k (j0 + 1) v0 v3 v5 Kt =
 (bif (v0 == ([] : BY)) then (p3_100 C N101 N154 N155 k j0 v0 v3 v5 true Kt) else ((at? v0 0).bind fun b9 => (bif (decide ((b9.toNat : Int) < 49)) then (p3_100 C N101 N154 N155 k j0 v0 v3 v5 true Kt) else ((at? v0 0).bind fun b10 => (p3_100 C N101 N154 N155 k j0 v0 v3 v5 (decide ((b10.toNat : Int) > 57)) Kt))))) := (hC _ _ _).trans (by kernel_rfl)
theorem p2_100_eq (hC : Cv C) (k j0 : Nat) (v0 : BY) (v3 : Int) (v4 : BY) (v5 : Int) (v6 : Bool) (Kt : Tk100) : p2_100 C N101 N154 N155 k j0 v0 v3 v4 v5 v6 Kt =
 (g4_100 C N101 N154 N155 k j0 v0 v3 v4 (i64.wrap (v5 + 1)) v6 Kt) := (hC _ _ _).trans (by kernel_rfl)
theorem p3_100_eq (hC : Cv C) (k j0 : Nat) (v0 : BY) (v3 v5 : Int) (v52 : Bool) (Kt : Tk100) : p3_100 C N101 N154 N155 k j0 v0 v3 v5 v52 Kt =
 (bif v52 then (Kt 0) else (bif ((i64.wrap (v5 + 1)) == (v0.length : Int)) then (Kt v3) else ((at? v0 (i64.wrap (v5 + 1))).bind fun b11 => (bif ((b11.toNat : Int) == 58) then (g5_100 C N101 N154 N155 k j0 v0 6 (i64.wrap (v5 + 1)) Kt) else ((at? v0 (i64.wrap (v5 + 1))).bind fun b12 => (bif ((b12.toNat : Int) != 95) then ((at? v0 (i64.wrap (v5 + 1))).bind fun b13 => (N155 ([48, 49, 50, 51, 52, 53, 54, 55, 56, 57] : BY) (b13.toNat : Int) fun r14 => (bif (decide (r14 < 0)) then (Kt 0) else (g6_100 C N101 N154 N155 k j0 v0 v3 (i64.wrap ((i64.wrap (v5 + 1)) + 1)) Kt)))) else (g6_100 C N101 N154 N155 k j0 v0 v3 (i64.wrap ((i64.wrap (v5 + 1)) + 1)) Kt))))))) := (hC _ _ _).trans (by kernel_rfl)
theorem g4_100_eq (hC : Cv C) (k j0 : Nat) (v0 : BY) (v3 : Int) (v4 : BY) (v5 : Int) (v6 : Bool) (Kt : Tk100) : g4_100 C N101 N154 N155 k (j0 + 1) v0 v3 v4 v5 v6 Kt =
 (bif (v5 == (v0.length : Int)) then (bif v6 then (Kt v3) else (Kt 0)) else ((at? v0 v5).bind fun b15 => (bif ((b15.toNat : Int) != 95) then ((at? v0 v5).bind fun b16 => (N155 v4 (b16.toNat : Int) fun r17 => (bif (decide (r17 < 0)) then (Kt 0) else (p2_100 C N101 N154 N155 k j0 v0 v3 v4 v5 true Kt)))) else (p2_100 C N101 N154 N155 k j0 v0 v3 v4 v5 v6 Kt)))) := (hC _ _ _).trans (by kernel_rfl)
theorem g5_100_eq (hC : Cv C) (k j0 : Nat) (v0 : BY) (v3 v5 : Int) (Kt : Tk100) : g5_100 C N101 N154 N155 k (j0 + 1) v0 v3 v5 Kt =
 (bif (v5 == (v0.length : Int)) then (Kt v3) else ((at? v0 v5).bind fun b18 => (bif ((b18.toNat : Int) != 58) then (Kt 0) else (bif (decide ((i64.wrap ((i64.wrap (v5 + 1)) + 1)) < (v0.length : Int))) then ((at? v0 (i64.wrap (v5 + 1))).bind fun b19 => (bif (decide ((b19.toNat : Int) ≥ 48)) then ((at? v0 (i64.wrap (v5 + 1))).bind fun b20 => (bif (decide ((b20.toNat : Int) ≤ 53)) then ((at? v0 (i64.wrap ((i64.wrap (v5 + 1)) + 1))).bind fun b21 => (bif (decide ((b21.toNat : Int) ≥ 48)) then ((at? v0 (i64.wrap ((i64.wrap (v5 + 1)) + 1))).bind fun b22 => (bif (decide ((b22.toNat : Int) ≤ 57)) then (bif ((i64.wrap ((i64.wrap (v5 + 1)) + 1)) == (v0.length : Int)) then (Kt 0) else ((at? v0 (i64.wrap ((i64.wrap (v5 + 1)) + 1))).bind fun b23 => (bif (decide ((b23.toNat : Int) < 48)) then (Kt 0) else ((at? v0 (i64.wrap ((i64.wrap (v5 + 1)) + 1))).bind fun b24 => (bif (decide ((b24.toNat : Int) > 57)) then (Kt 0) else (g5_100 C N101 N154 N155 k j0 v0 v3 (i64.wrap ((i64.wrap ((i64.wrap (v5 + 1)) + 1)) + 1)) Kt)))))) else (bif ((i64.wrap (v5 + 1)) == (v0.length : Int)) then (Kt 0) else ((at? v0 (i64.wrap (v5 + 1))).bind fun b25 => (bif (decide ((b25.toNat : Int) < 48)) then (Kt 0) else ((at? v0 (i64.wrap (v5 + 1))).bind fun b26 => (bif (decide ((b26.toNat : Int) > 57)) then (Kt 0) else (g5_100 C N101 N154 N155 k j0 v0 v3 (i64.wrap ((i64.wrap (v5 + 1)) + 1)) Kt)))))))) else (bif ((i64.wrap (v5 + 1)) == (v0.length : Int)) then (Kt 0) else ((at? v0 (i64.wrap (v5 + 1))).bind fun b27 => (bif (decide ((b27.toNat : Int) < 48)) then (Kt 0) else ((at? v0 (i64.wrap (v5 + 1))).bind fun b28 => (bif (decide ((b28.toNat : Int) > 57)) then (Kt 0) else (g5_100 C N101 N154 N155 k j0 v0 v3 (i64.wrap ((i64.wrap (v5 + 1)) + 1)) Kt)))))))) else (bif ((i64.wrap (v5 + 1)) == (v0.length : Int)) then (Kt 0) else ((at? v0 (i64.wrap (v5 + 1))).bind fun b29 => (bif (decide ((b29.toNat : Int) < 48)) then (Kt 0) else ((at? v0 (i64.wrap (v5 + 1))).bind fun b30 => (bif (decide ((b30.toNat : Int) > 57)) then (Kt 0) else (g5_100 C N101 N154 N155 k j0 v0 v3 (i64.wrap ((i64.wrap (v5 + 1)) + 1)) Kt)))))))) else (bif ((i64.wrap (v5 + 1)) == (v0.length : Int)) then (Kt 0) else ((at? v0 (i64.wrap (v5 + 1))).bind fun b31 => (bif (decide ((b31.toNat : Int) < 48)) then (Kt 0) else ((at? v0 (i64.wrap (v5 + 1))).bind fun b32 => (bif (decide ((b32.toNat : Int) > 57)) then (Kt 0) else (g5_100 C N101 N154 N155 k j0 v0 v3 (i64.wrap ((i64.wrap (v5 + 1)) + 1)) Kt)))))))) else (bif ((i64.wrap (v5 + 1)) == (v0.length : Int)) then (Kt 0) else ((at? v0 (i64.wrap (v5 + 1))).bind fun b33 => (bif (decide ((b33.toNat : Int) < 48)) then (Kt 0) else ((at? v0 (i64.wrap (v5 + 1))).bind fun b34 => (bif (decide ((b34.toNat : Int) > 57)) then (Kt 0) else (g5_100 C N101 N154 N155 k j0 v0 v3 (i64.wrap ((i64.wrap (v5 + 1)) + 1)) Kt)))))))))) := (hC _ _ _).trans (by kernel_rfl)
theorem g6_100_eq (hC : Cv C) (k j0 : Nat) (v0 : BY) (v3 v5 : Int) (Kt : Tk100) : g6_100 C N101 N154 N155 k (j0 + 1) v0 v3 v5 Kt =
 (bif (v5 == (v0.length : Int)) then (Kt v3) else ((at? v0 v5).bind fun b35 => (bif ((b35.toNat : Int) == 58) then (g5_100 C N101 N154 N155 k j0 v0 6 v5 Kt) else ((at? v0 v5).bind fun b36 => (bif ((b36.toNat : Int) != 95) then ((at? v0 v5).bind fun b37 => (N155 ([48, 49, 50, 51, 52, 53, 54, 55, 56, 57] : BY) (b37.toNat : Int) fun r38 => (bif (decide (r38 < 0)) then (Kt 0) else (g6_100 C N101 N154 N155 k j0 v0 v3 (i64.wrap (v5 + 1)) Kt)))) else (g6_100 C N101 N154 N155 k j0 v0 v3 (i64.wrap (v5 + 1)) Kt)))))) := (hC _ _ _).trans (by kernel_rfl)
end
theorem as100 {G : World → Prop} {ng : Nat} (S : Stays Tryz.prog G ng) {N101 : Ty101} {N154 : Ty154} {N155 : Ty155} (h101 : FnIs Tryz.prog G ng 101 (adp101 N101)) (h154 : FnIs Tryz.prog G ng 154 (adp154 N154)) (h155 : FnIs Tryz.prog G ng 155 (adp155 N155)) {A : Ty100} (hA : ∀ (a0 : BY) (Kt : Tk100) (r : Out), A a0 Kt = some r → run100 cut0 N101 N154 N155 big a0 Kt = some r) : FnIs Tryz.prog G ng 100 (adp100 A) := by
 refine spec_run cut0_eq S (l := gam100 N101 N154 N155) (by intro p hp; simp only [gam100, List.mem_cons, List.not_mem_nil, or_false] at hp; rcases hp with rfl | rfl | rfl <;> assumption) Tryz.func100 (by kernel_rfl) (nn := 3) (Lv := lvs100) (k := big) fun rc cs K r h => ?_
 unfold adp100 at h
 split at h
 ·exact ⟨_, hA _ _ _ h, fun p hp => by unfold tok100 at hp; split at hp; exact hp; cases hp⟩
 ·cases h
def lvs101 : Nat → Option (List (Nat × Co))
 | 194 => some [(0, .k), (15, .k)]
 | _ => none
section
variable (C : Nat → Env → (Env → Option Out) → Option Out)
def gam101 : List (Nat × Fn1) := []
def bod101 : Code := Tryz.f101.body.getD .skip
def run101 (k : Nat) (a0 : BY) (Kt : Tk101) : Option Out := runK Tryz.prog (lookG (gam101)) 4 lvs101 C k Tryz.f101 none [.s (.str a0)] (tok101 Kt)
def p1_101 (k : Nat) (v0 : BY) (v15 : Bool) (Kt : Tk101) : Option Out := C 194 ([.c (.s (.str v0))] ++ us 14 ++ [.c (.s (.bool v15))] ++ us 6) fun e => atK Tryz.prog (lookG (gam101)) 4 lvs101 C k bod101 [1, 0, 1] e (fin Tryz.prog Tryz.f101 none (tok101 Kt))
theorem run101_eq (k : Nat) (a0 : BY) (Kt : Tk101) : run101 C k a0 Kt =
 (bif (!(a0 == ([] : BY))) then ((at? a0 0).bind fun b1 => (bif ((b1.toNat : Int) == 43) then (p1_101 C k a0 true Kt) else ((at? a0 0).bind fun b2 => (p1_101 C k a0 ((b2.toNat : Int) == 45) Kt)))) else (p1_101 C k a0 false Kt)) := by kernel_rfl
theorem p1_101_eq (hC : Cv C) (k : Nat) (v0 : BY) (v15 : Bool) (Kt : Tk101) : p1_101 C k v0 v15 Kt =
 (bif v15 then ((at? v0 0).bind fun b3 => ((cut v0 (some (1 : Int)) none).bind fun s4 => (Kt ((b3.toNat : Int) == 45) s4))) else (Kt false v0)) := (hC _ _ _).trans (by kernel_rfl)
end
theorem as101 {G : World → Prop} {ng : Nat} (S : Stays Tryz.prog G ng) {A : Ty101} (hA : ∀ (a0 : BY) (Kt : Tk101) (r : Out), A a0 Kt = some r → run101 cut0 big a0 Kt = some r) : FnIs Tryz.prog G ng 101 (adp101 A) := by
 refine spec_run cut0_eq S (l := gam101) (by intro p hp; cases hp) Tryz.func101 (by kernel_rfl) (nn := 4) (Lv := lvs101) (k := big) fun rc cs K r h => ?_
 unfold adp101 at h
 split at h
 ·exact ⟨_, hA _ _ _ h, fun p hp => by unfold tok101 at hp; split at hp; exact hp; cases hp⟩
 ·cases h
def lvs105 : Nat → Option (List (Nat × Co))
 | 1000258 => some [(0, .k), (3, .k), (6, .k), (7, .k)]
 | _ => none
section
variable (C : Nat → Env → (Env → Option Out) → Option Out)
def gam105 : List (Nat × Fn1) := []
def bod105 : Code := Tryz.f105.body.getD .skip
def run105 (k : Nat) (a0 : BY) (Kt : Tk105) : Option Out := runK Tryz.prog (lookG (gam105)) 5 lvs105 C k Tryz.f105 none [.s (.str a0)] (tok105 Kt)
def l1_105 (k j0 : Nat) (v0 : BY) (v3 v6 v7 : Int) (Kt : Tk105) : Option Out := C 1000258 ([.c (.s (.str v0)), .u, .u, .c (.s (.int .i64 v3)), .u, .u, .c (.s (.int .i64 v6)), .c (.s (.int .i64 v7))] ++ us 12) fun e => headK Tryz.prog (lookG (gam105)) 5 lvs105 C k j0 bod105 [1, 1, 0, 1, 0] e (fin Tryz.prog Tryz.f105 none (tok105 Kt))
theorem run105_eq (k : Nat) (a0 : BY) (Kt : Tk105) : run105 C k a0 Kt =
 (l1_105 C k k a0 0 (a0.length : Int) 0 Kt) := by kernel_rfl
theorem l1_105_eq (hC : Cv C) (k j0 : Nat) (v0 : BY) (v3 v6 v7 : Int) (Kt : Tk105) : l1_105 C k (j0 + 1) v0 v3 v6 v7 Kt =
 (bif (decide (v7 < v6)) then ((at? v0 v7).bind fun b1 => (l1_105 C k j0 v0 (i64.wrap ((i64.wrap ((10 : Int) * v3)) + (i64.wrap (u8.wrap ((b1.toNat : Int) - 48))))) v6 (i64.wrap (v7 + 1)) Kt)) else (Kt v3)) := (hC _ _ _).trans (by kernel_rfl)
end
theorem as105 {G : World → Prop} {ng : Nat} (S : Stays Tryz.prog G ng) {A : Ty105} (hA : ∀ (a0 : BY) (Kt : Tk105) (r : Out), A a0 Kt = some r → run105 cut0 big a0 Kt = some r) : FnIs Tryz.prog G ng 105 (adp105 A) := by
 refine spec_run cut0_eq S (l := gam105) (by intro p hp; cases hp) Tryz.func105 (by kernel_rfl) (nn := 5) (Lv := lvs105) (k := big) fun rc cs K r h => ?_
 unfold adp105 at h
 split at h
 ·exact ⟨_, hA _ _ _ h, fun p hp => by unfold tok105 at hp; split at hp; exact hp; cases hp⟩
 ·cases h
def lvs154 : Nat → Option (List (Nat × Co))
 | _ => none
section
variable (C : Nat → Env → (Env → Option Out) → Option Out) (N94 : Ty94)
def gam154 : List (Nat × Fn1) := [(94, adp94 N94)]
def run154 (k : Nat) (a0 : BY) (Kt : Tk154) : Option Out := runK Tryz.prog (lookG (gam154 N94)) 5 lvs154 C k Tryz.f154 none [.s (.str a0)] (tok154 Kt)
theorem run154_eq (k : Nat) (a0 : BY) (Kt : Tk154) : run154 C N94 k a0 Kt =
 (N94 a0 ([48, 98] : BY) fun r1 => (bif r1 then (Kt 1 ([48, 49] : BY) 2) else (N94 a0 ([48, 120] : BY) fun r2 => (bif r2 then (Kt 2 ([48, 49, 50, 51, 52, 53, 54, 55, 56, 57, 97, 98, 99, 100, 101, 102, 65, 66, 67, 68, 69, 70] : BY) 2) else (bif (a0 == ([48] : BY)) then (Kt 4 ([] : BY) 1) else (N94 a0 ([48] : BY) fun r3 => (bif r3 then ((cut ([48, 49, 50, 51, 52, 53, 54, 55, 56, 57] : BY) none (some (8 : Int))).bind fun s4 => (Kt 3 s4 1)) else (Kt 5 ([48, 49, 50, 51, 52, 53, 54, 55, 56, 57] : BY) 0)))))))) := by kernel_rfl
end
theorem as154 {G : World → Prop} {ng : Nat} (S : Stays Tryz.prog G ng) {N94 : Ty94} (h94 : FnIs Tryz.prog G ng 94 (adp94 N94)) {A : Ty154} (hA : ∀ (a0 : BY) (Kt : Tk154) (r : Out), A a0 Kt = some r → run154 cut0 N94 big a0 Kt = some r) : FnIs Tryz.prog G ng 154 (adp154 A) := by
 refine spec_run cut0_eq S (l := gam154 N94) (by intro p hp; simp only [gam154, List.mem_cons, List.not_mem_nil, or_false] at hp; rcases hp with rfl <;> assumption) Tryz.func154 (by kernel_rfl) (nn := 5) (Lv := lvs154) (k := big) fun rc cs K r h => ?_
 unfold adp154 at h
 split at h
 ·exact ⟨_, hA _ _ _ h, fun p hp => by unfold tok154 at hp; split at hp; exact hp; cases hp⟩
 ·cases h
end
end Go.Proofs.YtffmgholjdfcnaaGreatDoor
set_option maxRecDepth 100000
set_option linter.unusedVariables false
namespace Go.Proofs.YtffmgholjdfcnaaGreatDoor
open Go Go.Proofs AM
open Go.IntKind (i64 u8)
noncomputable section
def lvs65 : Nat → Option (List (Nat × Co))
 | _ => none
section
variable (C : Nat → Env → (Env → Option Out) → Option Out) (N99 : Ty99) (N106 : Ty106) (N107 : Ty107) (N108 : Ty108)
def gam65 : List (Nat × Fn1) := [(99, adp99 N99), (106, adp106 N106), (107, adp107 N107), (108, adp108 N108)]
def run65 (k : Nat) (a0 : BY) (Kt : Tk65) : Option Out := runK Tryz.prog (lookG (gam65 N99 N106 N107 N108)) 6 lvs65 C k Tryz.f65 none [.s (.str a0)] (tok65 Kt)
theorem run65_eq (k : Nat) (a0 : BY) (Kt : Tk65) : run65 C N99 N106 N107 N108 k a0 Kt =
 (N106 a0 fun r1 r2 r3 r4 r5 => (bif (r1 == 0) then (Kt 0 false ([] : BY) ([] : BY) false) else (bif (r1 == 4) then (Kt 1 r2 ([] : BY) ([] : BY) true) else (bif (r1 == 5) then (Kt 2 false ([] : BY) ([] : BY) true) else (N107 r3 fun r6 => (N108 r6 fun r7 => (N107 r4 fun r8 => (N99 r2 r7 r8 r5 fun r9 r10 r11 r12 r13 => (Kt r9 r10 r11 r12 r13))))))))) := by kernel_rfl
end
theorem as65 {G : World → Prop} {ng : Nat} (S : Stays Tryz.prog G ng) {N99 : Ty99} {N106 : Ty106} {N107 : Ty107} {N108 : Ty108} (h99 : FnIs Tryz.prog G ng 99 (adp99 N99)) (h106 : FnIs Tryz.prog G ng 106 (adp106 N106)) (h107 : FnIs Tryz.prog G ng 107 (adp107 N107)) (h108 : FnIs Tryz.prog G ng 108 (adp108 N108)) {A : Ty65} (hA : ∀ (a0 : BY) (Kt : Tk65) (r : Out), A a0 Kt = some r → run65 cut0 N99 N106 N107 N108 big a0 Kt = some r) : FnIs Tryz.prog G ng 65 (adp65 A) := by
 refine spec_run cut0_eq S (l := gam65 N99 N106 N107 N108) (by intro p hp; simp only [gam65, List.mem_cons, List.not_mem_nil, or_false] at hp; rcases hp with rfl | rfl | rfl | rfl <;> assumption) Tryz.func65 (by kernel_rfl) (nn := 6) (Lv := lvs65) (k := big) fun rc cs K r h => ?_
 unfold adp65 at h
 split at h
 ·exact ⟨_, hA _ _ _ h, fun p hp => by unfold tok65 at hp; split at hp; exact hp; cases hp⟩
 ·cases h
def lvs106 : Nat → Option (List (Nat × Co))
 | 257 => some [(0, .k), (2, .k), (3, .k), (4, .k)]
 | 513 => some [(0, .k), (2, .k), (3, .k), (4, .k), (5, .k)]
 | 3000000 => some [(2, .k)]
 | 3000001 => some [(0, .k), (2, .k), (3, .k), (5, .k)]
 | 3000002 => some [(0, .k), (2, .k), (3, .k), (5, .k)]
 | _ => none
section
variable (C : Nat → Env → (Env → Option Out) → Option Out) (N96 : Ty96) (N159 : Ty159) (N160 : Ty160) (N161 : Ty161) (N162 : Ty162) (N163 : Ty163)
def gam106 : List (Nat × Fn1) := [(96, adp96 N96), (159, adp159 N159), (160, adp160 N160), (161, adp161 N161), (162, adp162 N162), (163, adp163 N163)]
def bod106 : Code := Tryz.f106.body.getD .skip
def run106 (k : Nat) (a0 : BY) (Kt : Tk106) : Option Out := runK Tryz.prog (lookG (gam106 N96 N159 N160 N161 N162 N163)) 3 lvs106 C k Tryz.f106 none [.s (.str a0)] (tok106 Kt)
def p1_106 (k j0 : Nat) (v0 : BY) (v2_0 : Int) (v2_1 : Bool) (v2_2 v2_3 v2_4 : BY) (v3_0 : Int) (v3_1 : Bool) (v3_2 v3_3 v3_4 : BY) (v4 : Bool) (Kt : Tk106) : Option Out := C 257 ([.c (.s (.str v0)), .u, .box 119 (.ss [.int .i64 v2_0, .bool v2_1, .str v2_2, .str v2_3, .str v2_4]), .box 119 (.ss [.int .i64 v3_0, .bool v3_1, .str v3_2, .str v3_3, .str v3_4]), .c (.s (.bool v4))] ++ us 132) fun e => atK Tryz.prog (lookG (gam106 N96 N159 N160 N161 N162 N163)) 3 lvs106 C k bod106 [1, j0, 1, 1] e (fin Tryz.prog Tryz.f106 none (tok106 Kt))
def p2_106 (k j0 : Nat) (v0 : BY) (v2_0 : Int) (v2_1 : Bool) (v2_2 v2_3 v2_4 : BY) (v3_0 : Int) (v3_1 : Bool) (v3_2 v3_3 v3_4 : BY) (v4 : Bool) (v5 : Int) (Kt : Tk106) : Option Out := C 513 ([.c (.s (.str v0)), .u, .box 119 (.ss [.int .i64 v2_0, .bool v2_1, .str v2_2, .str v2_3, .str v2_4]), .box 119 (.ss [.int .i64 v3_0, .bool v3_1, .str v3_2, .str v3_3, .str v3_4]), .c (.s (.bool v4)), .c (.s (.int .i64 v5))] ++ us 131) fun e => atK Tryz.prog (lookG (gam106 N96 N159 N160 N161 N162 N163)) 3 lvs106 C k bod106 [1, j0, 1, 1, 1, 1] e (fin Tryz.prog Tryz.f106 none (tok106 Kt))
def g3_106 (k j0 : Nat) (v2_0 : Int) (v2_1 : Bool) (v2_2 v2_3 v2_4 : BY) (Kt : Tk106) : Option Out := C 3000000 ([.u, .u, .box 119 (.ss [.int .i64 v2_0, .bool v2_1, .str v2_2, .str v2_3, .str v2_4])] ++ us 134) fun e => jumpK Tryz.prog (lookG (gam106 N96 N159 N160 N161 N162 N163)) 3 lvs106 C k j0 0 bod106 [1] e (fin Tryz.prog Tryz.f106 none (tok106 Kt))
def g4_106 (k j0 : Nat) (v0 : BY) (v2_0 : Int) (v2_1 : Bool) (v2_2 v2_3 v2_4 : BY) (v3_0 : Int) (v3_1 : Bool) (v3_2 v3_3 v3_4 : BY) (v5 : Int) (Kt : Tk106) : Option Out := C 3000001 ([.c (.s (.str v0)), .u, .box 119 (.ss [.int .i64 v2_0, .bool v2_1, .str v2_2, .str v2_3, .str v2_4]), .box 119 (.ss [.int .i64 v3_0, .bool v3_1, .str v3_2, .str v3_3, .str v3_4]), .u, .c (.s (.int .i64 v5))] ++ us 131) fun e => jumpK Tryz.prog (lookG (gam106 N96 N159 N160 N161 N162 N163)) 3 lvs106 C k j0 1 bod106 [1] e (fin Tryz.prog Tryz.f106 none (tok106 Kt))
def g5_106 (k j0 : Nat) (v0 : BY) (v2_0 : Int) (v2_1 : Bool) (v2_2 v2_3 v2_4 : BY) (v3_0 : Int) (v3_1 : Bool) (v3_2 v3_3 v3_4 : BY) (v5 : Int) (Kt : Tk106) : Option Out := C 3000002 ([.c (.s (.str v0)), .u, .box 119 (.ss [.int .i64 v2_0, .bool v2_1, .str v2_2, .str v2_3, .str v2_4]), .box 119 (.ss [.int .i64 v3_0, .bool v3_1, .str v3_2, .str v3_3, .str v3_4]), .u, .c (.s (.int .i64 v5))] ++ us 131) fun e => jumpK Tryz.prog (lookG (gam106 N96 N159 N160 N161 N162 N163)) 3 lvs106 C k j0 2 bod106 [1] e (fin Tryz.prog Tryz.f106 none (tok106 Kt))
theorem run106_eq (k : Nat) (a0 : BY) (Kt : Tk106) : run106 C N96 N159 N160 N161 N162 N163 k a0 Kt =
 (bif (!(a0 == ([] : BY))) then ((at? a0 0).bind fun b1 => (bif ((b1.toNat : Int) == 43) then (p1_106 C N96 N159 N160 N161 N162 N163 k k a0 0 false ([] : BY) ([] : BY) ([] : BY) 0 false ([] : BY) ([] : BY) ([48] : BY) true Kt) else ((at? a0 0).bind fun b2 => (p1_106 C N96 N159 N160 N161 N162 N163 k k a0 0 false ([] : BY) ([] : BY) ([] : BY) 0 false ([] : BY) ([] : BY) ([48] : BY) ((b2.toNat : Int) == 45) Kt)))) else (p1_106 C N96 N159 N160 N161 N162 N163 k k a0 0 false ([] : BY) ([] : BY) ([] : BY) 0 false ([] : BY) ([] : BY) ([48] : BY) false Kt)) := by kernel_rfl
theorem p1_106_eq (hC : Cv C) (k j0 : Nat) (v0 : BY) (v2_0 : Int) (v2_1 : Bool) (v2_2 v2_3 v2_4 : BY) (v3_0 : Int) (v3_1 : Bool) (v3_2 v3_3 v3_4 : BY) (v4 : Bool) (Kt : Tk106) : p1_106 C N96 N159 N160 N161 N162 N163 k j0 v0 v2_0 v2_1 v2_2 v2_3 v2_4 v3_0 v3_1 v3_2 v3_3 v3_4 v4 Kt =
 (bif v4 then ((at? v0 0).bind fun b3 => ((cut v0 (some (1 : Int)) none).bind fun s4 => (p2_106 C N96 N159 N160 N161 N162 N163 k j0 s4 v2_0 v2_1 v2_2 v2_3 v2_4 v3_0 ((b3.toNat : Int) == 45) v3_2 v3_3 v3_4 v4 0 Kt))) else (p2_106 C N96 N159 N160 N161 N162 N163 k j0 v0 v2_0 v2_1 v2_2 v2_3 v2_4 v3_0 v3_1 v3_2 v3_3 v3_4 v4 0 Kt)) := (hC _ _ _).trans (by kernel_rfl)
theorem p2_106_eq (hC : Cv C) (k j0 : Nat) (v0 : BY) (v2_0 : Int) (v2_1 : Bool) (v2_2 v2_3 v2_4 : BY) (v3_0 : Int) (v3_1 : Bool) (v3_2 v3_3 v3_4 : BY) (v4 : Bool) (v5 : Int) (Kt : Tk106) : p2_106 C N96 N159 N160 N161 N162 N163 k j0 v0 v2_0 v2_1 v2_2 v2_3 v2_4 v3_0 v3_1 v3_2 v3_3 v3_4 v4 v5 Kt =
 (N159 v0 v4 fun r5 => (bif (decide (r5 > 0)) then (Kt r5 v3_1 v3_2 v3_3 v3_4) else (bif (v0 == ([] : BY)) then (g3_106 C N96 N159 N160 N161 N162 N163 k j0 v2_0 v2_1 v2_2 v2_3 v2_4 Kt) else ((at? v0 0).bind fun b6 => (bif ((b6.toNat : Int) == 46) then (g4_106 C N96 N159 N160 N161 N162 N163 k j0 v0 v2_0 v2_1 v2_2 v2_3 v2_4 2 v3_1 v3_2 v3_3 v3_4 v5 Kt) else ((at? v0 0).bind fun b7 => (N160 (b7.toNat : Int) fun r8 => (bif (!r8) then (g3_106 C N96 N159 N160 N161 N162 N163 k j0 v2_0 v2_1 v2_2 v2_3 v2_4 Kt) else (N161 v0 fun r9 => ((cut v0 (some r9) none).bind fun s10 => (N162 s10 fun r11 => (bif (decide (r11 > 0)) then (g5_106 C N96 N159 N160 N161 N162 N163 k j0 v0 v2_0 v2_1 v2_2 v2_3 v2_4 3 v3_1 v3_2 v3_3 v3_4 (i64.wrap (r9 + r11)) Kt) else (bif (r9 == (v0.length : Int)) then (g3_106 C N96 N159 N160 N161 N162 N163 k j0 v2_0 v2_1 v2_2 v2_3 v2_4 Kt) else ((at? v0 r9).bind fun b12 => (bif ((b12.toNat : Int) != 46) then (g3_106 C N96 N159 N160 N161 N162 N163 k j0 v2_0 v2_1 v2_2 v2_3 v2_4 Kt) else ((cut v0 none (some r9)).bind fun s13 => ((cut v0 (some (i64.wrap (r9 + 1))) none).bind fun s14 => (N161 s14 fun r15 => ((cut s14 none (some r15)).bind fun s16 => ((cut s14 (some r15) none).bind fun s17 => (bif (s17 == ([] : BY)) then (Kt 1 v3_1 s13 s16 v3_4) else (bif (decide ((s17.length : Int) < 3)) then (g3_106 C N96 N159 N160 N161 N162 N163 k j0 v2_0 v2_1 v2_2 v2_3 v2_4 Kt) else ((at? s17 0).bind fun b18 => (bif ((b18.toNat : Int) != 101) then ((at? s17 0).bind fun b19 => (bif ((b19.toNat : Int) != 69) then (g3_106 C N96 N159 N160 N161 N162 N163 k j0 v2_0 v2_1 v2_2 v2_3 v2_4 Kt) else ((at? s17 1).bind fun b20 => (bif ((b20.toNat : Int) != 43) then ((at? s17 1).bind fun b21 => (bif ((b21.toNat : Int) != 45) then (g3_106 C N96 N159 N160 N161 N162 N163 k j0 v2_0 v2_1 v2_2 v2_3 v2_4 Kt) else ((at? s17 1).bind fun b22 => ((cut s17 (some (2 : Int)) none).bind fun s23 => (N96 ((b22.toNat : Int) == 45) s23 fun r24 => (bif (!(r24 == ([] : BY))) then (Kt 1 v3_1 s13 s16 r24) else (Kt 0 false ([] : BY) ([] : BY) ([] : BY)))))))) else ((at? s17 1).bind fun b25 => ((cut s17 (some (2 : Int)) none).bind fun s26 => (N96 ((b25.toNat : Int) == 45) s26 fun r27 => (bif (!(r27 == ([] : BY))) then (Kt 1 v3_1 s13 s16 r27) else (Kt 0 false ([] : BY) ([] : BY) ([] : BY)))))))))) else ((at? s17 1).bind fun b28 => (bif ((b28.toNat : Int) != 43) then ((at? s17 1).bind fun b29 => (bif ((b29.toNat : Int) != 45) then (g3_106 C N96 N159 N160 N161 N162 N163 k j0 v2_0 v2_1 v2_2 v2_3 v2_4 Kt) else ((at? s17 1).bind fun b30 => ((cut s17 (some (2 : Int)) none).bind fun s31 => (N96 ((b30.toNat : Int) == 45) s31 fun r32 => (bif (!(r32 == ([] : BY))) then (Kt 1 v3_1 s13 s16 r32) else (Kt 0 false ([] : BY) ([] : BY) ([] : BY)))))))) else ((at? s17 1).bind fun b33 => ((cut s17 (some (2 : Int)) none).bind fun s34 => (N96 ((b33.toNat : Int) == 45) s34 fun r35 => (bif (!(r35 == ([] : BY))) then (Kt 1 v3_1 s13 s16 r35) else (Kt 0 false ([] : BY) ([] : BY) ([] : BY)))))))))))))))))))))))))))))))) := (hC _ _ _).trans (by kernel_rfl)
theorem g3_106_eq (hC : Cv C) (k j0 : Nat) (v2_0 : Int) (v2_1 : Bool) (v2_2 v2_3 v2_4 : BY) (Kt : Tk106) : g3_106 C N96 N159 N160 N161 N162 N163 k (j0 + 1) v2_0 v2_1 v2_2 v2_3 v2_4 Kt =
 (Kt 0 false ([] : BY) ([] : BY) ([] : BY)) := (hC _ _ _).trans (by kernel_rfl)
theorem g4_106_eq (hC : Cv C) (k j0 : Nat) (v0 : BY) (v2_0 : Int) (v2_1 : Bool) (v2_2 v2_3 v2_4 : BY) (v3_0 : Int) (v3_1 : Bool) (v3_2 v3_3 v3_4 : BY) (v5 : Int) (Kt : Tk106) : g4_106 C N96 N159 N160 N161 N162 N163 k (j0 + 1) v0 v2_0 v2_1 v2_2 v2_3 v2_4 v3_0 v3_1 v3_2 v3_3 v3_4 v5 Kt =
 ((cut v0 none (some v5)).bind fun s36 => ((cut v0 (some (i64.wrap (v5 + 1))) none).bind fun s37 => (N161 s37 fun r38 => ((cut s37 none (some r38)).bind fun s39 => ((cut s37 (some r38) none).bind fun s40 => (bif (v3_0 == 2) then (N163 s39 ([95] : BY) fun r41 => (bif (r41 == ([] : BY)) then (g3_106 C N96 N159 N160 N161 N162 N163 k j0 v2_0 v2_1 v2_2 v2_3 v2_4 Kt) else (bif (s40 == ([] : BY)) then (Kt v3_0 v3_1 s36 s39 v3_4) else (bif (v3_0 == 3) then (g3_106 C N96 N159 N160 N161 N162 N163 k j0 v2_0 v2_1 v2_2 v2_3 v2_4 Kt) else (bif (decide ((s40.length : Int) < 3)) then (g3_106 C N96 N159 N160 N161 N162 N163 k j0 v2_0 v2_1 v2_2 v2_3 v2_4 Kt) else ((at? s40 0).bind fun b42 => (bif ((b42.toNat : Int) != 101) then ((at? s40 0).bind fun b43 => (bif ((b43.toNat : Int) != 69) then (g3_106 C N96 N159 N160 N161 N162 N163 k j0 v2_0 v2_1 v2_2 v2_3 v2_4 Kt) else ((at? s40 1).bind fun b44 => (bif ((b44.toNat : Int) != 43) then ((at? s40 1).bind fun b45 => (bif ((b45.toNat : Int) != 45) then (g3_106 C N96 N159 N160 N161 N162 N163 k j0 v2_0 v2_1 v2_2 v2_3 v2_4 Kt) else ((at? s40 1).bind fun b46 => ((cut s40 (some (2 : Int)) none).bind fun s47 => (N96 ((b46.toNat : Int) == 45) s47 fun r48 => (bif (!(r48 == ([] : BY))) then (Kt v3_0 v3_1 s36 s39 r48) else (Kt 0 false ([] : BY) ([] : BY) ([] : BY)))))))) else ((at? s40 1).bind fun b49 => ((cut s40 (some (2 : Int)) none).bind fun s50 => (N96 ((b49.toNat : Int) == 45) s50 fun r51 => (bif (!(r51 == ([] : BY))) then (Kt v3_0 v3_1 s36 s39 r51) else (Kt 0 false ([] : BY) ([] : BY) ([] : BY)))))))))) else ((at? s40 1).bind fun b52 => (bif ((b52.toNat : Int) != 43) then ((at? s40 1).bind fun b53 => (bif ((b53.toNat : Int) != 45) then (g3_106 C N96 N159 N160 N161 N162 N163 k j0 v2_0 v2_1 v2_2 v2_3 v2_4 Kt) else ((at? s40 1).bind fun b54 => ((cut s40 (some (2 : Int)) none).bind fun s55 => (N96 ((b54.toNat : Int) == 45) s55 fun r56 => (bif (!(r56 == ([] : BY))) then (Kt v3_0 v3_1 s36 s39 r56) else (Kt 0 false ([] : BY) ([] : BY) ([] : BY)))))))) else ((at? s40 1).bind fun b57 => ((cut s40 (some (2 : Int)) none).bind fun s58 => (N96 ((b57.toNat : Int) == 45) s58 fun r59 => (bif (!(r59 == ([] : BY))) then (Kt v3_0 v3_1 s36 s39 r59) else (Kt 0 false ([] : BY) ([] : BY) ([] : BY))))))))))))))) else (bif (s40 == ([] : BY)) then (Kt v3_0 v3_1 s36 s39 v3_4) else (bif (v3_0 == 3) then (g3_106 C N96 N159 N160 N161 N162 N163 k j0 v2_0 v2_1 v2_2 v2_3 v2_4 Kt) else (bif (decide ((s40.length : Int) < 3)) then (g3_106 C N96 N159 N160 N161 N162 N163 k j0 v2_0 v2_1 v2_2 v2_3 v2_4 Kt) else ((at? s40 0).bind fun b60 => (bif ((b60.toNat : Int) != 101) then ((at? s40 0).bind fun b61 => (bif ((b61.toNat : Int) != 69) then (g3_106 C N96 N159 N160 N161 N162 N163 k j0 v2_0 v2_1 v2_2 v2_3 v2_4 Kt) else ((at? s40 1).bind fun b62 => (bif ((b62.toNat : Int) != 43) then ((at? s40 1).bind fun b63 => (bif ((b63.toNat : Int) != 45) then (g3_106 C N96 N159 N160 N161 N162 N163 k j0 v2_0 v2_1 v2_2 v2_3 v2_4 Kt) else ((at? s40 1).bind fun b64 => ((cut s40 (some (2 : Int)) none).bind fun s65 => (N96 ((b64.toNat : Int) == 45) s65 fun r66 => (bif (!(r66 == ([] : BY))) then (Kt v3_0 v3_1 s36 s39 r66) else (Kt 0 false ([] : BY) ([] : BY) ([] : BY)))))))) else ((at? s40 1).bind fun b67 => ((cut s40 (some (2 : Int)) none).bind fun s68 => (N96 ((b67.toNat : Int) == 45) s68 fun r69 => (bif (!(r69 == ([] : BY))) then (Kt v3_0 v3_1 s36 s39 r69) else (Kt 0 false ([] : BY) ([] : BY) ([] : BY)))))))))) else ((at? s40 1).bind fun b70 => (bif ((b70.toNat : Int) != 43) then ((at? s40 1).bind fun b71 => (bif ((b71.toNat : Int) != 45) then (g3_106 C N96 N159 N160 N161 N162 N163 k j0 v2_0 v2_1 v2_2 v2_3 v2_4 Kt) else ((at? s40 1).bind fun b72 => ((cut s40 (some (2 : Int)) none).bind fun s73 => (N96 ((b72.toNat : Int) == 45) s73 fun r74 => (bif (!(r74 == ([] : BY))) then (Kt v3_0 v3_1 s36 s39 r74) else (Kt 0 false ([] : BY) ([] : BY) ([] : BY)))))))) else ((at? s40 1).bind fun b75 => ((cut s40 (some (2 : Int)) none).bind fun s76 => (N96 ((b75.toNat : Int) == 45) s76 fun r77 => (bif (!(r77 == ([] : BY))) then (Kt v3_0 v3_1 s36 s39 r77) else (Kt 0 false ([] : BY) ([] : BY) ([] : BY))))))))))))))))))) := (hC _ _ _).trans (by kernel_rfl)
theorem g5_106_eq (hC : Cv C) (k j0 : Nat) (v0 : BY) (v2_0 : Int) (v2_1 : Bool) (v2_2 v2_3 v2_4 : BY) (v3_0 : Int) (v3_1 : Bool) (v3_2 v3_3 v3_4 : BY) (v5 : Int) (Kt : Tk106) : g5_106 C N96 N159 N160 N161 N162 N163 k (j0 + 1) v0 v2_0 v2_1 v2_2 v2_3 v2_4 v3_0 v3_1 v3_2 v3_3 v3_4 v5 Kt =
 ((cut v0 (some v5) none).bind fun s78 => (N162 s78 fun r79 => (bif (decide (r79 > 0)) then (g5_106 C N96 N159 N160 N161 N162 N163 k j0 v0 v2_0 v2_1 v2_2 v2_3 v2_4 3 v3_1 v3_2 v3_3 v3_4 (i64.wrap (v5 + r79)) Kt) else (bif (v5 == (v0.length : Int)) then (g3_106 C N96 N159 N160 N161 N162 N163 k j0 v2_0 v2_1 v2_2 v2_3 v2_4 Kt) else ((at? v0 v5).bind fun b80 => (bif ((b80.toNat : Int) != 46) then (g3_106 C N96 N159 N160 N161 N162 N163 k j0 v2_0 v2_1 v2_2 v2_3 v2_4 Kt) else ((cut v0 none (some v5)).bind fun s81 => ((cut v0 (some (i64.wrap (v5 + 1))) none).bind fun s82 => (N161 s82 fun r83 => ((cut s82 none (some r83)).bind fun s84 => ((cut s82 (some r83) none).bind fun s85 => (bif (v3_0 == 2) then (N163 s84 ([95] : BY) fun r86 => (bif (r86 == ([] : BY)) then (g3_106 C N96 N159 N160 N161 N162 N163 k j0 v2_0 v2_1 v2_2 v2_3 v2_4 Kt) else (bif (s85 == ([] : BY)) then (Kt v3_0 v3_1 s81 s84 v3_4) else (bif (v3_0 == 3) then (g3_106 C N96 N159 N160 N161 N162 N163 k j0 v2_0 v2_1 v2_2 v2_3 v2_4 Kt) else (bif (decide ((s85.length : Int) < 3)) then (g3_106 C N96 N159 N160 N161 N162 N163 k j0 v2_0 v2_1 v2_2 v2_3 v2_4 Kt) else ((at? s85 0).bind fun b87 => (bif ((b87.toNat : Int) != 101) then ((at? s85 0).bind fun b88 => (bif ((b88.toNat : Int) != 69) then (g3_106 C N96 N159 N160 N161 N162 N163 k j0 v2_0 v2_1 v2_2 v2_3 v2_4 Kt) else ((at? s85 1).bind fun b89 => (bif ((b89.toNat : Int) != 43) then ((at? s85 1).bind fun b90 => (bif ((b90.toNat : Int) != 45) then (g3_106 C N96 N159 N160 N161 N162 N163 k j0 v2_0 v2_1 v2_2 v2_3 v2_4 Kt) else ((at? s85 1).bind fun b91 => ((cut s85 (some (2 : Int)) none).bind fun s92 => (N96 ((b91.toNat : Int) == 45) s92 fun r93 => (bif (!(r93 == ([] : BY))) then (Kt v3_0 v3_1 s81 s84 r93) else (Kt 0 false ([] : BY) ([] : BY) ([] : BY)))))))) else ((at? s85 1).bind fun b94 => ((cut s85 (some (2 : Int)) none).bind fun s95 => (N96 ((b94.toNat : Int) == 45) s95 fun r96 => (bif (!(r96 == ([] : BY))) then (Kt v3_0 v3_1 s81 s84 r96) else (Kt 0 false ([] : BY) ([] : BY) ([] : BY)))))))))) else ((at? s85 1).bind fun b97 => (bif ((b97.toNat : Int) != 43) then ((at? s85 1).bind fun b98 => (bif ((b98.toNat : Int) != 45) then (g3_106 C N96 N159 N160 N161 N162 N163 k j0 v2_0 v2_1 v2_2 v2_3 v2_4 Kt) else ((at? s85 1).bind fun b99 => ((cut s85 (some (2 : Int)) none).bind fun s100 => (N96 ((b99.toNat : Int) == 45) s100 fun r101 => (bif (!(r101 == ([] : BY))) then (Kt v3_0 v3_1 s81 s84 r101) else (Kt 0 false ([] : BY) ([] : BY) ([] : BY)))))))) else ((at? s85 1).bind fun b102 => ((cut s85 (some (2 : Int)) none).bind fun s103 => (N96 ((b102.toNat : Int) == 45) s103 fun r104 => (bif (!(r104 == ([] : BY))) then (Kt v3_0 v3_1 s81 s84 r104) else (Kt 0 false ([] : BY) ([] : BY) ([] : BY))))))))))))))) else (bif (s85 == ([] : BY)) then (Kt v3_0 v3_1 s81 s84 v3_4) else (bif (v3_0 == 3) then (g3_106 C N96 N159 N160 N161 N162 N163 k j0 v2_0 v2_1 v2_2 v2_3 v2_4 Kt) else (bif (decide ((s85.length : Int) < 3)) then (g3_106 C N96 N159 N160 N161 N162 N163 k j0 v2_0 v2_1 v2_2 v2_3 v2_4 Kt) else ((at? s85 0).bind fun b105 => (bif ((b105.toNat : Int) != 101) then ((at? s85 0).bind fun b106 => (bif ((b106.toNat : Int) != 69) then (g3_106 C N96 N159 N160 N161 N162 N163 k j0 v2_0 v2_1 v2_2 v2_3 v2_4 Kt) else ((at? s85 1).bind fun b107 => (bif ((b107.toNat : Int) != 43) then ((at? s85 1).bind fun b108 => (bif ((b108.toNat : Int) != 45) then (g3_106 C N96 N159 N160 N161 N162 N163 k j0 v2_0 v2_1 v2_2 v2_3 v2_4 Kt) else ((at? s85 1).bind fun b109 => ((cut s85 (some (2 : Int)) none).bind fun s110 => (N96 ((b109.toNat : Int) == 45) s110 fun r111 => (bif (!(r111 == ([] : BY))) then (Kt v3_0 v3_1 s81 s84 r111) else (Kt 0 false ([] : BY) ([] : BY) ([] : BY)))))))) else ((at? s85 1).bind fun b112 => ((cut s85 (some (2 : Int)) none).bind fun s113 => (N96 ((b112.toNat : Int) == 45) s113 fun r114 => (bif (!(r114 == ([] : BY))) then (Kt v3_0 v3_1 s81 s84 r114) else (Kt 0 false ([] : BY) ([] : BY) ([] : BY)))))))))) else ((at? s85 1).bind fun b115 => (bif ((b115.toNat : Int) != 43) then ((at? s85 1).bind fun b116 => (bif ((b116.toNat : Int) != 45) then (g3_106 C N96 N159 N160 N161 N162 N163 k j0 v2_0 v2_1 v2_2 v2_3 v2_4 Kt) else ((at? s85 1).bind fun b117 => ((cut s85 (some (2 : Int)) none).bind fun s118 => (N96 ((b117.toNat : Int) == 45) s118 fun r119 => (bif (!(r119 == ([] : BY))) then (Kt v3_0 v3_1 s81 s84 r119) else (Kt 0 false ([] : BY) ([] : BY) ([] : BY)))))))) else ((at? s85 1).bind fun b120 => ((cut s85 (some (2 : Int)) none).bind fun s121 => (N96 ((b120.toNat : Int) == 45) s121 fun r122 => (bif (!(r122 == ([] : BY))) then (Kt v3_0 v3_1 s81 s84 r122) else (Kt 0 false ([] : BY) ([] : BY) ([] : BY))))))))))))))))))))))))) := (hC _ _ _).trans (by kernel_rfl)
end
theorem as106 {G : World → Prop} {ng : Nat} (S : Stays Tryz.prog G ng) {N96 : Ty96} {N159 : Ty159} {N160 : Ty160} {N161 : Ty161} {N162 : Ty162} {N163 : Ty163} (h96 : FnIs Tryz.prog G ng 96 (adp96 N96)) (h159 : FnIs Tryz.prog G ng 159 (adp159 N159)) (h160 : FnIs Tryz.prog G ng 160 (adp160 N160)) (h161 : FnIs Tryz.prog G ng 161 (adp161 N161)) (h162 : FnIs Tryz.prog G ng 162 (adp162 N162)) (h163 : FnIs Tryz.prog G ng 163 (adp163 N163)) {A : Ty106} (hA : ∀ (a0 : BY) (Kt : Tk106) (r : Out), A a0 Kt = some r → run106 cut0 N96 N159 N160 N161 N162 N163 big a0 Kt = some r) : FnIs Tryz.prog G ng 106 (adp106 A) := by
 refine spec_run cut0_eq S (l := gam106 N96 N159 N160 N161 N162 N163) (by intro p hp; simp only [gam106, List.mem_cons, List.not_mem_nil, or_false] at hp; rcases hp with rfl | rfl | rfl | rfl | rfl | rfl <;> assumption) Tryz.func106 (by kernel_rfl) (nn := 3) (Lv := lvs106) (k := big) fun rc cs K r h => ?_
 unfold adp106 at h
 split at h
 ·exact ⟨_, hA _ _ _ h, fun p hp => by unfold tok106 at hp; split at hp; exact hp; cases hp⟩
 ·cases h
def lvs107 : Nat → Option (List (Nat × Co))
 | _ => none
section
variable (C : Nat → Env → (Env → Option Out) → Option Out) (N102 : Ty102)
def gam107 : List (Nat × Fn1) := [(102, adp102 N102)]
def run107 (k : Nat) (a0 : BY) (Kt : Tk107) : Option Out := runK Tryz.prog (lookG (gam107 N102)) 3 lvs107 C k Tryz.f107 none [.s (.str a0)] (tok107 Kt)
theorem run107_eq (k : Nat) (a0 : BY) (Kt : Tk107) : run107 C N102 k a0 Kt =
 (N102 a0 ([95] : BY) ([] : BY) fun r1 => (Kt r1)) := by kernel_rfl
end
theorem as107 {G : World → Prop} {ng : Nat} (S : Stays Tryz.prog G ng) {N102 : Ty102} (h102 : FnIs Tryz.prog G ng 102 (adp102 N102)) {A : Ty107} (hA : ∀ (a0 : BY) (Kt : Tk107) (r : Out), A a0 Kt = some r → run107 cut0 N102 big a0 Kt = some r) : FnIs Tryz.prog G ng 107 (adp107 A) := by
 refine spec_run cut0_eq S (l := gam107 N102) (by intro p hp; simp only [gam107, List.mem_cons, List.not_mem_nil, or_false] at hp; rcases hp with rfl <;> assumption) Tryz.func107 (by kernel_rfl) (nn := 3) (Lv := lvs107) (k := big) fun rc cs K r h => ?_
 unfold adp107 at h
 split at h
 ·exact ⟨_, hA _ _ _ h, fun p hp => by unfold tok107 at hp; split at hp; exact hp; cases hp⟩
 ·cases h
def lvs108 : Nat → Option (List (Nat × Co))
 | 577 => some [(3, .k), (4, .k), (6, .k), (15, .k), (16, .k), (17, .k)]
 | 1000322 => some [(3, .k), (4, .k), (15, .k), (16, .k), (17, .k)]
 | 1000706 => some [(3, .k), (4, .k), (6, .k), (7, .k), (15, .k), (16, .k), (17, .k), (27, .k), (28, .k)]
 | _ => none
section
variable (C : Nat → Env → (Env → Option Out) → Option Out) (N96 : Ty96) (N103 : Ty103) (N104 : Ty104)
def gam108 : List (Nat × Fn1) := [(96, adp96 N96), (103, adp103 N103), (104, adp104 N104)]
def bod108 : Code := Tryz.f108.body.getD .skip
def run108 (k : Nat) (a0 : BY) (Kt : Tk108) : Option Out := runK Tryz.prog (lookG (gam108 N96 N103 N104)) 9 lvs108 C k Tryz.f108 none [.s (.str a0)] (tok108 Kt)
def l1_108 (k j0 : Nat) (v3 : List BY) (v4 : BY) (v15_a v15_n : Nat) (v16 v17 : Int) (Kt : Tk108) : Option Out := C 1000322 ([.u, .u, .u, .c (.own (.strs v3)), .c (.s (.str v4))] ++ us 10 ++ [.ali 3 v15_a v15_n, .c (.s (.int .i64 v16)), .c (.s (.int .i64 v17))] ++ us 27) fun e => headK Tryz.prog (lookG (gam108 N96 N103 N104)) 9 lvs108 C k j0 bod108 [1, 1, 1, 0, 1, 0] e (fin Tryz.prog Tryz.f108 none (tok108 Kt))
def p2_108 (k j0 : Nat) (v3 : List BY) (v4 v6 : BY) (v15_a v15_n : Nat) (v16 v17 : Int) (Kt : Tk108) : Option Out := C 577 ([.u, .u, .u, .c (.own (.strs v3)), .c (.s (.str v4)), .u, .c (.s (.str v6))] ++ us 8 ++ [.ali 3 v15_a v15_n, .c (.s (.int .i64 v16)), .c (.s (.int .i64 v17))] ++ us 27) fun e => atK Tryz.prog (lookG (gam108 N96 N103 N104)) 9 lvs108 C k bod108 [1, 1, 1, 0, 1, 0, j0, 1, 1, 0, 0, 1, 1] e (fin Tryz.prog Tryz.f108 none (tok108 Kt))
def l3_108 (k j0 j1 : Nat) (v3 : List BY) (v4 v6 : BY) (v7 : Int) (v15_a v15_n : Nat) (v16 v17 v27 v28 : Int) (Kt : Tk108) : Option Out := C 1000706 ([.u, .u, .u, .c (.own (.strs v3)), .c (.s (.str v4)), .u, .c (.s (.str v6)), .c (.s (.int .i64 v7))] ++ us 7 ++ [.ali 3 v15_a v15_n, .c (.s (.int .i64 v16)), .c (.s (.int .i64 v17))] ++ us 9 ++ [.c (.s (.int .i64 v27)), .c (.s (.int .i64 v28))] ++ us 16) fun e => headK Tryz.prog (lookG (gam108 N96 N103 N104)) 9 lvs108 C k j1 bod108 [1, 1, 1, 0, 1, 0, j0, 1, 1, 0, 0, 1, 1, 1, 0, 1, 0] e (fin Tryz.prog Tryz.f108 none (tok108 Kt))
theorem run108_eq (k : Nat) (a0 : BY) (Kt : Tk108) : run108 C N96 N103 N104 k a0 Kt =
 (N103 a0 ([58] : BY) fun r1 => (bif (decide (0 ≤ (0 : Int)) && decide ((0 : Int) < (r1.length : Int))) then ((r1[0]?).bind fun x2 => ((cutN r1.length (some (1 : Int)) none).bind fun p3 => (l1_108 C N96 N103 N104 k k r1 x2 p3.1 p3.2 (p3.2 : Int) 0 Kt))) else none)) := by kernel_rfl
theorem l1_108_eq (hC : Cv C) (k j0 : Nat) (v3 : List BY) (v4 : BY) (v15_a v15_n : Nat) (v16 v17 : Int) (Kt : Tk108) : l1_108 C N96 N103 N104 k (j0 + 1) v3 v4 v15_a v15_n v16 v17 Kt =
 (bif (decide (v17 < v16)) then (bif (decide (0 ≤ v17) && decide (v17 < (v15_n : Int))) then ((v3[(v15_a + v17.toNat)]?).bind fun x4 => (bif (v17 == 0) then (N96 false v4 fun r5 => (p2_108 C N96 N103 N104 k j0 v3 r5 x4 v15_a v15_n v16 v17 Kt)) else (p2_108 C N96 N103 N104 k j0 v3 v4 x4 v15_a v15_n v16 v17 Kt))) else none) else (Kt v4)) := (hC _ _ _).trans (by kernel_rfl)
theorem p2_108_eq (hC : Cv C) (k j0 : Nat) (v3 : List BY) (v4 v6 : BY) (v15_a v15_n : Nat) (v16 v17 : Int) (Kt : Tk108) : p2_108 C N96 N103 N104 k j0 v3 v4 v6 v15_a v15_n v16 v17 Kt =
 (l3_108 C N96 N103 N104 k j0 k v3 v4 v6 0 v15_a v15_n v16 v17 (v6.length : Int) 0 Kt) := (hC _ _ _).trans (by kernel_rfl)
theorem l3_108_eq (hC : Cv C) (k j0 j1 : Nat) (v3 : List BY) (v4 v6 : BY) (v7 : Int) (v15_a v15_n : Nat) (v16 v17 v27 v28 : Int) (Kt : Tk108) : l3_108 C N96 N103 N104 k j0 (j1 + 1) v3 v4 v6 v7 v15_a v15_n v16 v17 v27 v28 Kt =
 (bif (decide (v28 < v27)) then ((at? v6 v28).bind fun b6 => (l3_108 C N96 N103 N104 k j0 j1 v3 v4 v6 (i64.wrap ((i64.wrap ((10 : Int) * v7)) + (i64.wrap (u8.wrap ((b6.toNat : Int) - 48))))) v15_a v15_n v16 v17 v27 (i64.wrap (v28 + 1)) Kt)) else (N104 v4 60 v7 fun r7 => (l1_108 C N96 N103 N104 k j0 v3 r7 v15_a v15_n v16 (i64.wrap (v17 + 1)) Kt))) := (hC _ _ _).trans (by kernel_rfl)
end
theorem as108 {G : World → Prop} {ng : Nat} (S : Stays Tryz.prog G ng) {N96 : Ty96} {N103 : Ty103} {N104 : Ty104} (h96 : FnIs Tryz.prog G ng 96 (adp96 N96)) (h103 : FnIs Tryz.prog G ng 103 (adp103 N103)) (h104 : FnIs Tryz.prog G ng 104 (adp104 N104)) {A : Ty108} (hA : ∀ (a0 : BY) (Kt : Tk108) (r : Out), A a0 Kt = some r → run108 cut0 N96 N103 N104 big a0 Kt = some r) : FnIs Tryz.prog G ng 108 (adp108 A) := by
 refine spec_run cut0_eq S (l := gam108 N96 N103 N104) (by intro p hp; simp only [gam108, List.mem_cons, List.not_mem_nil, or_false] at hp; rcases hp with rfl | rfl | rfl <;> assumption) Tryz.func108 (by kernel_rfl) (nn := 9) (Lv := lvs108) (k := big) fun rc cs K r h => ?_
 unfold adp108 at h
 split at h
 ·exact ⟨_, hA _ _ _ h, fun p hp => by unfold tok108 at hp; split at hp; exact hp; cases hp⟩
 ·cases h
def lvs159 : Nat → Option (List (Nat × Co))
 | 386 => some [(1, .k), (5, .k), (6, .k)]
 | 642 => some [(1, .k), (10, .k)]
 | 769 => some []
 | _ => none
section
variable (C : Nat → Env → (Env → Option Out) → Option Out)
def gam159 : List (Nat × Fn1) := []
def bod159 : Code := Tryz.f159.body.getD .skip
def run159 (k : Nat) (a0 : BY) (a1 : Bool) (Kt : Tk159) : Option Out := runK Tryz.prog (lookG (gam159)) 5 lvs159 C k Tryz.f159 none [.s (.str a0), .s (.bool a1)] (tok159 Kt)
def p1_159 (k : Nat) (v1 : Bool) (v5 : BY) (v6 : Bool) (Kt : Tk159) : Option Out := C 386 ([.u, .c (.s (.bool v1)), .u, .u, .u, .c (.s (.str v5)), .c (.s (.bool v6))] ++ us 9) fun e => atK Tryz.prog (lookG (gam159)) 5 lvs159 C k bod159 [1, 0, 1, 0, 1] e (fin Tryz.prog Tryz.f159 none (tok159 Kt))
def p2_159 (k : Nat) (v1 v10 : Bool) (Kt : Tk159) : Option Out := C 642 ([.u, .c (.s (.bool v1))] ++ us 8 ++ [.c (.s (.bool v10)), .u, .u, .u, .u, .u]) fun e => atK Tryz.prog (lookG (gam159)) 5 lvs159 C k bod159 [1, 0, 1, 0, 1, 1, 1] e (fin Tryz.prog Tryz.f159 none (tok159 Kt))
def p3_159 (k : Nat) (Kt : Tk159) : Option Out := C 769 (us 16) fun e => atK Tryz.prog (lookG (gam159)) 5 lvs159 C k bod159 [1, 1] e (fin Tryz.prog Tryz.f159 none (tok159 Kt))
theorem run159_eq (k : Nat) (a0 : BY) (a1 : Bool) (Kt : Tk159) : run159 C k a0 a1 Kt =
 (bif (a0 == ([46, 105, 110, 102] : BY)) then (p1_159 C k a1 a0 (a0 == ([46, 105, 110, 102] : BY)) Kt) else (bif (a0 == ([46, 73, 110, 102] : BY)) then (p1_159 C k a1 a0 (a0 == ([46, 73, 110, 102] : BY)) Kt) else (p1_159 C k a1 a0 (a0 == ([46, 73, 78, 70] : BY)) Kt))) := by kernel_rfl
theorem p1_159_eq (hC : Cv C) (k : Nat) (v1 : Bool) (v5 : BY) (v6 : Bool) (Kt : Tk159) : p1_159 C k v1 v5 v6 Kt =
 (bif v6 then (Kt 4) else (bif (v5 == ([46, 110, 97, 110] : BY)) then (p2_159 C k v1 (v5 == ([46, 110, 97, 110] : BY)) Kt) else (bif (v5 == ([46, 78, 97, 78] : BY)) then (p2_159 C k v1 (v5 == ([46, 78, 97, 78] : BY)) Kt) else (p2_159 C k v1 (v5 == ([46, 78, 65, 78] : BY)) Kt)))) := (hC _ _ _).trans (by kernel_rfl)
theorem p2_159_eq (hC : Cv C) (k : Nat) (v1 v10 : Bool) (Kt : Tk159) : p2_159 C k v1 v10 Kt =
 (bif v10 then (bif (!v1) then (Kt 5) else (p3_159 C k Kt)) else (p3_159 C k Kt)) := (hC _ _ _).trans (by kernel_rfl)
theorem p3_159_eq (hC : Cv C) (k : Nat) (Kt : Tk159) : p3_159 C k Kt =
 (Kt 0) := (hC _ _ _).trans (by kernel_rfl)
end
theorem as159 {G : World → Prop} {ng : Nat} (S : Stays Tryz.prog G ng) {A : Ty159} (hA : ∀ (a0 : BY) (a1 : Bool) (Kt : Tk159) (r : Out), A a0 a1 Kt = some r → run159 cut0 big a0 a1 Kt = some r) : FnIs Tryz.prog G ng 159 (adp159 A) := by
 refine spec_run cut0_eq S (l := gam159) (by intro p hp; cases hp) Tryz.func159 (by kernel_rfl) (nn := 5) (Lv := lvs159) (k := big) fun rc cs K r h => ?_
 unfold adp159 at h
 split at h
 ·exact ⟨_, hA _ _ _ _ h, fun p hp => by unfold tok159 at hp; split at hp; exact hp; cases hp⟩
 ·cases h
def lvs160 : Nat → Option (List (Nat × Co))
 | _ => none
section
variable (C : Nat → Env → (Env → Option Out) → Option Out)
def gam160 : List (Nat × Fn1) := []
def run160 (k : Nat) (a0 : Int) (Kt : Tk160) : Option Out := runK Tryz.prog (lookG (gam160)) 3 lvs160 C k Tryz.f160 none [.s (.int .u8 a0)] (tok160 Kt)
theorem run160_eq (k : Nat) (a0 : Int) (Kt : Tk160) : run160 C k a0 Kt =
 (bif (decide (a0 ≥ 48)) then (Kt (decide (a0 ≤ 57))) else (Kt false)) := by kernel_rfl
end
theorem as160 {G : World → Prop} {ng : Nat} (S : Stays Tryz.prog G ng) {A : Ty160} (hA : ∀ (a0 : Int) (Kt : Tk160) (r : Out), A a0 Kt = some r → run160 cut0 big a0 Kt = some r) : FnIs Tryz.prog G ng 160 (adp160 A) := by
 refine spec_run cut0_eq S (l := gam160) (by intro p hp; cases hp) Tryz.func160 (by kernel_rfl) (nn := 3) (Lv := lvs160) (k := big) fun rc cs K r h => ?_
 unfold adp160 at h
 split at h
 ·exact ⟨_, hA _ _ _ h, fun p hp => by unfold tok160 at hp; split at hp; exact hp; cases hp⟩
 ·cases h
def lvs161 : Nat → Option (List (Nat × Co))
 | 1000195 => some [(0, .k), (3, .k)]
 | _ => none
section
variable (C : Nat → Env → (Env → Option Out) → Option Out) (N160 : Ty160)
def gam161 : List (Nat × Fn1) := [(160, adp160 N160)]
def bod161 : Code := Tryz.f161.body.getD .skip
def run161 (k : Nat) (a0 : BY) (Kt : Tk161) : Option Out := runK Tryz.prog (lookG (gam161 N160)) 4 lvs161 C k Tryz.f161 none [.s (.str a0)] (tok161 Kt)
def l1_161 (k j0 : Nat) (v0 : BY) (v3 : Int) (Kt : Tk161) : Option Out := C 1000195 ([.c (.s (.str v0)), .u, .u, .c (.s (.int .i64 v3))] ++ us 19) fun e => headK Tryz.prog (lookG (gam161 N160)) 4 lvs161 C k j0 bod161 [1, 1, 0, 0] e (fin Tryz.prog Tryz.f161 none (tok161 Kt))
theorem run161_eq (k : Nat) (a0 : BY) (Kt : Tk161) : run161 C N160 k a0 Kt =
 (l1_161 C N160 k k a0 0 Kt) := by kernel_rfl
theorem l1_161_eq (hC : Cv C) (k j0 : Nat) (v0 : BY) (v3 : Int) (Kt : Tk161) : l1_161 C N160 k (j0 + 1) v0 v3 Kt =
 (bif (decide (v3 < (v0.length : Int))) then ((at? v0 v3).bind fun b1 => (bif ((b1.toNat : Int) == 95) then (l1_161 C N160 k j0 v0 (i64.wrap (v3 + 1)) Kt) else ((at? v0 v3).bind fun b2 => (N160 (b2.toNat : Int) fun r3 => (bif r3 then (l1_161 C N160 k j0 v0 (i64.wrap (v3 + 1)) Kt) else (Kt v3)))))) else (Kt v3)) := (hC _ _ _).trans (by kernel_rfl)
end
theorem as161 {G : World → Prop} {ng : Nat} (S : Stays Tryz.prog G ng) {N160 : Ty160} (h160 : FnIs Tryz.prog G ng 160 (adp160 N160)) {A : Ty161} (hA : ∀ (a0 : BY) (Kt : Tk161) (r : Out), A a0 Kt = some r → run161 cut0 N160 big a0 Kt = some r) : FnIs Tryz.prog G ng 161 (adp161 A) := by
 refine spec_run cut0_eq S (l := gam161 N160) (by intro p hp; simp only [gam161, List.mem_cons, List.not_mem_nil, or_false] at hp; rcases hp with rfl <;> assumption) Tryz.func161 (by kernel_rfl) (nn := 4) (Lv := lvs161) (k := big) fun rc cs K r h => ?_
 unfold adp161 at h
 split at h
 ·exact ⟨_, hA _ _ _ h, fun p hp => by unfold tok161 at hp; split at hp; exact hp; cases hp⟩
 ·cases h
def lvs162 : Nat → Option (List (Nat × Co))
 | 194 => some [(0, .k), (3, .k)]
 | 322 => some [(27, .k)]
 | _ => none
section
variable (C : Nat → Env → (Env → Option Out) → Option Out) (N160 : Ty160)
def gam162 : List (Nat × Fn1) := [(160, adp160 N160)]
def bod162 : Code := Tryz.f162.body.getD .skip
def run162 (k : Nat) (a0 : BY) (Kt : Tk162) : Option Out := runK Tryz.prog (lookG (gam162 N160)) 3 lvs162 C k Tryz.f162 none [.s (.str a0)] (tok162 Kt)
def p1_162 (k : Nat) (v0 : BY) (v3 : Bool) (Kt : Tk162) : Option Out := C 194 ([.c (.s (.str v0)), .u, .u, .c (.s (.bool v3))] ++ us 37) fun e => atK Tryz.prog (lookG (gam162 N160)) 3 lvs162 C k bod162 [1, 0, 0, 1] e (fin Tryz.prog Tryz.f162 none (tok162 Kt))
def p2_162 (k : Nat) (v27 : Bool) (Kt : Tk162) : Option Out := C 322 (us 27 ++ [.c (.s (.bool v27))] ++ us 13) fun e => atK Tryz.prog (lookG (gam162 N160)) 3 lvs162 C k bod162 [1, 0, 0, 1, 1, 1] e (fin Tryz.prog Tryz.f162 none (tok162 Kt))
theorem run162_eq (k : Nat) (a0 : BY) (Kt : Tk162) : run162 C N160 k a0 Kt =
 (bif (decide ((a0.length : Int) > 2)) then ((at? a0 0).bind fun b1 => (bif ((b1.toNat : Int) == 58) then ((at? a0 1).bind fun b2 => (bif (decide ((b2.toNat : Int) ≥ 48)) then ((at? a0 1).bind fun b3 => (bif (decide ((b3.toNat : Int) ≤ 53)) then ((at? a0 2).bind fun b4 => (N160 (b4.toNat : Int) fun r5 => (p1_162 C N160 k a0 r5 Kt))) else (p1_162 C N160 k a0 false Kt))) else (p1_162 C N160 k a0 false Kt))) else (p1_162 C N160 k a0 false Kt))) else (p1_162 C N160 k a0 false Kt)) := by kernel_rfl
theorem p1_162_eq (hC : Cv C) (k : Nat) (v0 : BY) (v3 : Bool) (Kt : Tk162) : p1_162 C N160 k v0 v3 Kt =
 (bif v3 then (Kt 3) else (bif (decide ((v0.length : Int) > 1)) then ((at? v0 0).bind fun b6 => (bif ((b6.toNat : Int) == 58) then ((at? v0 1).bind fun b7 => (N160 (b7.toNat : Int) fun r8 => (p2_162 C N160 k r8 Kt))) else (p2_162 C N160 k false Kt))) else (p2_162 C N160 k false Kt))) := (hC _ _ _).trans (by kernel_rfl)
theorem p2_162_eq (hC : Cv C) (k : Nat) (v27 : Bool) (Kt : Tk162) : p2_162 C N160 k v27 Kt =
 (bif v27 then (Kt 2) else (Kt 0)) := (hC _ _ _).trans (by kernel_rfl)
end
theorem as162 {G : World → Prop} {ng : Nat} (S : Stays Tryz.prog G ng) {N160 : Ty160} (h160 : FnIs Tryz.prog G ng 160 (adp160 N160)) {A : Ty162} (hA : ∀ (a0 : BY) (Kt : Tk162) (r : Out), A a0 Kt = some r → run162 cut0 N160 big a0 Kt = some r) : FnIs Tryz.prog G ng 162 (adp162 A) := by
 refine spec_run cut0_eq S (l := gam162 N160) (by intro p hp; simp only [gam162, List.mem_cons, List.not_mem_nil, or_false] at hp; rcases hp with rfl <;> assumption) Tryz.func162 (by kernel_rfl) (nn := 3) (Lv := lvs162) (k := big) fun rc cs K r h => ?_
 unfold adp162 at h
 split at h
 ·exact ⟨_, hA _ _ _ h, fun p hp => by unfold tok162 at hp; split at hp; exact hp; cases hp⟩
 ·cases h
end
end Go.Proofs.YtffmgholjdfcnaaGreatDoor
set_option maxRecDepth 100000
set_option linter.unusedVariables false
namespace Go.Proofs.YtffmgholjdfcnaaGreatDoor
open Go Go.Proofs AM
open Go.IntKind (i64 u8)
noncomputable section
section
variable (C : Nat → Env → (Env → Option Out) → Option Out) (N44 : Ty44) (N45 : Ty45)
end
section
variable (C : Nat → Env → (Env → Option Out) → Option Out) (N44 : Ty44) (N69 : Ty69) (N70 : Ty70) (N71 : Ty71) (N72 : Ty72) (N73 : Ty73) (N74 : Ty74) (N75 : Ty75) (N76 : Ty76) (N77 : Ty77)
end
def lvs70 : Nat → Option (List (Nat × Co))
 | _ => none
section
variable (C : Nat → Env → (Env → Option Out) → Option Out)
def gam70 : List (Nat × Fn1) := []
def run70 (k : Nat) (a0 : Bool) (Kt : Tk70) : Option Out := runK Tryz.prog (lookG (gam70)) 3 lvs70 C k Tryz.f70 none [.s (.bool a0)] (tok70 Kt)
theorem run70_eq (k : Nat) (a0 : Bool) (Kt : Tk70) : run70 C k a0 Kt =
 (bif a0 then (Kt ([116, 114, 117, 101] : BY)) else (Kt ([102, 97, 108, 115, 101] : BY))) := by kernel_rfl
end
theorem as70 {G : World → Prop} {ng : Nat} (S : Stays Tryz.prog G ng) {A : Ty70} (hA : ∀ (a0 : Bool) (Kt : Tk70) (r : Out), A a0 Kt = some r → run70 cut0 big a0 Kt = some r) : FnIs Tryz.prog G ng 70 (adp70 A) := by
 refine spec_run cut0_eq S (l := gam70) (by intro p hp; cases hp) Tryz.func70 (by kernel_rfl) (nn := 3) (Lv := lvs70) (k := big) fun rc cs K r h => ?_
 unfold adp70 at h
 split at h
 ·exact ⟨_, hA _ _ _ h, fun p hp => by unfold tok70 at hp; split at hp; exact hp; cases hp⟩
 ·cases h
section
variable (C : Nat → Env → (Env → Option Out) → Option Out)
end
section
variable (C : Nat → Env → (Env → Option Out) → Option Out)
end
section
variable (C : Nat → Env → (Env → Option Out) → Option Out) (N113 : Ty113) (N114 : Ty114) (N115 : Ty115)
end
def lvs72 : Nat → Option (List (Nat × Co))
 | 258 => some [(4, .k), (5, .k), (27, .k)]
 | 450 => some [(4, .k), (5, .k), (6, .k), (7, .k), (8, .k)]
 | 577 => some [(5, .k), (6, .k), (7, .k), (8, .k)]
 | 1026 => some [(4, .k), (5, .k), (57, .k)]
 | _ => none
section
variable (C : Nat → Env → (Env → Option Out) → Option Out) (N113 : Ty113) (N114 : Ty114) (N115 : Ty115) (N116 : Ty116) (N117 : Ty117)
def gam72 : List (Nat × Fn1) := [(113, adp113 N113), (114, adp114 N114), (115, adp115 N115), (116, adp116 N116), (117, adp117 N117)]
def bod72 : Code := Tryz.f72.body.getD .skip
def run72 (k : Nat) (a0 : BY) (Kt : Tk72) : Option Out := runK Tryz.prog (lookG (gam72 N113 N114 N115 N116 N117)) 4 lvs72 C k Tryz.f72 none [.s (.str a0)] (tok72 Kt)
def p1_72 (k : Nat) (v4 : BY) (v5 v27 : Bool) (Kt : Tk72) : Option Out := C 258 ([.u, .u, .u, .u, .c (.s (.str v4)), .c (.s (.bool v5))] ++ us 21 ++ [.c (.s (.bool v27))] ++ us 60) fun e => atK Tryz.prog (lookG (gam72 N113 N114 N115 N116 N117)) 4 lvs72 C k bod72 [1, 1, 0, 1] e (fin Tryz.prog Tryz.f72 none (tok72 Kt))
def p2_72 (k : Nat) (v4 : BY) (v5 : Bool) (v6 : Int) (v7 : BY) (v8 : Int) (Kt : Tk72) : Option Out := C 450 ([.u, .u, .u, .u, .c (.s (.str v4)), .c (.s (.bool v5)), .c (.s (.int .i64 v6)), .c (.s (.str v7)), .c (.s (.int .i64 v8))] ++ us 79) fun e => atK Tryz.prog (lookG (gam72 N113 N114 N115 N116 N117)) 4 lvs72 C k bod72 [1, 1, 0, 1, 0, 1, 1] e (fin Tryz.prog Tryz.f72 none (tok72 Kt))
def p3_72 (k : Nat) (v4 : BY) (v5 v57 : Bool) (Kt : Tk72) : Option Out := C 1026 ([.u, .u, .u, .u, .c (.s (.str v4)), .c (.s (.bool v5))] ++ us 51 ++ [.c (.s (.bool v57))] ++ us 30) fun e => atK Tryz.prog (lookG (gam72 N113 N114 N115 N116 N117)) 4 lvs72 C k bod72 [1, 1, 1, 0, 0, 1, 1, 1] e (fin Tryz.prog Tryz.f72 none (tok72 Kt))
def p4_72 (k : Nat) (v5 : Bool) (v6 : Int) (v7 : BY) (v8 : Int) (Kt : Tk72) : Option Out := C 577 ([.u, .u, .u, .u, .u, .c (.s (.bool v5)), .c (.s (.int .i64 v6)), .c (.s (.str v7)), .c (.s (.int .i64 v8))] ++ us 79) fun e => atK Tryz.prog (lookG (gam72 N113 N114 N115 N116 N117)) 4 lvs72 C k bod72 [1, 1, 0, 1, 0, 1, 1, 1] e (fin Tryz.prog Tryz.f72 none (tok72 Kt))
theorem run72_eq (k : Nat) (a0 : BY) (Kt : Tk72) : run72 C N113 N114 N115 N116 N117 k a0 Kt =
 (N114 a0 fun r1 r2 => (bif (decide ((r1.length : Int) ≥ 2)) then ((at? r1 0).bind fun b3 => (p1_72 C N113 N114 N115 N116 N117 k r1 r2 ((b3.toNat : Int) == 48) Kt)) else (p1_72 C N113 N114 N115 N116 N117 k r1 r2 false Kt))) := by kernel_rfl
theorem p1_72_eq (hC : Cv C) (k : Nat) (v4 : BY) (v5 v27 : Bool) (Kt : Tk72) : p1_72 C N113 N114 N115 N116 N117 k v4 v5 v27 Kt =
 (bif v27 then ((cut v4 (some (1 : Int)) none).bind fun s4 => ((at? v4 1).bind fun b5 => (bif ((b5.toNat : Int) == 98) then ((cut v4 (some (2 : Int)) none).bind fun s6 => (p2_72 C N113 N114 N115 N116 N117 k v4 v5 2 s6 1 Kt)) else (p2_72 C N113 N114 N115 N116 N117 k v4 v5 8 s4 3 Kt)))) else (bif (v4 == ([48] : BY)) then (Kt ([48] : BY) 4) else (bif (v4 == ([] : BY)) then (p3_72 C N113 N114 N115 N116 N117 k v4 v5 true Kt) else ((at? v4 0).bind fun b7 => (bif (decide ((b7.toNat : Int) < 49)) then (p3_72 C N113 N114 N115 N116 N117 k v4 v5 true Kt) else ((at? v4 0).bind fun b8 => (p3_72 C N113 N114 N115 N116 N117 k v4 v5 (decide ((b8.toNat : Int) > 57)) Kt))))))) := (hC _ _ _).trans (by kernel_rfl)
theorem p2_72_eq (hC : Cv C) (k : Nat) (v4 : BY) (v5 : Bool) (v6 : Int) (v7 : BY) (v8 : Int) (Kt : Tk72) : p2_72 C N113 N114 N115 N116 N117 k v4 v5 v6 v7 v8 Kt =
 ((at? v4 1).bind fun b9 => (bif ((b9.toNat : Int) == 120) then ((cut v4 (some (2 : Int)) none).bind fun s10 => (p4_72 C N113 N114 N115 N116 N117 k v5 16 s10 2 Kt)) else (p4_72 C N113 N114 N115 N116 N117 k v5 v6 v7 v8 Kt))) := (hC _ _ _).trans (by kernel_rfl)
theorem p3_72_eq (hC : Cv C) (k : Nat) (v4 : BY) (v5 v57 : Bool) (Kt : Tk72) : p3_72 C N113 N114 N115 N116 N117 k v4 v5 v57 Kt =
 (bif v57 then (Kt ([] : BY) 0) else (N116 v4 10 fun r11 r12 => (bif r12 then (N115 v5 r11 fun r13 => (Kt r13 5)) else (N117 v4 fun r14 r15 => (bif r15 then (N115 v5 r14 fun r16 => (Kt r16 6)) else (Kt ([] : BY) 0)))))) := (hC _ _ _).trans (by kernel_rfl)
theorem p4_72_eq (hC : Cv C) (k : Nat) (v5 : Bool) (v6 : Int) (v7 : BY) (v8 : Int) (Kt : Tk72) : p4_72 C N113 N114 N115 N116 N117 k v5 v6 v7 v8 Kt =
 (N116 v7 v6 fun r17 r18 => (bif (!r18) then (Kt ([] : BY) 0) else (N113 r17 v6 fun r19 => (N115 v5 r19 fun r20 => (Kt r20 v8))))) := (hC _ _ _).trans (by kernel_rfl)
end
theorem as72 {G : World → Prop} {ng : Nat} (S : Stays Tryz.prog G ng) {N113 : Ty113} {N114 : Ty114} {N115 : Ty115} {N116 : Ty116} {N117 : Ty117} (h113 : FnIs Tryz.prog G ng 113 (adp113 N113)) (h114 : FnIs Tryz.prog G ng 114 (adp114 N114)) (h115 : FnIs Tryz.prog G ng 115 (adp115 N115)) (h116 : FnIs Tryz.prog G ng 116 (adp116 N116)) (h117 : FnIs Tryz.prog G ng 117 (adp117 N117)) {A : Ty72} (hA : ∀ (a0 : BY) (Kt : Tk72) (r : Out), A a0 Kt = some r → run72 cut0 N113 N114 N115 N116 N117 big a0 Kt = some r) : FnIs Tryz.prog G ng 72 (adp72 A) := by
 refine spec_run cut0_eq S (l := gam72 N113 N114 N115 N116 N117) (by intro p hp; simp only [gam72, List.mem_cons, List.not_mem_nil, or_false] at hp; rcases hp with rfl | rfl | rfl | rfl | rfl <;> assumption) Tryz.func72 (by kernel_rfl) (nn := 4) (Lv := lvs72) (k := big) fun rc cs K r h => ?_
 unfold adp72 at h
 split at h
 ·exact ⟨_, hA _ _ _ h, fun p hp => by unfold tok72 at hp; split at hp; exact hp; cases hp⟩
 ·cases h
section
variable (C : Nat → Env → (Env → Option Out) → Option Out) (N71 : Ty71) (N92 : Ty92) (N114 : Ty114) (N118 : Ty118) (N119 : Ty119) (N120 : Ty120)
end
def lvs75 : Nat → Option (List (Nat × Co))
 | 1665 => some [(2, .k), (5, .k), (8, .k), (9, .k), (10, .k), (11, .k), (12, .k), (13, .k), (15, .k), (16, .k), (18, .k)]
 | 1730 => some [(2, .k), (5, .k), (8, .k), (11, .k), (12, .k), (13, .k), (15, .k), (16, .k), (123, .k)]
 | 1794 => some [(2, .k), (5, .k), (8, .k), (11, .k), (12, .k), (13, .k), (15, .k), (16, .k)]
 | 1858 => some [(2, .k), (5, .k), (11, .k), (13, .k), (15, .k), (16, .k), (130, .k)]
 | 1000707 => some [(2, .k), (4, .k), (5, .k), (8, .k), (9, .k), (10, .k)]
 | _ => none
section
variable (C : Nat → Env → (Env → Option Out) → Option Out) (N92 : Ty92) (N114 : Ty114) (N116 : Ty116) (N117 : Ty117) (N118 : Ty118) (N119 : Ty119) (N120 : Ty120) (N122 : Ty122)
def gam75 : List (Nat × Fn1) := [(92, adp92 N92), (114, adp114 N114), (116, adp116 N116), (117, adp117 N117), (118, adp118 N118), (119, adp119 N119), (120, adp120 N120), (122, adp122 N122)]
def bod75 : Code := Tryz.f75.body.getD .skip
def run75 (k : Nat) (a0 : BY) (Kt : Tk75) : Option Out := runK Tryz.prog (lookG (gam75 N92 N114 N116 N117 N118 N119 N120 N122)) 4 lvs75 C k Tryz.f75 none [.s (.str a0)] (tok75 Kt)
def l1_75 (k j0 : Nat) (v2_0 : Int) (v2_1 : Bool) (v2_2 v2_3 v4 : BY) (v5 : Bool) (v8 : Int) (v9 : BY) (v10 : Int) (Kt : Tk75) : Option Out := C 1000707 ([.u, .u, .box 91 (.ss [.int .i64 v2_0, .bool v2_1, .str v2_2, .str v2_3]), .u, .c (.s (.str v4)), .c (.s (.bool v5)), .u, .u, .c (.s (.int .i64 v8)), .c (.s (.str v9)), .c (.s (.int .i64 v10))] ++ us 131) fun e => headK Tryz.prog (lookG (gam75 N92 N114 N116 N117 N118 N119 N120 N122)) 4 lvs75 C k j0 bod75 [1, 1, 1, 1, 1, 1, 1, 0, 0] e (fin Tryz.prog Tryz.f75 none (tok75 Kt))
def p2_75 (k : Nat) (v2_0 : Int) (v2_1 : Bool) (v2_2 v2_3 : BY) (v5 : Bool) (v8 : Int) (v9 : BY) (v10 : Int) (v11 : BY) (v12 : Bool) (v13 v15 : BY) (v16 : Int) (v18 : Bool) (Kt : Tk75) : Option Out := C 1665 ([.u, .u, .box 91 (.ss [.int .i64 v2_0, .bool v2_1, .str v2_2, .str v2_3]), .u, .u, .c (.s (.bool v5)), .u, .u, .c (.s (.int .i64 v8)), .c (.s (.str v9)), .c (.s (.int .i64 v10)), .c (.s (.str v11)), .c (.s (.bool v12)), .c (.s (.str v13)), .u, .c (.s (.str v15)), .c (.s (.int .i64 v16)), .u, .c (.s (.bool v18))] ++ us 123) fun e => atK Tryz.prog (lookG (gam75 N92 N114 N116 N117 N118 N119 N120 N122)) 4 lvs75 C k bod75 [1, 1, 1, 1, 1, 1, 1, 1, 1, 1, 1, 1, 0, 1, 0, 1, 1, 1, 1] e (fin Tryz.prog Tryz.f75 none (tok75 Kt))
def p3_75 (k : Nat) (v2_0 : Int) (v2_1 : Bool) (v2_2 v2_3 : BY) (v5 : Bool) (v8 : Int) (v11 : BY) (v12 : Bool) (v13 v15 : BY) (v16 : Int) (Kt : Tk75) : Option Out := C 1794 ([.u, .u, .box 91 (.ss [.int .i64 v2_0, .bool v2_1, .str v2_2, .str v2_3]), .u, .u, .c (.s (.bool v5)), .u, .u, .c (.s (.int .i64 v8)), .u, .u, .c (.s (.str v11)), .c (.s (.bool v12)), .c (.s (.str v13)), .u, .c (.s (.str v15)), .c (.s (.int .i64 v16))] ++ us 125) fun e => atK Tryz.prog (lookG (gam75 N92 N114 N116 N117 N118 N119 N120 N122)) 4 lvs75 C k bod75 [1, 1, 1, 1, 1, 1, 1, 1, 1, 1, 1, 1, 1] e (fin Tryz.prog Tryz.f75 none (tok75 Kt))
def p4_75 (k : Nat) (v2_0 : Int) (v2_1 : Bool) (v2_2 v2_3 : BY) (v5 : Bool) (v8 : Int) (v11 : BY) (v12 : Bool) (v13 v15 : BY) (v16 : Int) (v123 : Bool) (Kt : Tk75) : Option Out := C 1730 ([.u, .u, .box 91 (.ss [.int .i64 v2_0, .bool v2_1, .str v2_2, .str v2_3]), .u, .u, .c (.s (.bool v5)), .u, .u, .c (.s (.int .i64 v8)), .u, .u, .c (.s (.str v11)), .c (.s (.bool v12)), .c (.s (.str v13)), .u, .c (.s (.str v15)), .c (.s (.int .i64 v16))] ++ us 106 ++ [.c (.s (.bool v123))] ++ us 18) fun e => atK Tryz.prog (lookG (gam75 N92 N114 N116 N117 N118 N119 N120 N122)) 4 lvs75 C k bod75 [1, 1, 1, 1, 1, 1, 1, 1, 1, 1, 1, 1, 0, 1, 0, 1, 1, 1, 1, 1] e (fin Tryz.prog Tryz.f75 none (tok75 Kt))
def p5_75 (k : Nat) (v2_0 : Int) (v2_1 : Bool) (v2_2 v2_3 : BY) (v5 : Bool) (v11 v13 v15 : BY) (v16 : Int) (v130 : Bool) (Kt : Tk75) : Option Out := C 1858 ([.u, .u, .box 91 (.ss [.int .i64 v2_0, .bool v2_1, .str v2_2, .str v2_3]), .u, .u, .c (.s (.bool v5)), .u, .u, .u, .u, .u, .c (.s (.str v11)), .u, .c (.s (.str v13)), .u, .c (.s (.str v15)), .c (.s (.int .i64 v16))] ++ us 113 ++ [.c (.s (.bool v130))] ++ us 11) fun e => atK Tryz.prog (lookG (gam75 N92 N114 N116 N117 N118 N119 N120 N122)) 4 lvs75 C k bod75 [1, 1, 1, 1, 1, 1, 1, 1, 1, 1, 1, 1, 1, 0, 1] e (fin Tryz.prog Tryz.f75 none (tok75 Kt))
theorem run75_eq (k : Nat) (a0 : BY) (Kt : Tk75) : run75 C N92 N114 N116 N117 N118 N119 N120 N122 k a0 Kt =
 (N114 a0 fun r1 r2 => (N118 r1 r2 (decide ((r1.length : Int) < (a0.length : Int))) fun r3 r4 r5 r6 r7 => (bif r7 then (Kt r3 r4 r5 r6 (i64.wrap ((i64.wrap ((4 : Int) + r3)) - 1))) else (N122 r1 46 fun r8 => (bif (decide (r8 < 0)) then (Kt 0 false ([] : BY) ([] : BY) 0) else ((cut r1 (some (i64.wrap (r8 + 1))) none).bind fun s9 => (l1_75 C N92 N114 N116 N117 N118 N119 N120 N122 k k 0 false ([] : BY) ([] : BY) r1 r2 r8 s9 0 Kt))))))) := by kernel_rfl
theorem l1_75_eq (hC : Cv C) (k j0 : Nat) (v2_0 : Int) (v2_1 : Bool) (v2_2 v2_3 v4 : BY) (v5 : Bool) (v8 : Int) (v9 : BY) (v10 : Int) (Kt : Tk75) : l1_75 C N92 N114 N116 N117 N118 N119 N120 N122 k (j0 + 1) v2_0 v2_1 v2_2 v2_3 v4 v5 v8 v9 v10 Kt =
 (bif (decide (v10 < (v9.length : Int))) then ((at? v9 v10).bind fun b10 => (N92 (b10.toNat : Int) fun r11 => (bif r11 then (l1_75 C N92 N114 N116 N117 N118 N119 N120 N122 k j0 v2_0 v2_1 v2_2 v2_3 v4 v5 v8 v9 (i64.wrap (v10 + 1)) Kt) else ((at? v9 v10).bind fun b12 => (bif ((b12.toNat : Int) == 95) then (l1_75 C N92 N114 N116 N117 N118 N119 N120 N122 k j0 v2_0 v2_1 v2_2 v2_3 v4 v5 v8 v9 (i64.wrap (v10 + 1)) Kt) else ((cut v9 none (some v10)).bind fun s13 => (N116 s13 10 fun r14 r15 => ((cut v9 (some v10) none).bind fun s16 => (N119 s16 false fun r17 r18 => (bif (!r18) then (Kt 0 false ([] : BY) ([] : BY) 0) else (bif (decide (v8 > 0)) then ((at? v4 0).bind fun b19 => (N92 (b19.toNat : Int) fun r20 => (bif (!r20) then (Kt 0 false ([] : BY) ([] : BY) 0) else ((cut v4 none (some v8)).bind fun s21 => (N116 s21 10 fun r22 r23 => (bif (!r23) then ((cut v4 none (some v8)).bind fun s24 => (N117 s24 fun r25 r26 => (p2_75 C N92 N114 N116 N117 N118 N119 N120 N122 k v2_0 v2_1 v2_2 v2_3 v5 v8 v9 v10 r14 r15 r17 r25 3 r26 Kt))) else (p2_75 C N92 N114 N116 N117 N118 N119 N120 N122 k v2_0 v2_1 v2_2 v2_3 v5 v8 v9 v10 r14 r15 r17 r22 1 r23 Kt))))))) else (p3_75 C N92 N114 N116 N117 N118 N119 N120 N122 k v2_0 v2_1 v2_2 v2_3 v5 v8 r14 r15 r17 ([] : BY) 2 Kt)))))))))))) else ((cut v9 none (some v10)).bind fun s27 => (N116 s27 10 fun r28 r29 => ((cut v9 (some v10) none).bind fun s30 => (N119 s30 false fun r31 r32 => (bif (!r32) then (Kt 0 false ([] : BY) ([] : BY) 0) else (bif (decide (v8 > 0)) then ((at? v4 0).bind fun b33 => (N92 (b33.toNat : Int) fun r34 => (bif (!r34) then (Kt 0 false ([] : BY) ([] : BY) 0) else ((cut v4 none (some v8)).bind fun s35 => (N116 s35 10 fun r36 r37 => (bif (!r37) then ((cut v4 none (some v8)).bind fun s38 => (N117 s38 fun r39 r40 => (p2_75 C N92 N114 N116 N117 N118 N119 N120 N122 k v2_0 v2_1 v2_2 v2_3 v5 v8 v9 v10 r28 r29 r31 r39 3 r40 Kt))) else (p2_75 C N92 N114 N116 N117 N118 N119 N120 N122 k v2_0 v2_1 v2_2 v2_3 v5 v8 v9 v10 r28 r29 r31 r36 1 r37 Kt))))))) else (p3_75 C N92 N114 N116 N117 N118 N119 N120 N122 k v2_0 v2_1 v2_2 v2_3 v5 v8 r28 r29 r31 ([] : BY) 2 Kt)))))))) := (hC _ _ _).trans (by kernel_rfl)
theorem p2_75_eq (hC : Cv C) (k : Nat) (v2_0 : Int) (v2_1 : Bool) (v2_2 v2_3 : BY) (v5 : Bool) (v8 : Int) (v9 : BY) (v10 : Int) (v11 : BY) (v12 : Bool) (v13 v15 : BY) (v16 : Int) (v18 : Bool) (Kt : Tk75) : p2_75 C N92 N114 N116 N117 N118 N119 N120 N122 k v2_0 v2_1 v2_2 v2_3 v5 v8 v9 v10 v11 v12 v13 v15 v16 v18 Kt =
 (bif (!v18) then (p4_75 C N92 N114 N116 N117 N118 N119 N120 N122 k v2_0 v2_1 v2_2 v2_3 v5 v8 v11 v12 v13 v15 v16 true Kt) else (bif (v16 == 3) then (p4_75 C N92 N114 N116 N117 N118 N119 N120 N122 k v2_0 v2_1 v2_2 v2_3 v5 v8 v11 v12 v13 v15 v16 (decide (v10 < (v9.length : Int))) Kt) else (p4_75 C N92 N114 N116 N117 N118 N119 N120 N122 k v2_0 v2_1 v2_2 v2_3 v5 v8 v11 v12 v13 v15 v16 false Kt))) := (hC _ _ _).trans (by kernel_rfl)
theorem p3_75_eq (hC : Cv C) (k : Nat) (v2_0 : Int) (v2_1 : Bool) (v2_2 v2_3 : BY) (v5 : Bool) (v8 : Int) (v11 : BY) (v12 : Bool) (v13 v15 : BY) (v16 : Int) (Kt : Tk75) : p3_75 C N92 N114 N116 N117 N118 N119 N120 N122 k v2_0 v2_1 v2_2 v2_3 v5 v8 v11 v12 v13 v15 v16 Kt =
 (bif (v8 == 0) then (p5_75 C N92 N114 N116 N117 N118 N119 N120 N122 k v2_0 v2_1 v2_2 v2_3 v5 v11 v13 v15 v16 (!v12) Kt) else (p5_75 C N92 N114 N116 N117 N118 N119 N120 N122 k v2_0 v2_1 v2_2 v2_3 v5 v11 v13 v15 v16 false Kt)) := (hC _ _ _).trans (by kernel_rfl)
theorem p4_75_eq (hC : Cv C) (k : Nat) (v2_0 : Int) (v2_1 : Bool) (v2_2 v2_3 : BY) (v5 : Bool) (v8 : Int) (v11 : BY) (v12 : Bool) (v13 v15 : BY) (v16 : Int) (v123 : Bool) (Kt : Tk75) : p4_75 C N92 N114 N116 N117 N118 N119 N120 N122 k v2_0 v2_1 v2_2 v2_3 v5 v8 v11 v12 v13 v15 v16 v123 Kt =
 (bif v123 then (Kt 0 false ([] : BY) ([] : BY) 0) else (p3_75 C N92 N114 N116 N117 N118 N119 N120 N122 k v2_0 v2_1 v2_2 v2_3 v5 v8 v11 v12 v13 v15 v16 Kt)) := (hC _ _ _).trans (by kernel_rfl)
theorem p5_75_eq (hC : Cv C) (k : Nat) (v2_0 : Int) (v2_1 : Bool) (v2_2 v2_3 : BY) (v5 : Bool) (v11 v13 v15 : BY) (v16 : Int) (v130 : Bool) (Kt : Tk75) : p5_75 C N92 N114 N116 N117 N118 N119 N120 N122 k v2_0 v2_1 v2_2 v2_3 v5 v11 v13 v15 v16 v130 Kt =
 (bif v130 then (Kt 0 false ([] : BY) ([] : BY) 0) else (N120 v5 v15 v11 v13 fun r41 r42 r43 r44 r45 => (Kt r41 r42 r43 r44 v16))) := (hC _ _ _).trans (by kernel_rfl)
end
theorem as75 {G : World → Prop} {ng : Nat} (S : Stays Tryz.prog G ng) {N92 : Ty92} {N114 : Ty114} {N116 : Ty116} {N117 : Ty117} {N118 : Ty118} {N119 : Ty119} {N120 : Ty120} {N122 : Ty122} (h92 : FnIs Tryz.prog G ng 92 (adp92 N92)) (h114 : FnIs Tryz.prog G ng 114 (adp114 N114)) (h116 : FnIs Tryz.prog G ng 116 (adp116 N116)) (h117 : FnIs Tryz.prog G ng 117 (adp117 N117)) (h118 : FnIs Tryz.prog G ng 118 (adp118 N118)) (h119 : FnIs Tryz.prog G ng 119 (adp119 N119)) (h120 : FnIs Tryz.prog G ng 120 (adp120 N120)) (h122 : FnIs Tryz.prog G ng 122 (adp122 N122)) {A : Ty75} (hA : ∀ (a0 : BY) (Kt : Tk75) (r : Out), A a0 Kt = some r → run75 cut0 N92 N114 N116 N117 N118 N119 N120 N122 big a0 Kt = some r) : FnIs Tryz.prog G ng 75 (adp75 A) := by
 refine spec_run cut0_eq S (l := gam75 N92 N114 N116 N117 N118 N119 N120 N122) (by intro p hp; simp only [gam75, List.mem_cons, List.not_mem_nil, or_false] at hp; rcases hp with rfl | rfl | rfl | rfl | rfl | rfl | rfl | rfl <;> assumption) Tryz.func75 (by kernel_rfl) (nn := 4) (Lv := lvs75) (k := big) fun rc cs K r h => ?_
 unfold adp75 at h
 split at h
 ·exact ⟨_, hA _ _ _ h, fun p hp => by unfold tok75 at hp; split at hp; exact hp; cases hp⟩
 ·cases h
def lvs114 : Nat → Option (List (Nat × Co))
 | 194 => some [(0, .k), (16, .k)]
 | _ => none
section
variable (C : Nat → Env → (Env → Option Out) → Option Out)
def gam114 : List (Nat × Fn1) := []
def bod114 : Code := Tryz.f114.body.getD .skip
def run114 (k : Nat) (a0 : BY) (Kt : Tk114) : Option Out := runK Tryz.prog (lookG (gam114)) 4 lvs114 C k Tryz.f114 none [.s (.str a0)] (tok114 Kt)
def p1_114 (k : Nat) (v0 : BY) (v16 : Bool) (Kt : Tk114) : Option Out := C 194 ([.c (.s (.str v0))] ++ us 15 ++ [.c (.s (.bool v16))] ++ us 6) fun e => atK Tryz.prog (lookG (gam114)) 4 lvs114 C k bod114 [1, 0, 1] e (fin Tryz.prog Tryz.f114 none (tok114 Kt))
theorem run114_eq (k : Nat) (a0 : BY) (Kt : Tk114) : run114 C k a0 Kt =
 (bif (decide ((a0.length : Int) > 0)) then ((at? a0 0).bind fun b1 => (bif ((b1.toNat : Int) == 43) then (p1_114 C k a0 true Kt) else ((at? a0 0).bind fun b2 => (p1_114 C k a0 ((b2.toNat : Int) == 45) Kt)))) else (p1_114 C k a0 false Kt)) := by kernel_rfl
theorem p1_114_eq (hC : Cv C) (k : Nat) (v0 : BY) (v16 : Bool) (Kt : Tk114) : p1_114 C k v0 v16 Kt =
 (bif v16 then ((cut v0 (some (1 : Int)) none).bind fun s3 => ((at? v0 0).bind fun b4 => (Kt s3 ((b4.toNat : Int) == 45)))) else (Kt v0 false)) := (hC _ _ _).trans (by kernel_rfl)
end
theorem as114 {G : World → Prop} {ng : Nat} (S : Stays Tryz.prog G ng) {A : Ty114} (hA : ∀ (a0 : BY) (Kt : Tk114) (r : Out), A a0 Kt = some r → run114 cut0 big a0 Kt = some r) : FnIs Tryz.prog G ng 114 (adp114 A) := by
 refine spec_run cut0_eq S (l := gam114) (by intro p hp; cases hp) Tryz.func114 (by kernel_rfl) (nn := 4) (Lv := lvs114) (k := big) fun rc cs K r h => ?_
 unfold adp114 at h
 split at h
 ·exact ⟨_, hA _ _ _ h, fun p hp => by unfold tok114 at hp; split at hp; exact hp; cases hp⟩
 ·cases h
def lvs116 : Nat → Option (List (Nat × Co))
 | 320 => some [(0, .k), (1, .k), (6, .o (.ints .u8 [])), (7, .k)]
 | 1000259 => some [(0, .k), (1, .k), (6, .o (.ints .u8 [])), (7, .k)]
 | _ => none
section
variable (C : Nat → Env → (Env → Option Out) → Option Out) (N90 : Ty90)
def gam116 : List (Nat × Fn1) := [(90, adp90 N90)]
def bod116 : Code := Tryz.f116.body.getD .skip
def run116 (k : Nat) (a0 : BY) (a1 : Int) (Kt : Tk116) : Option Out := runK Tryz.prog (lookG (gam116 N90)) 8 lvs116 C k Tryz.f116 none [.s (.str a0), .s (.int .i64 a1)] (tok116 Kt)
def l1_116 (k j0 : Nat) (v0 : BY) (v1 : Int) (v6 : List Int) (v7 : Int) (Kt : Tk116) : Option Out := C 1000259 ([.c (.s (.str v0)), .c (.s (.int .i64 v1)), .u, .u, .u, .u, .c (.own (.ints .u8 v6)), .c (.s (.int .i64 v7))] ++ us 27) fun e => headK Tryz.prog (lookG (gam116 N90)) 8 lvs116 C k j0 bod116 [1, 1, 0, 1, 0] e (fin Tryz.prog Tryz.f116 none (tok116 Kt))
def p2_116 (k j0 : Nat) (v0 : BY) (v1 : Int) (v6 : List Int) (v7 : Int) (Kt : Tk116) : Option Out := C 320 ([.c (.s (.str v0)), .c (.s (.int .i64 v1)), .u, .u, .u, .u, .c (.own (.ints .u8 v6)), .c (.s (.int .i64 v7))] ++ us 27) fun e => atK Tryz.prog (lookG (gam116 N90)) 8 lvs116 C k bod116 [1, 1, 0, 1, 0, j0, 1, 1] e (fin Tryz.prog Tryz.f116 none (tok116 Kt))
theorem run116_eq (k : Nat) (a0 : BY) (a1 : Int) (Kt : Tk116) : run116 C N90 k a0 a1 Kt =
 (l1_116 C N90 k k a0 a1 ([] : List Int) 0 Kt) := by kernel_rfl
theorem l1_116_eq (hC : Cv C) (k j0 : Nat) (v0 : BY) (v1 : Int) (v6 : List Int) (v7 : Int) (Kt : Tk116) : l1_116 C N90 k (j0 + 1) v0 v1 v6 v7 Kt =
 (bif (decide (v7 < (v0.length : Int))) then ((at? v0 v7).bind fun b1 => (bif ((b1.toNat : Int) == 95) then (p2_116 C N90 k j0 v0 v1 v6 v7 Kt) else ((at? v0 v7).bind fun b2 => (N90 (b2.toNat : Int) fun r3 => (bif (decide (r3 ≥ v1)) then (Kt ([] : BY) false) else ((at? v0 v7).bind fun b4 => (bif decide ((v6 ++ ([(b4.toNat : Int)] : List Int)).length ≤ 1099511627776) then (p2_116 C N90 k j0 v0 v1 (v6 ++ ([(b4.toNat : Int)] : List Int)) v7 Kt) else none))))))) else (Kt (v6.map fun n => UInt8.ofNat n.toNat) (decide ((v6.length : Int) > 0)))) := (hC _ _ _).trans (by kernel_rfl)
theorem p2_116_eq (hC : Cv C) (k j0 : Nat) (v0 : BY) (v1 : Int) (v6 : List Int) (v7 : Int) (Kt : Tk116) : p2_116 C N90 k j0 v0 v1 v6 v7 Kt =
 (l1_116 C N90 k j0 v0 v1 v6 (i64.wrap (v7 + 1)) Kt) := (hC _ _ _).trans (by kernel_rfl)
end
theorem as116 {G : World → Prop} {ng : Nat} (S : Stays Tryz.prog G ng) {N90 : Ty90} (h90 : FnIs Tryz.prog G ng 90 (adp90 N90)) {A : Ty116} (hA : ∀ (a0 : BY) (a1 : Int) (Kt : Tk116) (r : Out), A a0 a1 Kt = some r → run116 cut0 N90 big a0 a1 Kt = some r) : FnIs Tryz.prog G ng 116 (adp116 A) := by
 refine spec_run cut0_eq S (l := gam116 N90) (by intro p hp; simp only [gam116, List.mem_cons, List.not_mem_nil, or_false] at hp; rcases hp with rfl <;> assumption) Tryz.func116 (by kernel_rfl) (nn := 8) (Lv := lvs116) (k := big) fun rc cs K r h => ?_
 unfold adp116 at h
 split at h
 ·exact ⟨_, hA _ _ _ _ h, fun p hp => by unfold tok116 at hp; split at hp; exact hp; cases hp⟩
 ·cases h
def lvs117 : Nat → Option (List (Nat × Co))
 | 258 => some [(0, .k), (4, .k), (21, .k)]
 | 897 => some [(0, .k), (4, .k), (7, .k), (8, .k), (9, .k)]
 | 1000579 => some [(0, .k), (4, .k), (7, .k)]
 | 1001219 => some [(0, .k), (4, .k), (7, .k), (8, .k), (9, .k), (10, .k), (11, .k), (54, .k), (55, .k), (56, .k), (59, .k), (60, .k), (61, .k), (62, .k), (66, .k)]
 | _ => none
section
variable (C : Nat → Env → (Env → Option Out) → Option Out) (N92 : Ty92) (N115 : Ty115) (N116 : Ty116) (N122 : Ty122) (N174 : Ty174) (N175 : Ty175)
def gam117 : List (Nat × Fn1) := [(92, adp92 N92), (115, adp115 N115), (116, adp116 N116), (122, adp122 N122), (174, adp174 N174), (175, adp175 N175)]
def bod117 : Code := Tryz.f117.body.getD .skip
def run117 (k : Nat) (a0 : BY) (Kt : Tk117) : Option Out := runK Tryz.prog (lookG (gam117 N92 N115 N116 N122 N174 N175)) 4 lvs117 C k Tryz.f117 none [.s (.str a0)] (tok117 Kt)
def p1_117 (k : Nat) (v0 : BY) (v4 : Int) (v21 : Bool) (Kt : Tk117) : Option Out := C 258 ([.c (.s (.str v0)), .u, .u, .u, .c (.s (.int .i64 v4))] ++ us 16 ++ [.c (.s (.bool v21))] ++ us 68) fun e => atK Tryz.prog (lookG (gam117 N92 N115 N116 N122 N174 N175)) 4 lvs117 C k bod117 [1, 1, 0, 1] e (fin Tryz.prog Tryz.f117 none (tok117 Kt))
def l2_117 (k j0 : Nat) (v0 : BY) (v4 : Int) (v7 : BY) (Kt : Tk117) : Option Out := C 1000579 ([.c (.s (.str v0)), .u, .u, .u, .c (.s (.int .i64 v4)), .u, .u, .c (.s (.str v7))] ++ us 82) fun e => headK Tryz.prog (lookG (gam117 N92 N115 N116 N122 N174 N175)) 4 lvs117 C k j0 bod117 [1, 1, 1, 1, 1, 1, 0, 0] e (fin Tryz.prog Tryz.f117 none (tok117 Kt))
def p3_117 (k j0 : Nat) (v0 : BY) (v4 : Int) (v7 v8 : BY) (v9 : Int) (Kt : Tk117) : Option Out := C 897 ([.c (.s (.str v0)), .u, .u, .u, .c (.s (.int .i64 v4)), .u, .u, .c (.s (.str v7)), .c (.s (.str v8)), .c (.s (.int .i64 v9))] ++ us 80) fun e => atK Tryz.prog (lookG (gam117 N92 N115 N116 N122 N174 N175)) 4 lvs117 C k bod117 [1, 1, 1, 1, 1, 1, 0, 0, j0, 1, 0, 1, 1, 1] e (fin Tryz.prog Tryz.f117 none (tok117 Kt))
def l4_117 (k j0 j1 : Nat) (v0 : BY) (v4 : Int) (v7 v8 : BY) (v9 v10 v11 : Int) (v54 : BY) (v55 : Int) (v56 : Bool) (v59 : BY) (v60 : Int) (v61 v62 v66 : Bool) (Kt : Tk117) : Option Out := C 1001219 ([.c (.s (.str v0)), .u, .u, .u, .c (.s (.int .i64 v4)), .u, .u, .c (.s (.str v7)), .c (.s (.str v8)), .c (.s (.int .i64 v9)), .c (.s (.int .i64 v10)), .c (.s (.int .i64 v11))] ++ us 42 ++ [.c (.s (.str v54)), .c (.s (.int .i64 v55)), .c (.s (.bool v56)), .u, .u, .c (.s (.str v59)), .c (.s (.int .i64 v60)), .c (.s (.bool v61)), .c (.s (.bool v62)), .u, .u, .u, .c (.s (.bool v66))] ++ us 23) fun e => headK Tryz.prog (lookG (gam117 N92 N115 N116 N122 N174 N175)) 4 lvs117 C k j1 bod117 [1, 1, 1, 1, 1, 1, 0, 0, j0, 1, 0, 1, 1, 1, 1, 1, 1, 0, 1, 0] e (fin Tryz.prog Tryz.f117 none (tok117 Kt))
theorem run117_eq (k : Nat) (a0 : BY) (Kt : Tk117) : run117 C N92 N115 N116 N122 N174 N175 k a0 Kt =
 (N122 a0 58 fun r1 => (bif (decide (r1 < 1)) then (p1_117 C N92 N115 N116 N122 N174 N175 k a0 r1 true Kt) else ((at? a0 0).bind fun b2 => (N92 (b2.toNat : Int) fun r3 => (p1_117 C N92 N115 N116 N122 N174 N175 k a0 r1 (!r3) Kt))))) := by kernel_rfl
theorem p1_117_eq (hC : Cv C) (k : Nat) (v0 : BY) (v4 : Int) (v21 : Bool) (Kt : Tk117) : p1_117 C N92 N115 N116 N122 N174 N175 k v0 v4 v21 Kt =
 (bif v21 then (Kt ([] : BY) false) else ((cut v0 none (some v4)).bind fun s4 => (N116 s4 10 fun r5 r6 => (bif (!r6) then (Kt ([] : BY) false) else (N115 false r5 fun r7 => (l2_117 C N92 N115 N116 N122 N174 N175 k k v0 v4 r7 Kt)))))) := (hC _ _ _).trans (by kernel_rfl)
theorem l2_117_eq (hC : Cv C) (k j0 : Nat) (v0 : BY) (v4 : Int) (v7 : BY) (Kt : Tk117) : l2_117 C N92 N115 N116 N122 N174 N175 k (j0 + 1) v0 v4 v7 Kt =
 (bif (decide (v4 < (v0.length : Int))) then ((cut v0 (some (i64.wrap (v4 + 1))) none).bind fun s8 => (N122 s8 58 fun r9 => (bif (decide (r9 < 0)) then (p3_117 C N92 N115 N116 N122 N174 N175 k j0 v0 v4 v7 s8 (s8.length : Int) Kt) else (p3_117 C N92 N115 N116 N122 N174 N175 k j0 v0 v4 v7 s8 r9 Kt)))) else (Kt v7 true)) := (hC _ _ _).trans (by kernel_rfl)
theorem p3_117_eq (hC : Cv C) (k j0 : Nat) (v0 : BY) (v4 : Int) (v7 v8 : BY) (v9 : Int) (Kt : Tk117) : p3_117 C N92 N115 N116 N122 N174 N175 k j0 v0 v4 v7 v8 v9 Kt =
 ((cut v8 none (some v9)).bind fun s10 => (N174 s10 fun r11 => (bif (!r11) then (Kt ([] : BY) false) else (bif (decide ((s10.length : Int) > 2)) then (Kt ([] : BY) false) else (bif ((s10.length : Int) == 2) then ((at? s10 0).bind fun b12 => (bif (decide ((b12.toNat : Int) > 53)) then (Kt ([] : BY) false) else (l4_117 C N92 N115 N116 N122 N174 N175 k j0 k v0 v4 v7 s10 v9 0 0 s10 (s10.length : Int) (decide ((s10.length : Int) > 2)) s10 (s10.length : Int) ((s10.length : Int) == 2) true (decide ((b12.toNat : Int) > 53)) Kt))) else (l4_117 C N92 N115 N116 N122 N174 N175 k j0 k v0 v4 v7 s10 v9 0 0 s10 (s10.length : Int) (decide ((s10.length : Int) > 2)) s10 (s10.length : Int) ((s10.length : Int) == 2) false false Kt)))))) := (hC _ _ _).trans (by kernel_rfl)
theorem l4_117_eq (hC : Cv C) (k j0 j1 : Nat) (v0 : BY) (v4 : Int) (v7 v8 : BY) (v9 v10 v11 : Int) (v54 : BY) (v55 : Int) (v56 : Bool) (v59 : BY) (v60 : Int) (v61 v62 v66 : Bool) (Kt : Tk117) : l4_117 C N92 N115 N116 N122 N174 N175 k j0 (j1 + 1) v0 v4 v7 v8 v9 v10 v11 v54 v55 v56 v59 v60 v61 v62 v66 Kt =
 (bif (decide (v11 < (v8.length : Int))) then ((at? v8 v11).bind fun b13 => (l4_117 C N92 N115 N116 N122 N174 N175 k j0 j1 v0 v4 v7 v8 v9 (i64.wrap ((i64.wrap ((10 : Int) * v10)) + (i64.wrap (u8.wrap ((b13.toNat : Int) - 48))))) (i64.wrap (v11 + 1)) v54 v55 v56 v59 v60 v61 v62 v66 Kt)) else (N175 v7 60 v10 fun r14 => (l2_117 C N92 N115 N116 N122 N174 N175 k j0 v0 (i64.wrap ((i64.wrap (v4 + 1)) + v9)) r14 Kt))) := (hC _ _ _).trans (by kernel_rfl)
end
theorem as117 {G : World → Prop} {ng : Nat} (S : Stays Tryz.prog G ng) {N92 : Ty92} {N115 : Ty115} {N116 : Ty116} {N122 : Ty122} {N174 : Ty174} {N175 : Ty175} (h92 : FnIs Tryz.prog G ng 92 (adp92 N92)) (h115 : FnIs Tryz.prog G ng 115 (adp115 N115)) (h116 : FnIs Tryz.prog G ng 116 (adp116 N116)) (h122 : FnIs Tryz.prog G ng 122 (adp122 N122)) (h174 : FnIs Tryz.prog G ng 174 (adp174 N174)) (h175 : FnIs Tryz.prog G ng 175 (adp175 N175)) {A : Ty117} (hA : ∀ (a0 : BY) (Kt : Tk117) (r : Out), A a0 Kt = some r → run117 cut0 N92 N115 N116 N122 N174 N175 big a0 Kt = some r) : FnIs Tryz.prog G ng 117 (adp117 A) := by
 refine spec_run cut0_eq S (l := gam117 N92 N115 N116 N122 N174 N175) (by intro p hp; simp only [gam117, List.mem_cons, List.not_mem_nil, or_false] at hp; rcases hp with rfl | rfl | rfl | rfl | rfl | rfl <;> assumption) Tryz.func117 (by kernel_rfl) (nn := 4) (Lv := lvs117) (k := big) fun rc cs K r h => ?_
 unfold adp117 at h
 split at h
 ·exact ⟨_, hA _ _ _ h, fun p hp => by unfold tok117 at hp; split at hp; exact hp; cases hp⟩
 ·cases h
def lvs118 : Nat → Option (List (Nat × Co))
 | 386 => some [(1, .k), (2, .k), (6, .k), (8, .k), (9, .k)]
 | 642 => some [(2, .k), (6, .k), (15, .k)]
 | 769 => some [(6, .k)]
 | _ => none
section
variable (C : Nat → Env → (Env → Option Out) → Option Out)
def gam118 : List (Nat × Fn1) := []
def bod118 : Code := Tryz.f118.body.getD .skip
def run118 (k : Nat) (a0 : BY) (a1 a2 : Bool) (Kt : Tk118) : Option Out := runK Tryz.prog (lookG (gam118)) 8 lvs118 C k Tryz.f118 none [.s (.str a0), .s (.bool a1), .s (.bool a2)] (tok118 Kt)
def p1_118 (k : Nat) (v1 v2 : Bool) (v6_0 : Int) (v6_1 : Bool) (v6_2 v6_3 v8 : BY) (v9 : Bool) (Kt : Tk118) : Option Out := C 386 ([.u, .c (.s (.bool v1)), .c (.s (.bool v2)), .u, .u, .u, .box 91 (.ss [.int .i64 v6_0, .bool v6_1, .str v6_2, .str v6_3]), .u, .c (.s (.str v8)), .c (.s (.bool v9))] ++ us 13) fun e => atK Tryz.prog (lookG (gam118)) 8 lvs118 C k bod118 [1, 0, 1, 0, 1] e (fin Tryz.prog Tryz.f118 none (tok118 Kt))
def p2_118 (k : Nat) (v2 : Bool) (v6_0 : Int) (v6_1 : Bool) (v6_2 v6_3 : BY) (v15 : Bool) (Kt : Tk118) : Option Out := C 642 ([.u, .u, .c (.s (.bool v2)), .u, .u, .u, .box 91 (.ss [.int .i64 v6_0, .bool v6_1, .str v6_2, .str v6_3])] ++ us 8 ++ [.c (.s (.bool v15))] ++ us 7) fun e => atK Tryz.prog (lookG (gam118)) 8 lvs118 C k bod118 [1, 0, 1, 0, 1, 1, 1] e (fin Tryz.prog Tryz.f118 none (tok118 Kt))
def p3_118 (k : Nat) (v6_0 : Int) (v6_1 : Bool) (v6_2 v6_3 : BY) (Kt : Tk118) : Option Out := C 769 (us 6 ++ [.box 91 (.ss [.int .i64 v6_0, .bool v6_1, .str v6_2, .str v6_3])] ++ us 16) fun e => atK Tryz.prog (lookG (gam118)) 8 lvs118 C k bod118 [1, 1] e (fin Tryz.prog Tryz.f118 none (tok118 Kt))
theorem run118_eq (k : Nat) (a0 : BY) (a1 a2 : Bool) (Kt : Tk118) : run118 C k a0 a1 a2 Kt =
 (bif (a0 == ([46, 105, 110, 102] : BY)) then (p1_118 C k a1 a2 0 false ([] : BY) ([] : BY) a0 (a0 == ([46, 105, 110, 102] : BY)) Kt) else (bif (a0 == ([46, 73, 110, 102] : BY)) then (p1_118 C k a1 a2 0 false ([] : BY) ([] : BY) a0 (a0 == ([46, 73, 110, 102] : BY)) Kt) else (p1_118 C k a1 a2 0 false ([] : BY) ([] : BY) a0 (a0 == ([46, 73, 78, 70] : BY)) Kt))) := by kernel_rfl
theorem p1_118_eq (hC : Cv C) (k : Nat) (v1 v2 : Bool) (v6_0 : Int) (v6_1 : Bool) (v6_2 v6_3 v8 : BY) (v9 : Bool) (Kt : Tk118) : p1_118 C k v1 v2 v6_0 v6_1 v6_2 v6_3 v8 v9 Kt =
 (bif v9 then (Kt 1 v1 ([] : BY) ([] : BY) true) else (bif (v8 == ([46, 110, 97, 110] : BY)) then (p2_118 C k v2 v6_0 v6_1 v6_2 v6_3 (v8 == ([46, 110, 97, 110] : BY)) Kt) else (bif (v8 == ([46, 78, 97, 78] : BY)) then (p2_118 C k v2 v6_0 v6_1 v6_2 v6_3 (v8 == ([46, 78, 97, 78] : BY)) Kt) else (p2_118 C k v2 v6_0 v6_1 v6_2 v6_3 (v8 == ([46, 78, 65, 78] : BY)) Kt)))) := (hC _ _ _).trans (by kernel_rfl)
theorem p2_118_eq (hC : Cv C) (k : Nat) (v2 : Bool) (v6_0 : Int) (v6_1 : Bool) (v6_2 v6_3 : BY) (v15 : Bool) (Kt : Tk118) : p2_118 C k v2 v6_0 v6_1 v6_2 v6_3 v15 Kt =
 (bif v15 then (bif (!v2) then (Kt 2 false ([] : BY) ([] : BY) true) else (p3_118 C k v6_0 v6_1 v6_2 v6_3 Kt)) else (p3_118 C k v6_0 v6_1 v6_2 v6_3 Kt)) := (hC _ _ _).trans (by kernel_rfl)
theorem p3_118_eq (hC : Cv C) (k : Nat) (v6_0 : Int) (v6_1 : Bool) (v6_2 v6_3 : BY) (Kt : Tk118) : p3_118 C k v6_0 v6_1 v6_2 v6_3 Kt =
 (Kt 0 false ([] : BY) ([] : BY) false) := (hC _ _ _).trans (by kernel_rfl)
end
theorem as118 {G : World → Prop} {ng : Nat} (S : Stays Tryz.prog G ng) {A : Ty118} (hA : ∀ (a0 : BY) (a1 : Bool) (a2 : Bool) (Kt : Tk118) (r : Out), A a0 a1 a2 Kt = some r → run118 cut0 big a0 a1 a2 Kt = some r) : FnIs Tryz.prog G ng 118 (adp118 A) := by
 refine spec_run cut0_eq S (l := gam118) (by intro p hp; cases hp) Tryz.func118 (by kernel_rfl) (nn := 8) (Lv := lvs118) (k := big) fun rc cs K r h => ?_
 unfold adp118 at h
 split at h
 ·exact ⟨_, hA _ _ _ _ _ h, fun p hp => by unfold tok118 at hp; split at hp; exact hp; cases hp⟩
 ·cases h
def lvs119 : Nat → Option (List (Nat × Co))
 | 322 => some [(0, .k), (1, .k), (17, .k)]
 | 514 => some [(6, .k), (7, .k), (38, .k)]
 | _ => none
section
variable (C : Nat → Env → (Env → Option Out) → Option Out) (N114 : Ty114) (N115 : Ty115) (N174 : Ty174)
def gam119 : List (Nat × Fn1) := [(114, adp114 N114), (115, adp115 N115), (174, adp174 N174)]
def bod119 : Code := Tryz.f119.body.getD .skip
def run119 (k : Nat) (a0 : BY) (a1 : Bool) (Kt : Tk119) : Option Out := runK Tryz.prog (lookG (gam119 N114 N115 N174)) 8 lvs119 C k Tryz.f119 none [.s (.str a0), .s (.bool a1)] (tok119 Kt)
def p1_119 (k : Nat) (v0 : BY) (v1 v17 : Bool) (Kt : Tk119) : Option Out := C 322 ([.c (.s (.str v0)), .c (.s (.bool v1))] ++ us 15 ++ [.c (.s (.bool v17))] ++ us 24) fun e => atK Tryz.prog (lookG (gam119 N114 N115 N174)) 8 lvs119 C k bod119 [1, 1, 0, 1] e (fin Tryz.prog Tryz.f119 none (tok119 Kt))
def p2_119 (k : Nat) (v6 : BY) (v7 v38 : Bool) (Kt : Tk119) : Option Out := C 514 (us 6 ++ [.c (.s (.str v6)), .c (.s (.bool v7))] ++ us 30 ++ [.c (.s (.bool v38)), .u, .u, .u]) fun e => atK Tryz.prog (lookG (gam119 N114 N115 N174)) 8 lvs119 C k bod119 [1, 1, 1, 1, 0, 1] e (fin Tryz.prog Tryz.f119 none (tok119 Kt))
theorem run119_eq (k : Nat) (a0 : BY) (a1 : Bool) (Kt : Tk119) : run119 C N114 N115 N174 k a0 a1 Kt =
 (bif (a0 == ([] : BY)) then (Kt ([48] : BY) true) else ((at? a0 0).bind fun b1 => (bif ((b1.toNat : Int) != 101) then ((at? a0 0).bind fun b2 => (p1_119 C N114 N115 N174 k a0 a1 ((b2.toNat : Int) != 69) Kt)) else (p1_119 C N114 N115 N174 k a0 a1 false Kt)))) := by kernel_rfl
theorem p1_119_eq (hC : Cv C) (k : Nat) (v0 : BY) (v1 v17 : Bool) (Kt : Tk119) : p1_119 C N114 N115 N174 k v0 v1 v17 Kt =
 (bif v17 then (Kt ([] : BY) false) else ((cut v0 (some (1 : Int)) none).bind fun s3 => (N114 s3 fun r4 r5 => (bif ((r4.length : Int) == (i64.wrap ((v0.length : Int) - 1))) then (bif (!v1) then (p2_119 C N114 N115 N174 k r4 r5 true Kt) else (N174 r4 fun r6 => (p2_119 C N114 N115 N174 k r4 r5 (!r6) Kt))) else (N174 r4 fun r7 => (p2_119 C N114 N115 N174 k r4 r5 (!r7) Kt)))))) := (hC _ _ _).trans (by kernel_rfl)
theorem p2_119_eq (hC : Cv C) (k : Nat) (v6 : BY) (v7 v38 : Bool) (Kt : Tk119) : p2_119 C N114 N115 N174 k v6 v7 v38 Kt =
 (bif v38 then (Kt ([] : BY) false) else (N115 v7 v6 fun r8 => (Kt r8 true))) := (hC _ _ _).trans (by kernel_rfl)
end
theorem as119 {G : World → Prop} {ng : Nat} (S : Stays Tryz.prog G ng) {N114 : Ty114} {N115 : Ty115} {N174 : Ty174} (h114 : FnIs Tryz.prog G ng 114 (adp114 N114)) (h115 : FnIs Tryz.prog G ng 115 (adp115 N115)) (h174 : FnIs Tryz.prog G ng 174 (adp174 N174)) {A : Ty119} (hA : ∀ (a0 : BY) (a1 : Bool) (Kt : Tk119) (r : Out), A a0 a1 Kt = some r → run119 cut0 N114 N115 N174 big a0 a1 Kt = some r) : FnIs Tryz.prog G ng 119 (adp119 A) := by
 refine spec_run cut0_eq S (l := gam119 N114 N115 N174) (by intro p hp; simp only [gam119, List.mem_cons, List.not_mem_nil, or_false] at hp; rcases hp with rfl | rfl | rfl <;> assumption) Tryz.func119 (by kernel_rfl) (nn := 8) (Lv := lvs119) (k := big) fun rc cs K r h => ?_
 unfold adp119 at h
 split at h
 ·exact ⟨_, hA _ _ _ _ h, fun p hp => by unfold tok119 at hp; split at hp; exact hp; cases hp⟩
 ·cases h
def lvs122 : Nat → Option (List (Nat × Co))
 | 1000195 => some [(0, .k), (1, .k), (5, .k)]
 | _ => none
section
variable (C : Nat → Env → (Env → Option Out) → Option Out)
def gam122 : List (Nat × Fn1) := []
def bod122 : Code := Tryz.f122.body.getD .skip
def run122 (k : Nat) (a0 : BY) (a1 : Int) (Kt : Tk122) : Option Out := runK Tryz.prog (lookG (gam122)) 6 lvs122 C k Tryz.f122 none [.s (.str a0), .s (.int .u8 a1)] (tok122 Kt)
def l1_122 (k j0 : Nat) (v0 : BY) (v1 v5 : Int) (Kt : Tk122) : Option Out := C 1000195 ([.c (.s (.str v0)), .c (.s (.int .u8 v1)), .u, .u, .u, .c (.s (.int .i64 v5))] ++ us 12) fun e => headK Tryz.prog (lookG (gam122)) 6 lvs122 C k j0 bod122 [1, 0, 1, 0] e (fin Tryz.prog Tryz.f122 none (tok122 Kt))
theorem run122_eq (k : Nat) (a0 : BY) (a1 : Int) (Kt : Tk122) : run122 C k a0 a1 Kt =
 (l1_122 C k k a0 a1 0 Kt) := by kernel_rfl
theorem l1_122_eq (hC : Cv C) (k j0 : Nat) (v0 : BY) (v1 v5 : Int) (Kt : Tk122) : l1_122 C k (j0 + 1) v0 v1 v5 Kt =
 (bif (decide (v5 < (v0.length : Int))) then ((at? v0 v5).bind fun b1 => (bif ((b1.toNat : Int) == v1) then (Kt v5) else (l1_122 C k j0 v0 v1 (i64.wrap (v5 + 1)) Kt))) else (Kt (-1))) := (hC _ _ _).trans (by kernel_rfl)
end
theorem as122 {G : World → Prop} {ng : Nat} (S : Stays Tryz.prog G ng) {A : Ty122} (hA : ∀ (a0 : BY) (a1 : Int) (Kt : Tk122) (r : Out), A a0 a1 Kt = some r → run122 cut0 big a0 a1 Kt = some r) : FnIs Tryz.prog G ng 122 (adp122 A) := by
 refine spec_run cut0_eq S (l := gam122) (by intro p hp; cases hp) Tryz.func122 (by kernel_rfl) (nn := 6) (Lv := lvs122) (k := big) fun rc cs K r h => ?_
 unfold adp122 at h
 split at h
 ·exact ⟨_, hA _ _ _ _ h, fun p hp => by unfold tok122 at hp; split at hp; exact hp; cases hp⟩
 ·cases h
section
variable (C : Nat → Env → (Env → Option Out) → Option Out) (N129 : Ty129) (N181 : Ty181) (N182 : Ty182)
end
end
end Go.Proofs.YtffmgholjdfcnaaGreatDoor
set_option maxRecDepth 100000
set_option linter.unusedVariables false
namespace Go.Proofs.YtffmgholjdfcnaaGreatDoor
open Go Go.Proofs AM
open Go.IntKind (i64 u8)
noncomputable section
section
variable (C : Nat → Env → (Env → Option Out) → Option Out) (N121 : Ty121)
end
def lvs90 : Nat → Option (List (Nat × Co))
 | 194 => some [(0, .k), (3, .k)]
 | 322 => some [(0, .k), (13, .k)]
 | 450 => some [(0, .k), (24, .k)]
 | _ => none
section
variable (C : Nat → Env → (Env → Option Out) → Option Out)
def gam90 : List (Nat × Fn1) := []
def bod90 : Code := Tryz.f90.body.getD .skip
def run90 (k : Nat) (a0 : Int) (Kt : Tk90) : Option Out := runK Tryz.prog (lookG (gam90)) 3 lvs90 C k Tryz.f90 none [.s (.int .u8 a0)] (tok90 Kt)
def p1_90 (k : Nat) (v0 : Int) (v3 : Bool) (Kt : Tk90) : Option Out := C 194 ([.c (.s (.int .u8 v0)), .u, .u, .c (.s (.bool v3))] ++ us 31) fun e => atK Tryz.prog (lookG (gam90)) 3 lvs90 C k bod90 [1, 0, 0, 1] e (fin Tryz.prog Tryz.f90 none (tok90 Kt))
def p2_90 (k : Nat) (v0 : Int) (v13 : Bool) (Kt : Tk90) : Option Out := C 322 ([.c (.s (.int .u8 v0))] ++ us 12 ++ [.c (.s (.bool v13))] ++ us 21) fun e => atK Tryz.prog (lookG (gam90)) 3 lvs90 C k bod90 [1, 0, 0, 1, 1, 1] e (fin Tryz.prog Tryz.f90 none (tok90 Kt))
def p3_90 (k : Nat) (v0 : Int) (v24 : Bool) (Kt : Tk90) : Option Out := C 450 ([.c (.s (.int .u8 v0))] ++ us 23 ++ [.c (.s (.bool v24))] ++ us 10) fun e => atK Tryz.prog (lookG (gam90)) 3 lvs90 C k bod90 [1, 0, 0, 1, 1, 1, 1, 1] e (fin Tryz.prog Tryz.f90 none (tok90 Kt))
theorem run90_eq (k : Nat) (a0 : Int) (Kt : Tk90) : run90 C k a0 Kt =
 (bif (decide (a0 ≥ 48)) then (p1_90 C k a0 (decide (a0 ≤ 57)) Kt) else (p1_90 C k a0 false Kt)) := by kernel_rfl
theorem p1_90_eq (hC : Cv C) (k : Nat) (v0 : Int) (v3 : Bool) (Kt : Tk90) : p1_90 C k v0 v3 Kt =
 (bif v3 then (Kt (i64.wrap (u8.wrap (v0 - 48)))) else (bif (decide (v0 ≥ 97)) then (p2_90 C k v0 (decide (v0 ≤ 102)) Kt) else (p2_90 C k v0 false Kt))) := (hC _ _ _).trans (by kernel_rfl)
theorem p2_90_eq (hC : Cv C) (k : Nat) (v0 : Int) (v13 : Bool) (Kt : Tk90) : p2_90 C k v0 v13 Kt =
 (bif v13 then (Kt (i64.wrap ((i64.wrap (u8.wrap (v0 - 97))) + 10))) else (bif (decide (v0 ≥ 65)) then (p3_90 C k v0 (decide (v0 ≤ 70)) Kt) else (p3_90 C k v0 false Kt))) := (hC _ _ _).trans (by kernel_rfl)
theorem p3_90_eq (hC : Cv C) (k : Nat) (v0 : Int) (v24 : Bool) (Kt : Tk90) : p3_90 C k v0 v24 Kt =
 (bif v24 then (Kt (i64.wrap ((i64.wrap (u8.wrap (v0 - 65))) + 10))) else (Kt 99)) := (hC _ _ _).trans (by kernel_rfl)
end
theorem as90 {G : World → Prop} {ng : Nat} (S : Stays Tryz.prog G ng) {A : Ty90} (hA : ∀ (a0 : Int) (Kt : Tk90) (r : Out), A a0 Kt = some r → run90 cut0 big a0 Kt = some r) : FnIs Tryz.prog G ng 90 (adp90 A) := by
 refine spec_run cut0_eq S (l := gam90) (by intro p hp; cases hp) Tryz.func90 (by kernel_rfl) (nn := 3) (Lv := lvs90) (k := big) fun rc cs K r h => ?_
 unfold adp90 at h
 split at h
 ·exact ⟨_, hA _ _ _ h, fun p hp => by unfold tok90 at hp; split at hp; exact hp; cases hp⟩
 ·cases h
def lvs113 : Nat → Option (List (Nat × Co))
 | 194 => some [(0, .k), (1, .k), (21, .k)]
 | 1000387 => some [(0, .k), (1, .k), (5, .k), (6, .k)]
 | _ => none
section
variable (C : Nat → Env → (Env → Option Out) → Option Out) (N90 : Ty90) (N173 : Ty173)
def gam113 : List (Nat × Fn1) := [(90, adp90 N90), (173, adp173 N173)]
def bod113 : Code := Tryz.f113.body.getD .skip
def run113 (k : Nat) (a0 : BY) (a1 : Int) (Kt : Tk113) : Option Out := runK Tryz.prog (lookG (gam113 N90 N173)) 8 lvs113 C k Tryz.f113 none [.s (.str a0), .s (.int .i64 a1)] (tok113 Kt)
def p1_113 (k : Nat) (v0 : BY) (v1 : Int) (v21 : Bool) (Kt : Tk113) : Option Out := C 194 ([.c (.s (.str v0)), .c (.s (.int .i64 v1))] ++ us 19 ++ [.c (.s (.bool v21))] ++ us 18) fun e => atK Tryz.prog (lookG (gam113 N90 N173)) 8 lvs113 C k bod113 [1, 0, 1] e (fin Tryz.prog Tryz.f113 none (tok113 Kt))
def l2_113 (k j0 : Nat) (v0 : BY) (v1 : Int) (v5 : BY) (v6 : Int) (Kt : Tk113) : Option Out := C 1000387 ([.c (.s (.str v0)), .c (.s (.int .i64 v1)), .u, .u, .u, .c (.s (.str v5)), .c (.s (.int .i64 v6))] ++ us 33) fun e => headK Tryz.prog (lookG (gam113 N90 N173)) 8 lvs113 C k j0 bod113 [1, 1, 1, 0, 1, 0] e (fin Tryz.prog Tryz.f113 none (tok113 Kt))
theorem run113_eq (k : Nat) (a0 : BY) (a1 : Int) (Kt : Tk113) : run113 C N90 N173 k a0 a1 Kt =
 (bif (a1 != 2) then (bif (a1 != 8) then (bif (a1 != 16) then (p1_113 C N90 N173 k a0 a1 true Kt) else (p1_113 C N90 N173 k a0 a1 (a0 == ([] : BY)) Kt)) else (p1_113 C N90 N173 k a0 a1 (a0 == ([] : BY)) Kt)) else (p1_113 C N90 N173 k a0 a1 (a0 == ([] : BY)) Kt)) := by kernel_rfl
theorem p1_113_eq (hC : Cv C) (k : Nat) (v0 : BY) (v1 : Int) (v21 : Bool) (Kt : Tk113) : p1_113 C N90 N173 k v0 v1 v21 Kt =
 (bif v21 then (Kt ([] : BY)) else (l2_113 C N90 N173 k k v0 v1 ([48] : BY) 0 Kt)) := (hC _ _ _).trans (by kernel_rfl)
theorem l2_113_eq (hC : Cv C) (k j0 : Nat) (v0 : BY) (v1 : Int) (v5 : BY) (v6 : Int) (Kt : Tk113) : l2_113 C N90 N173 k (j0 + 1) v0 v1 v5 v6 Kt =
 (bif (decide (v6 < (v0.length : Int))) then ((at? v0 v6).bind fun b1 => (N90 (b1.toNat : Int) fun r2 => (bif (decide (r2 ≥ v1)) then (Kt ([] : BY)) else (N173 v5 v1 r2 fun r3 => (l2_113 C N90 N173 k j0 v0 v1 r3 (i64.wrap (v6 + 1)) Kt))))) else (Kt v5)) := (hC _ _ _).trans (by kernel_rfl)
end
theorem as113 {G : World → Prop} {ng : Nat} (S : Stays Tryz.prog G ng) {N90 : Ty90} {N173 : Ty173} (h90 : FnIs Tryz.prog G ng 90 (adp90 N90)) (h173 : FnIs Tryz.prog G ng 173 (adp173 N173)) {A : Ty113} (hA : ∀ (a0 : BY) (a1 : Int) (Kt : Tk113) (r : Out), A a0 a1 Kt = some r → run113 cut0 N90 N173 big a0 a1 Kt = some r) : FnIs Tryz.prog G ng 113 (adp113 A) := by
 refine spec_run cut0_eq S (l := gam113 N90 N173) (by intro p hp; simp only [gam113, List.mem_cons, List.not_mem_nil, or_false] at hp; rcases hp with rfl | rfl <;> assumption) Tryz.func113 (by kernel_rfl) (nn := 8) (Lv := lvs113) (k := big) fun rc cs K r h => ?_
 unfold adp113 at h
 split at h
 ·exact ⟨_, hA _ _ _ _ h, fun p hp => by unfold tok113 at hp; split at hp; exact hp; cases hp⟩
 ·cases h
def lvs115 : Nat → Option (List (Nat × Co))
 | 578 => some [(6, .k), (30, .k)]
 | 1000323 => some [(0, .k), (1, .k), (5, .k)]
 | _ => none
section
variable (C : Nat → Env → (Env → Option Out) → Option Out) (N174 : Ty174)
def gam115 : List (Nat × Fn1) := [(174, adp174 N174)]
def bod115 : Code := Tryz.f115.body.getD .skip
def run115 (k : Nat) (a0 : Bool) (a1 : BY) (Kt : Tk115) : Option Out := runK Tryz.prog (lookG (gam115 N174)) 7 lvs115 C k Tryz.f115 none [.s (.bool a0), .s (.str a1)] (tok115 Kt)
def l1_115 (k j0 : Nat) (v0 : Bool) (v1 : BY) (v5 : Int) (Kt : Tk115) : Option Out := C 1000323 ([.c (.s (.bool v0)), .c (.s (.str v1)), .u, .u, .u, .c (.s (.int .i64 v5))] ++ us 28) fun e => headK Tryz.prog (lookG (gam115 N174)) 7 lvs115 C k j0 bod115 [1, 1, 1, 0, 0] e (fin Tryz.prog Tryz.f115 none (tok115 Kt))
def p2_115 (k : Nat) (v6 : BY) (v30 : Bool) (Kt : Tk115) : Option Out := C 578 (us 6 ++ [.c (.s (.str v6))] ++ us 23 ++ [.c (.s (.bool v30)), .u, .u, .u]) fun e => atK Tryz.prog (lookG (gam115 N174)) 7 lvs115 C k bod115 [1, 1, 1, 1, 1, 0, 1] e (fin Tryz.prog Tryz.f115 none (tok115 Kt))
theorem run115_eq (k : Nat) (a0 : Bool) (a1 : BY) (Kt : Tk115) : run115 C N174 k a0 a1 Kt =
 (N174 a1 fun r1 => (bif (!r1) then (Kt ([] : BY)) else (l1_115 C N174 k k a0 a1 0 Kt))) := by kernel_rfl
theorem l1_115_eq (hC : Cv C) (k j0 : Nat) (v0 : Bool) (v1 : BY) (v5 : Int) (Kt : Tk115) : l1_115 C N174 k (j0 + 1) v0 v1 v5 Kt =
 (bif (decide (v5 < (i64.wrap ((v1.length : Int) - 1)))) then ((at? v1 v5).bind fun b2 => (bif ((b2.toNat : Int) == 48) then (l1_115 C N174 k j0 v0 v1 (i64.wrap (v5 + 1)) Kt) else ((cut v1 (some v5) none).bind fun s3 => (bif v0 then (p2_115 C N174 k s3 (!(s3 == ([48] : BY))) Kt) else (p2_115 C N174 k s3 false Kt))))) else ((cut v1 (some v5) none).bind fun s4 => (bif v0 then (p2_115 C N174 k s4 (!(s4 == ([48] : BY))) Kt) else (p2_115 C N174 k s4 false Kt)))) := (hC _ _ _).trans (by kernel_rfl)
theorem p2_115_eq (hC : Cv C) (k : Nat) (v6 : BY) (v30 : Bool) (Kt : Tk115) : p2_115 C N174 k v6 v30 Kt =
 (bif v30 then ((cat ([45] : BY) v6).bind fun s5 => (Kt s5)) else (Kt v6)) := (hC _ _ _).trans (by kernel_rfl)
end
theorem as115 {G : World → Prop} {ng : Nat} (S : Stays Tryz.prog G ng) {N174 : Ty174} (h174 : FnIs Tryz.prog G ng 174 (adp174 N174)) {A : Ty115} (hA : ∀ (a0 : Bool) (a1 : BY) (Kt : Tk115) (r : Out), A a0 a1 Kt = some r → run115 cut0 N174 big a0 a1 Kt = some r) : FnIs Tryz.prog G ng 115 (adp115 A) := by
 refine spec_run cut0_eq S (l := gam115 N174) (by intro p hp; simp only [gam115, List.mem_cons, List.not_mem_nil, or_false] at hp; rcases hp with rfl <;> assumption) Tryz.func115 (by kernel_rfl) (nn := 7) (Lv := lvs115) (k := big) fun rc cs K r h => ?_
 unfold adp115 at h
 split at h
 ·exact ⟨_, hA _ _ _ _ h, fun p hp => by unfold tok115 at hp; split at hp; exact hp; cases hp⟩
 ·cases h
def lvs120 : Nat → Option (List (Nat × Co))
 | 194 => some [(0, .k), (1, .k), (2, .k), (3, .k), (8, .k), (21, .k)]
 | 1000387 => some [(0, .k), (2, .k), (3, .k), (8, .k), (10, .k), (11, .k)]
 | 1000579 => some [(0, .k), (2, .k), (3, .k), (8, .k), (10, .k), (11, .k)]
 | _ => none
section
variable (C : Nat → Env → (Env → Option Out) → Option Out) (N174 : Ty174) (N176 : Ty176) (N177 : Ty177)
def gam120 : List (Nat × Fn1) := [(174, adp174 N174), (176, adp176 N176), (177, adp177 N177)]
def bod120 : Code := Tryz.f120.body.getD .skip
def run120 (k : Nat) (a0 : Bool) (a1 a2 a3 : BY) (Kt : Tk120) : Option Out := runK Tryz.prog (lookG (gam120 N174 N176 N177)) 10 lvs120 C k Tryz.f120 none [.s (.bool a0), .s (.str a1), .s (.str a2), .s (.str a3)] (tok120 Kt)
def p1_120 (k : Nat) (v0 : Bool) (v1 v2 v3 : BY) (v8_0 : Int) (v8_1 : Bool) (v8_2 v8_3 : BY) (v21 : Bool) (Kt : Tk120) : Option Out := C 194 ([.c (.s (.bool v0)), .c (.s (.str v1)), .c (.s (.str v2)), .c (.s (.str v3)), .u, .u, .u, .u, .box 91 (.ss [.int .i64 v8_0, .bool v8_1, .str v8_2, .str v8_3])] ++ us 12 ++ [.c (.s (.bool v21))] ++ us 45) fun e => atK Tryz.prog (lookG (gam120 N174 N176 N177)) 10 lvs120 C k bod120 [1, 0, 1] e (fin Tryz.prog Tryz.f120 none (tok120 Kt))
def l2_120 (k j0 : Nat) (v0 : Bool) (v2 v3 : BY) (v8_0 : Int) (v8_1 : Bool) (v8_2 v8_3 v10 : BY) (v11 : Int) (Kt : Tk120) : Option Out := C 1000387 ([.c (.s (.bool v0)), .u, .c (.s (.str v2)), .c (.s (.str v3)), .u, .u, .u, .u, .box 91 (.ss [.int .i64 v8_0, .bool v8_1, .str v8_2, .str v8_3]), .u, .c (.s (.str v10)), .c (.s (.int .i64 v11))] ++ us 55) fun e => headK Tryz.prog (lookG (gam120 N174 N176 N177)) 10 lvs120 C k j0 bod120 [1, 1, 1, 1, 0, 0] e (fin Tryz.prog Tryz.f120 none (tok120 Kt))
def l3_120 (k j0 : Nat) (v0 : Bool) (v2 v3 : BY) (v8_0 : Int) (v8_1 : Bool) (v8_2 v8_3 v10 : BY) (v11 : Int) (Kt : Tk120) : Option Out := C 1000579 ([.c (.s (.bool v0)), .u, .c (.s (.str v2)), .c (.s (.str v3)), .u, .u, .u, .u, .box 91 (.ss [.int .i64 v8_0, .bool v8_1, .str v8_2, .str v8_3]), .u, .c (.s (.str v10)), .c (.s (.int .i64 v11))] ++ us 55) fun e => headK Tryz.prog (lookG (gam120 N174 N176 N177)) 10 lvs120 C k j0 bod120 [1, 1, 1, 1, 1, 0, 0] e (fin Tryz.prog Tryz.f120 none (tok120 Kt))
theorem run120_eq (k : Nat) (a0 : Bool) (a1 a2 a3 : BY) (Kt : Tk120) : run120 C N174 N176 N177 k a0 a1 a2 a3 Kt =
 ((cat a1 a2).bind fun s1 => (N174 s1 fun r2 => (bif (!r2) then (p1_120 C N174 N176 N177 k a0 a1 a2 a3 0 false ([] : BY) ([] : BY) true Kt) else (N176 a3 fun r3 => (p1_120 C N174 N176 N177 k a0 a1 a2 a3 0 false ([] : BY) ([] : BY) (!r3) Kt))))) := by kernel_rfl
theorem p1_120_eq (hC : Cv C) (k : Nat) (v0 : Bool) (v1 v2 v3 : BY) (v8_0 : Int) (v8_1 : Bool) (v8_2 v8_3 : BY) (v21 : Bool) (Kt : Tk120) : p1_120 C N174 N176 N177 k v0 v1 v2 v3 v8_0 v8_1 v8_2 v8_3 v21 Kt =
 (bif v21 then (Kt 0 false ([] : BY) ([] : BY) false) else ((cat v1 v2).bind fun s4 => (l2_120 C N174 N176 N177 k k v0 v2 v3 v8_0 v8_1 v8_2 v8_3 s4 0 Kt))) := (hC _ _ _).trans (by kernel_rfl)
theorem l2_120_eq (hC : Cv C) (k j0 : Nat) (v0 : Bool) (v2 v3 : BY) (v8_0 : Int) (v8_1 : Bool) (v8_2 v8_3 v10 : BY) (v11 : Int) (Kt : Tk120) : l2_120 C N174 N176 N177 k (j0 + 1) v0 v2 v3 v8_0 v8_1 v8_2 v8_3 v10 v11 Kt =
 (bif (decide ((v10.length : Int) > 0)) then ((at? v10 (i64.wrap ((v10.length : Int) - 1))).bind fun b5 => (bif ((b5.toNat : Int) == 48) then ((cut v10 none (some (i64.wrap ((v10.length : Int) - 1)))).bind fun s6 => (l2_120 C N174 N176 N177 k j0 v0 v2 v3 v8_0 v8_1 v8_2 v8_3 s6 (i64.wrap (v11 + 1)) Kt)) else (l3_120 C N174 N176 N177 k k v0 v2 v3 v8_0 v8_1 v8_2 v8_3 v10 v11 Kt))) else (l3_120 C N174 N176 N177 k k v0 v2 v3 v8_0 v8_1 v8_2 v8_3 v10 v11 Kt)) := (hC _ _ _).trans (by kernel_rfl)
theorem l3_120_eq (hC : Cv C) (k j0 : Nat) (v0 : Bool) (v2 v3 : BY) (v8_0 : Int) (v8_1 : Bool) (v8_2 v8_3 v10 : BY) (v11 : Int) (Kt : Tk120) : l3_120 C N174 N176 N177 k (j0 + 1) v0 v2 v3 v8_0 v8_1 v8_2 v8_3 v10 v11 Kt =
 (bif (decide ((v10.length : Int) > 0)) then ((at? v10 0).bind fun b7 => (bif ((b7.toNat : Int) == 48) then ((cut v10 (some (1 : Int)) none).bind fun s8 => (l3_120 C N174 N176 N177 k j0 v0 v2 v3 v8_0 v8_1 v8_2 v8_3 s8 v11 Kt)) else (bif (v10 == ([] : BY)) then (Kt 0 v0 ([48] : BY) ([48] : BY) true) else (N177 v3 (i64.wrap (v11 - (v2.length : Int))) fun r9 => (Kt 0 v0 v10 r9 true))))) else (bif (v10 == ([] : BY)) then (Kt 0 v0 ([48] : BY) ([48] : BY) true) else (N177 v3 (i64.wrap (v11 - (v2.length : Int))) fun r10 => (Kt 0 v0 v10 r10 true)))) := (hC _ _ _).trans (by kernel_rfl)
end
theorem as120 {G : World → Prop} {ng : Nat} (S : Stays Tryz.prog G ng) {N174 : Ty174} {N176 : Ty176} {N177 : Ty177} (h174 : FnIs Tryz.prog G ng 174 (adp174 N174)) (h176 : FnIs Tryz.prog G ng 176 (adp176 N176)) (h177 : FnIs Tryz.prog G ng 177 (adp177 N177)) {A : Ty120} (hA : ∀ (a0 : Bool) (a1 : BY) (a2 : BY) (a3 : BY) (Kt : Tk120) (r : Out), A a0 a1 a2 a3 Kt = some r → run120 cut0 N174 N176 N177 big a0 a1 a2 a3 Kt = some r) : FnIs Tryz.prog G ng 120 (adp120 A) := by
 refine spec_run cut0_eq S (l := gam120 N174 N176 N177) (by intro p hp; simp only [gam120, List.mem_cons, List.not_mem_nil, or_false] at hp; rcases hp with rfl | rfl | rfl <;> assumption) Tryz.func120 (by kernel_rfl) (nn := 10) (Lv := lvs120) (k := big) fun rc cs K r h => ?_
 unfold adp120 at h
 split at h
 ·exact ⟨_, hA _ _ _ _ _ _ h, fun p hp => by unfold tok120 at hp; split at hp; exact hp; cases hp⟩
 ·cases h
section
variable (C : Nat → Env → (Env → Option Out) → Option Out) (N174 : Ty174) (N176 : Ty176)
end
def lvs173 : Nat → Option (List (Nat × Co))
 | 1000323 => some [(0, .k), (1, .k), (7, .k), (8, .k), (9, .k)]
 | 1000707 => some [(7, .k), (8, .k), (10, .k)]
 | _ => none
section
variable (C : Nat → Env → (Env → Option Out) → Option Out) (N115 : Ty115)
def gam173 : List (Nat × Fn1) := [(115, adp115 N115)]
def bod173 : Code := Tryz.f173.body.getD .skip
def run173 (k : Nat) (a0 : BY) (a1 a2 : Int) (Kt : Tk173) : Option Out := runK Tryz.prog (lookG (gam173 N115)) 11 lvs173 C k Tryz.f173 none [.s (.str a0), .s (.int .i64 a1), .s (.int .i64 a2)] (tok173 Kt)
def l1_173 (k j0 : Nat) (v0 : BY) (v1 : Int) (v7 : List Int) (v8 v9 : Int) (Kt : Tk173) : Option Out := C 1000323 ([.c (.s (.str v0)), .c (.s (.int .i64 v1)), .u, .u, .u, .u, .u, .c (.own (.ints .u8 v7)), .c (.s (.int .i64 v8)), .c (.s (.int .i64 v9))] ++ us 47) fun e => headK Tryz.prog (lookG (gam173 N115)) 11 lvs173 C k j0 bod173 [1, 1, 1, 0, 1, 0] e (fin Tryz.prog Tryz.f173 none (tok173 Kt))
def l2_173 (k j0 : Nat) (v7 : List Int) (v8 : Int) (v10 : BY) (Kt : Tk173) : Option Out := C 1000707 (us 7 ++ [.c (.own (.ints .u8 v7)), .c (.s (.int .i64 v8)), .u, .c (.s (.str v10))] ++ us 46) fun e => headK Tryz.prog (lookG (gam173 N115)) 11 lvs173 C k j0 bod173 [1, 1, 1, 1, 1, 0, 0] e (fin Tryz.prog Tryz.f173 none (tok173 Kt))
theorem run173_eq (k : Nat) (a0 : BY) (a1 a2 : Int) (Kt : Tk173) : run173 C N115 k a0 a1 a2 Kt =
 (bif (decide (0 ≤ (a0.length : Int)) && decide ((a0.length : Int) ≤ (a0.length : Int)) && decide ((a0.length : Int) ≤ 1099511627776)) then (l1_173 C N115 k k a0 a1 (List.replicate (a0.length : Int).toNat (0 : Int)) a2 (i64.wrap ((a0.length : Int) - 1)) Kt) else none) := by kernel_rfl
theorem l1_173_eq (hC : Cv C) (k j0 : Nat) (v0 : BY) (v1 : Int) (v7 : List Int) (v8 v9 : Int) (Kt : Tk173) : l1_173 C N115 k (j0 + 1) v0 v1 v7 v8 v9 Kt =
 (bif (decide (v9 ≥ 0)) then ((at? v0 v9).bind fun b1 => (bif (decide (0 ≤ v9) && decide (v9 < (v7.length : Int))) then (bif decide (v9.toNat < v7.length) then (l1_173 C N115 k j0 v0 v1 (v7.set v9.toNat (u8.wrap (i64.wrap ((48 : Int) + ((i64.wrap (v8 + (i64.wrap ((i64.wrap (u8.wrap ((b1.toNat : Int) - 48))) * v1)))).tmod 10))))) (i64.wrap ((i64.wrap (v8 + (i64.wrap ((i64.wrap (u8.wrap ((b1.toNat : Int) - 48))) * v1)))).tdiv 10)) (i64.wrap (v9 - 1)) Kt) else none) else none)) else (l2_173 C N115 k k v7 v8 ([] : BY) Kt)) := (hC _ _ _).trans (by kernel_rfl)
theorem l2_173_eq (hC : Cv C) (k j0 : Nat) (v7 : List Int) (v8 : Int) (v10 : BY) (Kt : Tk173) : l2_173 C N115 k (j0 + 1) v7 v8 v10 Kt =
 (bif (decide (v8 > 0)) then ((cat (([(u8.wrap (i64.wrap ((48 : Int) + (v8.tmod 10))))] : List Int).map fun n => UInt8.ofNat n.toNat) v10).bind fun s2 => (l2_173 C N115 k j0 v7 (i64.wrap (v8.tdiv 10)) s2 Kt)) else ((cat v10 (v7.map fun n => UInt8.ofNat n.toNat)).bind fun s3 => (N115 false s3 fun r4 => (Kt r4)))) := (hC _ _ _).trans (by kernel_rfl)
end
theorem as173 {G : World → Prop} {ng : Nat} (S : Stays Tryz.prog G ng) {N115 : Ty115} (h115 : FnIs Tryz.prog G ng 115 (adp115 N115)) {A : Ty173} (hA : ∀ (a0 : BY) (a1 : Int) (a2 : Int) (Kt : Tk173) (r : Out), A a0 a1 a2 Kt = some r → run173 cut0 N115 big a0 a1 a2 Kt = some r) : FnIs Tryz.prog G ng 173 (adp173 A) := by
 refine spec_run cut0_eq S (l := gam173 N115) (by intro p hp; simp only [gam173, List.mem_cons, List.not_mem_nil, or_false] at hp; rcases hp with rfl <;> assumption) Tryz.func173 (by kernel_rfl) (nn := 11) (Lv := lvs173) (k := big) fun rc cs K r h => ?_
 unfold adp173 at h
 split at h
 ·exact ⟨_, hA _ _ _ _ _ h, fun p hp => by unfold tok173 at hp; split at hp; exact hp; cases hp⟩
 ·cases h
def lvs174 : Nat → Option (List (Nat × Co))
 | 1000195 => some [(0, .k), (3, .k)]
 | _ => none
section
variable (C : Nat → Env → (Env → Option Out) → Option Out) (N92 : Ty92)
def gam174 : List (Nat × Fn1) := [(92, adp92 N92)]
def bod174 : Code := Tryz.f174.body.getD .skip
def run174 (k : Nat) (a0 : BY) (Kt : Tk174) : Option Out := runK Tryz.prog (lookG (gam174 N92)) 4 lvs174 C k Tryz.f174 none [.s (.str a0)] (tok174 Kt)
def l1_174 (k j0 : Nat) (v0 : BY) (v3 : Int) (Kt : Tk174) : Option Out := C 1000195 ([.c (.s (.str v0)), .u, .u, .c (.s (.int .i64 v3))] ++ us 14) fun e => headK Tryz.prog (lookG (gam174 N92)) 4 lvs174 C k j0 bod174 [1, 0, 1, 0] e (fin Tryz.prog Tryz.f174 none (tok174 Kt))
theorem run174_eq (k : Nat) (a0 : BY) (Kt : Tk174) : run174 C N92 k a0 Kt =
 (l1_174 C N92 k k a0 0 Kt) := by kernel_rfl
theorem l1_174_eq (hC : Cv C) (k j0 : Nat) (v0 : BY) (v3 : Int) (Kt : Tk174) : l1_174 C N92 k (j0 + 1) v0 v3 Kt =
 (bif (decide (v3 < (v0.length : Int))) then ((at? v0 v3).bind fun b1 => (N92 (b1.toNat : Int) fun r2 => (bif (!r2) then (Kt false) else (l1_174 C N92 k j0 v0 (i64.wrap (v3 + 1)) Kt)))) else (Kt (decide ((v0.length : Int) > 0)))) := (hC _ _ _).trans (by kernel_rfl)
end
theorem as174 {G : World → Prop} {ng : Nat} (S : Stays Tryz.prog G ng) {N92 : Ty92} (h92 : FnIs Tryz.prog G ng 92 (adp92 N92)) {A : Ty174} (hA : ∀ (a0 : BY) (Kt : Tk174) (r : Out), A a0 Kt = some r → run174 cut0 N92 big a0 Kt = some r) : FnIs Tryz.prog G ng 174 (adp174 A) := by
 refine spec_run cut0_eq S (l := gam174 N92) (by intro p hp; simp only [gam174, List.mem_cons, List.not_mem_nil, or_false] at hp; rcases hp with rfl <;> assumption) Tryz.func174 (by kernel_rfl) (nn := 4) (Lv := lvs174) (k := big) fun rc cs K r h => ?_
 unfold adp174 at h
 split at h
 ·exact ⟨_, hA _ _ _ h, fun p hp => by unfold tok174 at hp; split at hp; exact hp; cases hp⟩
 ·cases h
def lvs175 : Nat → Option (List (Nat × Co))
 | 194 => some [(0, .k), (1, .k), (2, .k), (30, .k)]
 | _ => none
section
variable (C : Nat → Env → (Env → Option Out) → Option Out) (N173 : Ty173) (N176 : Ty176)
def gam175 : List (Nat × Fn1) := [(173, adp173 N173), (176, adp176 N176)]
def bod175 : Code := Tryz.f175.body.getD .skip
def run175 (k : Nat) (a0 : BY) (a1 a2 : Int) (Kt : Tk175) : Option Out := runK Tryz.prog (lookG (gam175 N173 N176)) 7 lvs175 C k Tryz.f175 none [.s (.str a0), .s (.int .i64 a1), .s (.int .i64 a2)] (tok175 Kt)
def p1_175 (k : Nat) (v0 : BY) (v1 v2 : Int) (v30 : Bool) (Kt : Tk175) : Option Out := C 194 ([.c (.s (.str v0)), .c (.s (.int .i64 v1)), .c (.s (.int .i64 v2))] ++ us 27 ++ [.c (.s (.bool v30)), .u, .u, .u, .u]) fun e => atK Tryz.prog (lookG (gam175 N173 N176)) 7 lvs175 C k bod175 [1, 0, 1] e (fin Tryz.prog Tryz.f175 none (tok175 Kt))
theorem run175_eq (k : Nat) (a0 : BY) (a1 a2 : Int) (Kt : Tk175) : run175 C N173 N176 k a0 a1 a2 Kt =
 (N176 a0 fun r1 => (bif (!r1) then (p1_175 C N173 N176 k a0 a1 a2 true Kt) else ((at? a0 0).bind fun b2 => (bif ((b2.toNat : Int) == 45) then (p1_175 C N173 N176 k a0 a1 a2 true Kt) else (bif (decide (a1 < 0)) then (p1_175 C N173 N176 k a0 a1 a2 true Kt) else (bif (decide (a1 > 1099511627776)) then (p1_175 C N173 N176 k a0 a1 a2 true Kt) else (bif (decide (a2 < 0)) then (p1_175 C N173 N176 k a0 a1 a2 true Kt) else (p1_175 C N173 N176 k a0 a1 a2 (decide (a2 > 1099511627776)) Kt)))))))) := by kernel_rfl
theorem p1_175_eq (hC : Cv C) (k : Nat) (v0 : BY) (v1 v2 : Int) (v30 : Bool) (Kt : Tk175) : p1_175 C N173 N176 k v0 v1 v2 v30 Kt =
 (bif v30 then (Kt ([] : BY)) else (N173 v0 v1 v2 fun r3 => (Kt r3))) := (hC _ _ _).trans (by kernel_rfl)
end
theorem as175 {G : World → Prop} {ng : Nat} (S : Stays Tryz.prog G ng) {N173 : Ty173} {N176 : Ty176} (h173 : FnIs Tryz.prog G ng 173 (adp173 N173)) (h176 : FnIs Tryz.prog G ng 176 (adp176 N176)) {A : Ty175} (hA : ∀ (a0 : BY) (a1 : Int) (a2 : Int) (Kt : Tk175) (r : Out), A a0 a1 a2 Kt = some r → run175 cut0 N173 N176 big a0 a1 a2 Kt = some r) : FnIs Tryz.prog G ng 175 (adp175 A) := by
 refine spec_run cut0_eq S (l := gam175 N173 N176) (by intro p hp; simp only [gam175, List.mem_cons, List.not_mem_nil, or_false] at hp; rcases hp with rfl | rfl <;> assumption) Tryz.func175 (by kernel_rfl) (nn := 7) (Lv := lvs175) (k := big) fun rc cs K r h => ?_
 unfold adp175 at h
 split at h
 ·exact ⟨_, hA _ _ _ _ _ h, fun p hp => by unfold tok175 at hp; split at hp; exact hp; cases hp⟩
 ·cases h
def lvs176 : Nat → Option (List (Nat × Co))
 | 321 => some [(0, .k), (12, .k)]
 | 385 => some [(0, .k)]
 | _ => none
section
variable (C : Nat → Env → (Env → Option Out) → Option Out) (N174 : Ty174)
def gam176 : List (Nat × Fn1) := [(174, adp174 N174)]
def bod176 : Code := Tryz.f176.body.getD .skip
def run176 (k : Nat) (a0 : BY) (Kt : Tk176) : Option Out := runK Tryz.prog (lookG (gam176 N174)) 3 lvs176 C k Tryz.f176 none [.s (.str a0)] (tok176 Kt)
def p1_176 (k : Nat) (v0 : BY) (v12 : Bool) (Kt : Tk176) : Option Out := C 321 ([.c (.s (.str v0))] ++ us 11 ++ [.c (.s (.bool v12))] ++ us 9) fun e => atK Tryz.prog (lookG (gam176 N174)) 3 lvs176 C k bod176 [1, 1, 0, 1] e (fin Tryz.prog Tryz.f176 none (tok176 Kt))
def p2_176 (k : Nat) (v0 : BY) (Kt : Tk176) : Option Out := C 385 ([.c (.s (.str v0))] ++ us 21) fun e => atK Tryz.prog (lookG (gam176 N174)) 3 lvs176 C k bod176 [1, 1, 1] e (fin Tryz.prog Tryz.f176 none (tok176 Kt))
theorem run176_eq (k : Nat) (a0 : BY) (Kt : Tk176) : run176 C N174 k a0 Kt =
 (bif (a0 == ([48] : BY)) then (Kt true) else (bif (decide ((a0.length : Int) > 0)) then ((at? a0 0).bind fun b1 => (p1_176 C N174 k a0 ((b1.toNat : Int) == 45) Kt)) else (p1_176 C N174 k a0 false Kt))) := by kernel_rfl
theorem p1_176_eq (hC : Cv C) (k : Nat) (v0 : BY) (v12 : Bool) (Kt : Tk176) : p1_176 C N174 k v0 v12 Kt =
 (bif v12 then ((cut v0 (some (1 : Int)) none).bind fun s2 => (p2_176 C N174 k s2 Kt)) else (p2_176 C N174 k v0 Kt)) := (hC _ _ _).trans (by kernel_rfl)
theorem p2_176_eq (hC : Cv C) (k : Nat) (v0 : BY) (Kt : Tk176) : p2_176 C N174 k v0 Kt =
 (N174 v0 fun r3 => (bif r3 then ((at? v0 0).bind fun b4 => (Kt ((b4.toNat : Int) != 48))) else (Kt false))) := (hC _ _ _).trans (by kernel_rfl)
end
theorem as176 {G : World → Prop} {ng : Nat} (S : Stays Tryz.prog G ng) {N174 : Ty174} (h174 : FnIs Tryz.prog G ng 174 (adp174 N174)) {A : Ty176} (hA : ∀ (a0 : BY) (Kt : Tk176) (r : Out), A a0 Kt = some r → run176 cut0 N174 big a0 Kt = some r) : FnIs Tryz.prog G ng 176 (adp176 A) := by
 refine spec_run cut0_eq S (l := gam176 N174) (by intro p hp; simp only [gam176, List.mem_cons, List.not_mem_nil, or_false] at hp; rcases hp with rfl <;> assumption) Tryz.func176 (by kernel_rfl) (nn := 3) (Lv := lvs176) (k := big) fun rc cs K r h => ?_
 unfold adp176 at h
 split at h
 ·exact ⟨_, hA _ _ _ h, fun p hp => by unfold tok176 at hp; split at hp; exact hp; cases hp⟩
 ·cases h
def lvs177 : Nat → Option (List (Nat × Co))
 | 194 => some [(0, .k), (1, .k), (18, .k)]
 | 450 => some [(0, .k), (1, .k), (5, .k), (6, .k)]
 | 578 => some [(0, .k), (1, .k), (5, .k), (6, .k)]
 | _ => none
section
variable (C : Nat → Env → (Env → Option Out) → Option Out) (N20 : Ty20) (N115 : Ty115) (N173 : Ty173) (N176 : Ty176) (N217 : Ty217) (N218 : Ty218)
def gam177 : List (Nat × Fn1) := [(20, adp20 N20), (115, adp115 N115), (173, adp173 N173), (176, adp176 N176), (217, adp217 N217), (218, adp218 N218)]
def bod177 : Code := Tryz.f177.body.getD .skip
def run177 (k : Nat) (a0 : BY) (a1 : Int) (Kt : Tk177) : Option Out := runK Tryz.prog (lookG (gam177 N20 N115 N173 N176 N217 N218)) 8 lvs177 C k Tryz.f177 none [.s (.str a0), .s (.int .i64 a1)] (tok177 Kt)
def p1_177 (k : Nat) (v0 : BY) (v1 : Int) (v18 : Bool) (Kt : Tk177) : Option Out := C 194 ([.c (.s (.str v0)), .c (.s (.int .i64 v1))] ++ us 16 ++ [.c (.s (.bool v18))] ++ us 35) fun e => atK Tryz.prog (lookG (gam177 N20 N115 N173 N176 N217 N218)) 8 lvs177 C k bod177 [1, 0, 1] e (fin Tryz.prog Tryz.f177 none (tok177 Kt))
def p2_177 (k : Nat) (v0 : BY) (v1 : Int) (v5 v6 : Bool) (Kt : Tk177) : Option Out := C 450 ([.c (.s (.str v0)), .c (.s (.int .i64 v1)), .u, .u, .u, .c (.s (.bool v5)), .c (.s (.bool v6))] ++ us 47) fun e => atK Tryz.prog (lookG (gam177 N20 N115 N173 N176 N217 N218)) 8 lvs177 C k bod177 [1, 1, 1, 1] e (fin Tryz.prog Tryz.f177 none (tok177 Kt))
def p3_177 (k : Nat) (v0 : BY) (v1 : Int) (v5 v6 : Bool) (Kt : Tk177) : Option Out := C 578 ([.c (.s (.str v0)), .c (.s (.int .i64 v1)), .u, .u, .u, .c (.s (.bool v5)), .c (.s (.bool v6))] ++ us 47) fun e => atK Tryz.prog (lookG (gam177 N20 N115 N173 N176 N217 N218)) 8 lvs177 C k bod177 [1, 1, 1, 1, 1] e (fin Tryz.prog Tryz.f177 none (tok177 Kt))
theorem run177_eq (k : Nat) (a0 : BY) (a1 : Int) (Kt : Tk177) : run177 C N20 N115 N173 N176 N217 N218 k a0 a1 Kt =
 (N176 a0 fun r1 => (bif (!r1) then (p1_177 C N20 N115 N173 N176 N217 N218 k a0 a1 true Kt) else (bif (decide (a1 < (-1099511627776))) then (p1_177 C N20 N115 N173 N176 N217 N218 k a0 a1 true Kt) else (p1_177 C N20 N115 N173 N176 N217 N218 k a0 a1 (decide (a1 > 1099511627776)) Kt)))) := by kernel_rfl
theorem p1_177_eq (hC : Cv C) (k : Nat) (v0 : BY) (v1 : Int) (v18 : Bool) (Kt : Tk177) : p1_177 C N20 N115 N173 N176 N217 N218 k v0 v1 v18 Kt =
 (bif v18 then (Kt ([] : BY)) else ((at? v0 0).bind fun b2 => (bif ((b2.toNat : Int) == 45) then ((cut v0 (some (1 : Int)) none).bind fun s3 => (p2_177 C N20 N115 N173 N176 N217 N218 k s3 v1 ((b2.toNat : Int) == 45) (decide (v1 < 0)) Kt)) else (p2_177 C N20 N115 N173 N176 N217 N218 k v0 v1 ((b2.toNat : Int) == 45) (decide (v1 < 0)) Kt)))) := (hC _ _ _).trans (by kernel_rfl)
theorem p2_177_eq (hC : Cv C) (k : Nat) (v0 : BY) (v1 : Int) (v5 v6 : Bool) (Kt : Tk177) : p2_177 C N20 N115 N173 N176 N217 N218 k v0 v1 v5 v6 Kt =
 (bif v6 then (p3_177 C N20 N115 N173 N176 N217 N218 k v0 (i64.wrap (0 - v1)) v5 v6 Kt) else (p3_177 C N20 N115 N173 N176 N217 N218 k v0 v1 v5 v6 Kt)) := (hC _ _ _).trans (by kernel_rfl)
theorem p3_177_eq (hC : Cv C) (k : Nat) (v0 : BY) (v1 : Int) (v5 v6 : Bool) (Kt : Tk177) : p3_177 C N20 N115 N173 N176 N217 N218 k v0 v1 v5 v6 Kt =
 (bif (v5 == v6) then (N173 v0 1 v1 fun r4 => (N115 v5 r4 fun r5 => (Kt r5))) else (N20 v1 fun r6 => (N217 v0 r6 fun r7 => (bif (decide (r7 < 0)) then (N218 r6 v0 fun r8 => (N115 v6 r8 fun r9 => (Kt r9))) else (N218 v0 r6 fun r10 => (N115 v5 r10 fun r11 => (Kt r11))))))) := (hC _ _ _).trans (by kernel_rfl)
end
theorem as177 {G : World → Prop} {ng : Nat} (S : Stays Tryz.prog G ng) {N20 : Ty20} {N115 : Ty115} {N173 : Ty173} {N176 : Ty176} {N217 : Ty217} {N218 : Ty218} (h20 : FnIs Tryz.prog G ng 20 (adp20 N20)) (h115 : FnIs Tryz.prog G ng 115 (adp115 N115)) (h173 : FnIs Tryz.prog G ng 173 (adp173 N173)) (h176 : FnIs Tryz.prog G ng 176 (adp176 N176)) (h217 : FnIs Tryz.prog G ng 217 (adp217 N217)) (h218 : FnIs Tryz.prog G ng 218 (adp218 N218)) {A : Ty177} (hA : ∀ (a0 : BY) (a1 : Int) (Kt : Tk177) (r : Out), A a0 a1 Kt = some r → run177 cut0 N20 N115 N173 N176 N217 N218 big a0 a1 Kt = some r) : FnIs Tryz.prog G ng 177 (adp177 A) := by
 refine spec_run cut0_eq S (l := gam177 N20 N115 N173 N176 N217 N218) (by intro p hp; simp only [gam177, List.mem_cons, List.not_mem_nil, or_false] at hp; rcases hp with rfl | rfl | rfl | rfl | rfl | rfl <;> assumption) Tryz.func177 (by kernel_rfl) (nn := 8) (Lv := lvs177) (k := big) fun rc cs K r h => ?_
 unfold adp177 at h
 split at h
 ·exact ⟨_, hA _ _ _ _ h, fun p hp => by unfold tok177 at hp; split at hp; exact hp; cases hp⟩
 ·cases h
def lvs217 : Nat → Option (List (Nat × Co))
 | _ => none
section
variable (C : Nat → Env → (Env → Option Out) → Option Out)
def gam217 : List (Nat × Fn1) := []
def run217 (k : Nat) (a0 a1 : BY) (Kt : Tk217) : Option Out := runK Tryz.prog (lookG (gam217)) 5 lvs217 C k Tryz.f217 none [.s (.str a0), .s (.str a1)] (tok217 Kt)
theorem run217_eq (k : Nat) (a0 a1 : BY) (Kt : Tk217) : run217 C k a0 a1 Kt =
 (bif (decide ((a0.length : Int) < (a1.length : Int))) then (Kt (-1)) else (bif (decide ((a0.length : Int) > (a1.length : Int))) then (Kt 1) else (bif (Op.bytesLess a0 a1) then (Kt (-1)) else (bif (!(Op.bytesLess a0 a1 || a0 == a1)) then (Kt 1) else (Kt 0))))) := by kernel_rfl
end
theorem as217 {G : World → Prop} {ng : Nat} (S : Stays Tryz.prog G ng) {A : Ty217} (hA : ∀ (a0 : BY) (a1 : BY) (Kt : Tk217) (r : Out), A a0 a1 Kt = some r → run217 cut0 big a0 a1 Kt = some r) : FnIs Tryz.prog G ng 217 (adp217 A) := by
 refine spec_run cut0_eq S (l := gam217) (by intro p hp; cases hp) Tryz.func217 (by kernel_rfl) (nn := 5) (Lv := lvs217) (k := big) fun rc cs K r h => ?_
 unfold adp217 at h
 split at h
 ·exact ⟨_, hA _ _ _ _ h, fun p hp => by unfold tok217 at hp; split at hp; exact hp; cases hp⟩
 ·cases h
def lvs218 : Nat → Option (List (Nat × Co))
 | 641 => some [(0, .k), (1, .k), (5, .k), (7, .k), (8, .k)]
 | 832 => some [(0, .k), (1, .k), (5, .k), (6, .k), (7, .k), (8, .k)]
 | 1000323 => some [(0, .k), (1, .k), (5, .k), (6, .k), (7, .k)]
 | _ => none
section
variable (C : Nat → Env → (Env → Option Out) → Option Out) (N115 : Ty115)
def gam218 : List (Nat × Fn1) := [(115, adp115 N115)]
def bod218 : Code := Tryz.f218.body.getD .skip
def run218 (k : Nat) (a0 a1 : BY) (Kt : Tk218) : Option Out := runK Tryz.prog (lookG (gam218 N115)) 9 lvs218 C k Tryz.f218 none [.s (.str a0), .s (.str a1)] (tok218 Kt)
def l1_218 (k j0 : Nat) (v0 v1 : BY) (v5 : List Int) (v6 v7 : Int) (Kt : Tk218) : Option Out := C 1000323 ([.c (.s (.str v0)), .c (.s (.str v1)), .u, .u, .u, .c (.own (.ints .u8 v5)), .c (.s (.int .i64 v6)), .c (.s (.int .i64 v7))] ++ us 53) fun e => headK Tryz.prog (lookG (gam218 N115)) 9 lvs218 C k j0 bod218 [1, 1, 1, 0, 1, 0] e (fin Tryz.prog Tryz.f218 none (tok218 Kt))
def p2_218 (k j0 : Nat) (v0 v1 : BY) (v5 : List Int) (v7 v8 : Int) (Kt : Tk218) : Option Out := C 641 ([.c (.s (.str v0)), .c (.s (.str v1)), .u, .u, .u, .c (.own (.ints .u8 v5)), .u, .c (.s (.int .i64 v7)), .c (.s (.int .i64 v8))] ++ us 52) fun e => atK Tryz.prog (lookG (gam218 N115)) 9 lvs218 C k bod218 [1, 1, 1, 0, 1, 0, j0, 1, 0, 0, 1, 1] e (fin Tryz.prog Tryz.f218 none (tok218 Kt))
def p3_218 (k j0 : Nat) (v0 v1 : BY) (v5 : List Int) (v6 v7 v8 : Int) (Kt : Tk218) : Option Out := C 832 ([.c (.s (.str v0)), .c (.s (.str v1)), .u, .u, .u, .c (.own (.ints .u8 v5)), .c (.s (.int .i64 v6)), .c (.s (.int .i64 v7)), .c (.s (.int .i64 v8))] ++ us 52) fun e => atK Tryz.prog (lookG (gam218 N115)) 9 lvs218 C k bod218 [1, 1, 1, 0, 1, 0, j0, 1, 0, 0, 1, 1, 1, 1] e (fin Tryz.prog Tryz.f218 none (tok218 Kt))
theorem run218_eq (k : Nat) (a0 a1 : BY) (Kt : Tk218) : run218 C N115 k a0 a1 Kt =
 (bif (decide (0 ≤ (a0.length : Int)) && decide ((a0.length : Int) ≤ (a0.length : Int)) && decide ((a0.length : Int) ≤ 1099511627776)) then (l1_218 C N115 k k a0 a1 (List.replicate (a0.length : Int).toNat (0 : Int)) 0 0 Kt) else none) := by kernel_rfl
theorem l1_218_eq (hC : Cv C) (k j0 : Nat) (v0 v1 : BY) (v5 : List Int) (v6 v7 : Int) (Kt : Tk218) : l1_218 C N115 k (j0 + 1) v0 v1 v5 v6 v7 Kt =
 (bif (decide (v7 < (v0.length : Int))) then ((at? v0 (i64.wrap ((i64.wrap ((v0.length : Int) - 1)) - v7))).bind fun b1 => (bif (decide (v7 < (v1.length : Int))) then ((at? v1 (i64.wrap ((i64.wrap ((v1.length : Int) - 1)) - v7))).bind fun b2 => (p2_218 C N115 k j0 v0 v1 v5 v7 (i64.wrap ((i64.wrap ((i64.wrap (u8.wrap ((b1.toNat : Int) - 48))) - v6)) - (i64.wrap (u8.wrap ((b2.toNat : Int) - 48))))) Kt)) else (p2_218 C N115 k j0 v0 v1 v5 v7 (i64.wrap ((i64.wrap (u8.wrap ((b1.toNat : Int) - 48))) - v6)) Kt))) else (N115 false (v5.map fun n => UInt8.ofNat n.toNat) fun r3 => (Kt r3))) := (hC _ _ _).trans (by kernel_rfl)
theorem p2_218_eq (hC : Cv C) (k j0 : Nat) (v0 v1 : BY) (v5 : List Int) (v7 v8 : Int) (Kt : Tk218) : p2_218 C N115 k j0 v0 v1 v5 v7 v8 Kt =
 (bif (decide (v8 < 0)) then (p3_218 C N115 k j0 v0 v1 v5 1 v7 (i64.wrap (v8 + 10)) Kt) else (p3_218 C N115 k j0 v0 v1 v5 0 v7 v8 Kt)) := (hC _ _ _).trans (by kernel_rfl)
theorem p3_218_eq (hC : Cv C) (k j0 : Nat) (v0 v1 : BY) (v5 : List Int) (v6 v7 v8 : Int) (Kt : Tk218) : p3_218 C N115 k j0 v0 v1 v5 v6 v7 v8 Kt =
 (bif (decide (0 ≤ (i64.wrap ((i64.wrap ((v0.length : Int) - 1)) - v7))) && decide ((i64.wrap ((i64.wrap ((v0.length : Int) - 1)) - v7)) < (v5.length : Int))) then (bif decide ((i64.wrap ((i64.wrap ((v0.length : Int) - 1)) - v7)).toNat < v5.length) then (l1_218 C N115 k j0 v0 v1 (v5.set (i64.wrap ((i64.wrap ((v0.length : Int) - 1)) - v7)).toNat (u8.wrap (i64.wrap ((48 : Int) + v8)))) v6 (i64.wrap (v7 + 1)) Kt) else none) else none) := (hC _ _ _).trans (by kernel_rfl)
end
theorem as218 {G : World → Prop} {ng : Nat} (S : Stays Tryz.prog G ng) {N115 : Ty115} (h115 : FnIs Tryz.prog G ng 115 (adp115 N115)) {A : Ty218} (hA : ∀ (a0 : BY) (a1 : BY) (Kt : Tk218) (r : Out), A a0 a1 Kt = some r → run218 cut0 N115 big a0 a1 Kt = some r) : FnIs Tryz.prog G ng 218 (adp218 A) := by
 refine spec_run cut0_eq S (l := gam218 N115) (by intro p hp; simp only [gam218, List.mem_cons, List.not_mem_nil, or_false] at hp; rcases hp with rfl <;> assumption) Tryz.func218 (by kernel_rfl) (nn := 9) (Lv := lvs218) (k := big) fun rc cs K r h => ?_
 unfold adp218 at h
 split at h
 ·exact ⟨_, hA _ _ _ _ h, fun p hp => by unfold tok218 at hp; split at hp; exact hp; cases hp⟩
 ·cases h
end
end Go.Proofs.YtffmgholjdfcnaaGreatDoor
