/- Pieces of the program's functions, printed by gen.py (a program of this session's own), and the equations that the kernel finds. -/
import Derived.Test.YtffmgholjdfcnaaGreatDoorGW
import Derived.Test.YtffmgholjdfcnaaGreatDoorProg
set_option maxRecDepth 100000
set_option linter.unusedVariables false
namespace Go.Proofs.YtffmgholjdfcnaaGreatDoor
open Go Go.Proofs AM
/-! targum/float11.Of -/
def lvs65 : Nat → Option (List (Nat × Co))
  | _ => none
section
variable (C : Nat → Env → (Env → Option Out) → Option Out) (N99 : Ty99) (N106 : Ty106) (N107 : Ty107) (N108 : Ty108)
def gam65 : List (Nat × Fn1) := [(99, adp99 N99), (106, adp106 N106), (107, adp107 N107), (108, adp108 N108)]
noncomputable def bod65 : Code := Tryz.f65.body.getD .skip
noncomputable def run65 (k : Nat) (a0 : BY) (Kt : Tk65) : Option Out := runK Tryz.prog (lookG (gam65 N99 N106 N107 N108)) 6 lvs65 C k Tryz.f65 none [.s (.str a0)] (tok65 Kt)
theorem run65_eq (k : Nat) (a0 : BY) (Kt : Tk65) : run65 C N99 N106 N107 N108 k a0 Kt =
  (N106 a0 fun r1 r2 r3 r4 r5 => (bif (r1 == 0) then (Kt 0 false ([] : BY) ([] : BY) false) else (bif (r1 == 4) then (Kt 1 r2 ([] : BY) ([] : BY) true) else (bif (r1 == 5) then (Kt 2 false ([] : BY) ([] : BY) true) else (N107 r3 fun r6 => (N108 r6 fun r7 => (N107 r4 fun r8 => (N99 r2 r7 r8 r5 fun r9 r10 r11 r12 r13 => (Kt r9 r10 r11 r12 r13))))))))) := by kernel_rfl
end
theorem as65 {G : World → Prop} {ng : Nat} (S : Stays Tryz.prog G ng) {N99 : Ty99} {N106 : Ty106} {N107 : Ty107} {N108 : Ty108} (h99 : FnIs Tryz.prog G ng 99 (adp99 N99)) (h106 : FnIs Tryz.prog G ng 106 (adp106 N106)) (h107 : FnIs Tryz.prog G ng 107 (adp107 N107)) (h108 : FnIs Tryz.prog G ng 108 (adp108 N108)) {A : Ty65} (hA : ∀ (a0 : BY) (Kt : Tk65) (r : Out), A a0 Kt = some r → run65 cut0 N99 N106 N107 N108 big a0 Kt = some r) : FnIs Tryz.prog G ng 65 (adp65 A) := by
  refine spec_run cut0_eq S (l := gam65 N99 N106 N107 N108) (by intro p hp; simp only [gam65, List.mem_cons, List.not_mem_nil, or_false] at hp; rcases hp with rfl | rfl | rfl | rfl <;> assumption) Tryz.func65 (by kernel_rfl) (nn := 6) (Lv := lvs65) (k := big) fun rc cs K r h => ?_
  unfold adp65 at h
  split at h
  · exact ⟨_, hA _ _ _ h, fun p hp => by unfold tok65 at hp; split at hp; exact hp; cases hp⟩
  · cases h

/-! targum/float11.read -/
def lvs106 : Nat → Option (List (Nat × Co))
  | 257 => some [(0, .k), (2, .k), (3, .k), (4, .k)]
  | 513 => some [(0, .k), (2, .k), (3, .k), (4, .k), (5, .k)]
  | 3000000 => some [(2, .k)]
  | 3000001 => some [(0, .k), (2, .k), (3, .k), (5, .k)]
  | 3000002 => some [(0, .k), (2, .k), (3, .k), (5, .k)]
  | _ => none
section
variable (C : Nat → Env → (Env → Option Out) → Option Out) (N96 : Ty96) (N159 : Ty159) (N160 : Ty160) (N161 : Ty161) (N162 : Ty162) (N163 : Ty163)
def gam106 : List (Nat × Fn1) := [(96, adp96 N96), (159, adp159 N159), (160, adp160 N160), (161, adp161 N161), (162, adp162 N162), (163, adp163 N163)]
noncomputable def bod106 : Code := Tryz.f106.body.getD .skip
noncomputable def run106 (k : Nat) (a0 : BY) (Kt : Tk106) : Option Out := runK Tryz.prog (lookG (gam106 N96 N159 N160 N161 N162 N163)) 3 lvs106 C k Tryz.f106 none [.s (.str a0)] (tok106 Kt)
noncomputable def p1_106 (k : Nat) (j0 : Nat) (v0 : BY) (v2_0 : Int) (v2_1 : Bool) (v2_2 : BY) (v2_3 : BY) (v2_4 : BY) (v3_0 : Int) (v3_1 : Bool) (v3_2 : BY) (v3_3 : BY) (v3_4 : BY) (v4 : Bool) (Kt : Tk106) : Option Out := C 257 ([.c (.s (.str v0)), .u, .box 119 (.ss [.int .i64 v2_0, .bool v2_1, .str v2_2, .str v2_3, .str v2_4]), .box 119 (.ss [.int .i64 v3_0, .bool v3_1, .str v3_2, .str v3_3, .str v3_4]), .c (.s (.bool v4))] ++ us 132) fun e => atK Tryz.prog (lookG (gam106 N96 N159 N160 N161 N162 N163)) 3 lvs106 C k bod106 [1, j0, 1, 1] e (fin Tryz.prog Tryz.f106 none (tok106 Kt))
noncomputable def p2_106 (k : Nat) (j0 : Nat) (v0 : BY) (v2_0 : Int) (v2_1 : Bool) (v2_2 : BY) (v2_3 : BY) (v2_4 : BY) (v3_0 : Int) (v3_1 : Bool) (v3_2 : BY) (v3_3 : BY) (v3_4 : BY) (v4 : Bool) (v5 : Int) (Kt : Tk106) : Option Out := C 513 ([.c (.s (.str v0)), .u, .box 119 (.ss [.int .i64 v2_0, .bool v2_1, .str v2_2, .str v2_3, .str v2_4]), .box 119 (.ss [.int .i64 v3_0, .bool v3_1, .str v3_2, .str v3_3, .str v3_4]), .c (.s (.bool v4)), .c (.s (.int .i64 v5))] ++ us 131) fun e => atK Tryz.prog (lookG (gam106 N96 N159 N160 N161 N162 N163)) 3 lvs106 C k bod106 [1, j0, 1, 1, 1, 1] e (fin Tryz.prog Tryz.f106 none (tok106 Kt))
noncomputable def g3_106 (k : Nat) (j0 : Nat) (v2_0 : Int) (v2_1 : Bool) (v2_2 : BY) (v2_3 : BY) (v2_4 : BY) (Kt : Tk106) : Option Out := C 3000000 ([.u, .u, .box 119 (.ss [.int .i64 v2_0, .bool v2_1, .str v2_2, .str v2_3, .str v2_4])] ++ us 134) fun e => jumpK Tryz.prog (lookG (gam106 N96 N159 N160 N161 N162 N163)) 3 lvs106 C k j0 0 bod106 [1] e (fin Tryz.prog Tryz.f106 none (tok106 Kt))
noncomputable def g4_106 (k : Nat) (j0 : Nat) (v0 : BY) (v2_0 : Int) (v2_1 : Bool) (v2_2 : BY) (v2_3 : BY) (v2_4 : BY) (v3_0 : Int) (v3_1 : Bool) (v3_2 : BY) (v3_3 : BY) (v3_4 : BY) (v5 : Int) (Kt : Tk106) : Option Out := C 3000001 ([.c (.s (.str v0)), .u, .box 119 (.ss [.int .i64 v2_0, .bool v2_1, .str v2_2, .str v2_3, .str v2_4]), .box 119 (.ss [.int .i64 v3_0, .bool v3_1, .str v3_2, .str v3_3, .str v3_4]), .u, .c (.s (.int .i64 v5))] ++ us 131) fun e => jumpK Tryz.prog (lookG (gam106 N96 N159 N160 N161 N162 N163)) 3 lvs106 C k j0 1 bod106 [1] e (fin Tryz.prog Tryz.f106 none (tok106 Kt))
noncomputable def g5_106 (k : Nat) (j0 : Nat) (v0 : BY) (v2_0 : Int) (v2_1 : Bool) (v2_2 : BY) (v2_3 : BY) (v2_4 : BY) (v3_0 : Int) (v3_1 : Bool) (v3_2 : BY) (v3_3 : BY) (v3_4 : BY) (v5 : Int) (Kt : Tk106) : Option Out := C 3000002 ([.c (.s (.str v0)), .u, .box 119 (.ss [.int .i64 v2_0, .bool v2_1, .str v2_2, .str v2_3, .str v2_4]), .box 119 (.ss [.int .i64 v3_0, .bool v3_1, .str v3_2, .str v3_3, .str v3_4]), .u, .c (.s (.int .i64 v5))] ++ us 131) fun e => jumpK Tryz.prog (lookG (gam106 N96 N159 N160 N161 N162 N163)) 3 lvs106 C k j0 2 bod106 [1] e (fin Tryz.prog Tryz.f106 none (tok106 Kt))
theorem run106_eq (k : Nat) (a0 : BY) (Kt : Tk106) : run106 C N96 N159 N160 N161 N162 N163 k a0 Kt =
  (bif (!(a0 == ([] : BY))) then ((at? a0 0).bind fun b1 => (bif ((b1.toNat : Int) == 43) then (p1_106 C N96 N159 N160 N161 N162 N163 k k a0 0 false ([] : BY) ([] : BY) ([] : BY) 0 false ([] : BY) ([] : BY) ([48] : BY) true Kt) else ((at? a0 0).bind fun b2 => (p1_106 C N96 N159 N160 N161 N162 N163 k k a0 0 false ([] : BY) ([] : BY) ([] : BY) 0 false ([] : BY) ([] : BY) ([48] : BY) ((b2.toNat : Int) == 45) Kt)))) else (p1_106 C N96 N159 N160 N161 N162 N163 k k a0 0 false ([] : BY) ([] : BY) ([] : BY) 0 false ([] : BY) ([] : BY) ([48] : BY) false Kt)) := by kernel_rfl
theorem p1_106_eq (hC : ∀ key e t, C key e t = t e) (k : Nat) (j0 : Nat) (v0 : BY) (v2_0 : Int) (v2_1 : Bool) (v2_2 : BY) (v2_3 : BY) (v2_4 : BY) (v3_0 : Int) (v3_1 : Bool) (v3_2 : BY) (v3_3 : BY) (v3_4 : BY) (v4 : Bool) (Kt : Tk106) : p1_106 C N96 N159 N160 N161 N162 N163 k j0 v0 v2_0 v2_1 v2_2 v2_3 v2_4 v3_0 v3_1 v3_2 v3_3 v3_4 v4 Kt =
  (bif v4 then ((at? v0 0).bind fun b3 => ((cut v0 (some (1 : Int)) none).bind fun s4 => (p2_106 C N96 N159 N160 N161 N162 N163 k j0 s4 v2_0 v2_1 v2_2 v2_3 v2_4 v3_0 ((b3.toNat : Int) == 45) v3_2 v3_3 v3_4 v4 0 Kt))) else (p2_106 C N96 N159 N160 N161 N162 N163 k j0 v0 v2_0 v2_1 v2_2 v2_3 v2_4 v3_0 v3_1 v3_2 v3_3 v3_4 v4 0 Kt)) := (hC _ _ _).trans (by kernel_rfl)
theorem p2_106_eq (hC : ∀ key e t, C key e t = t e) (k : Nat) (j0 : Nat) (v0 : BY) (v2_0 : Int) (v2_1 : Bool) (v2_2 : BY) (v2_3 : BY) (v2_4 : BY) (v3_0 : Int) (v3_1 : Bool) (v3_2 : BY) (v3_3 : BY) (v3_4 : BY) (v4 : Bool) (v5 : Int) (Kt : Tk106) : p2_106 C N96 N159 N160 N161 N162 N163 k j0 v0 v2_0 v2_1 v2_2 v2_3 v2_4 v3_0 v3_1 v3_2 v3_3 v3_4 v4 v5 Kt =
  (N159 v0 v4 fun r5 => (bif (decide (r5 > 0)) then (Kt r5 v3_1 v3_2 v3_3 v3_4) else (bif (v0 == ([] : BY)) then (g3_106 C N96 N159 N160 N161 N162 N163 k j0 v2_0 v2_1 v2_2 v2_3 v2_4 Kt) else ((at? v0 0).bind fun b6 => (bif ((b6.toNat : Int) == 46) then (g4_106 C N96 N159 N160 N161 N162 N163 k j0 v0 v2_0 v2_1 v2_2 v2_3 v2_4 2 v3_1 v3_2 v3_3 v3_4 v5 Kt) else ((at? v0 0).bind fun b7 => (N160 (b7.toNat : Int) fun r8 => (bif (!r8) then (g3_106 C N96 N159 N160 N161 N162 N163 k j0 v2_0 v2_1 v2_2 v2_3 v2_4 Kt) else (N161 v0 fun r9 => ((cut v0 (some r9) none).bind fun s10 => (N162 s10 fun r11 => (bif (decide (r11 > 0)) then (g5_106 C N96 N159 N160 N161 N162 N163 k j0 v0 v2_0 v2_1 v2_2 v2_3 v2_4 3 v3_1 v3_2 v3_3 v3_4 (IntKind.i64.wrap (r9 + r11)) Kt) else (bif (r9 == (v0.length : Int)) then (g3_106 C N96 N159 N160 N161 N162 N163 k j0 v2_0 v2_1 v2_2 v2_3 v2_4 Kt) else ((at? v0 r9).bind fun b12 => (bif ((b12.toNat : Int) != 46) then (g3_106 C N96 N159 N160 N161 N162 N163 k j0 v2_0 v2_1 v2_2 v2_3 v2_4 Kt) else ((cut v0 none (some r9)).bind fun s13 => ((cut v0 (some (IntKind.i64.wrap (r9 + 1))) none).bind fun s14 => (N161 s14 fun r15 => ((cut s14 none (some r15)).bind fun s16 => ((cut s14 (some r15) none).bind fun s17 => (bif (s17 == ([] : BY)) then (Kt 1 v3_1 s13 s16 v3_4) else (bif (decide ((s17.length : Int) < 3)) then (g3_106 C N96 N159 N160 N161 N162 N163 k j0 v2_0 v2_1 v2_2 v2_3 v2_4 Kt) else ((at? s17 0).bind fun b18 => (bif ((b18.toNat : Int) != 101) then ((at? s17 0).bind fun b19 => (bif ((b19.toNat : Int) != 69) then (g3_106 C N96 N159 N160 N161 N162 N163 k j0 v2_0 v2_1 v2_2 v2_3 v2_4 Kt) else ((at? s17 1).bind fun b20 => (bif ((b20.toNat : Int) != 43) then ((at? s17 1).bind fun b21 => (bif ((b21.toNat : Int) != 45) then (g3_106 C N96 N159 N160 N161 N162 N163 k j0 v2_0 v2_1 v2_2 v2_3 v2_4 Kt) else ((at? s17 1).bind fun b22 => ((cut s17 (some (2 : Int)) none).bind fun s23 => (N96 ((b22.toNat : Int) == 45) s23 fun r24 => (bif (!(r24 == ([] : BY))) then (Kt 1 v3_1 s13 s16 r24) else (Kt 0 false ([] : BY) ([] : BY) ([] : BY)))))))) else ((at? s17 1).bind fun b25 => ((cut s17 (some (2 : Int)) none).bind fun s26 => (N96 ((b25.toNat : Int) == 45) s26 fun r27 => (bif (!(r27 == ([] : BY))) then (Kt 1 v3_1 s13 s16 r27) else (Kt 0 false ([] : BY) ([] : BY) ([] : BY)))))))))) else ((at? s17 1).bind fun b28 => (bif ((b28.toNat : Int) != 43) then ((at? s17 1).bind fun b29 => (bif ((b29.toNat : Int) != 45) then (g3_106 C N96 N159 N160 N161 N162 N163 k j0 v2_0 v2_1 v2_2 v2_3 v2_4 Kt) else ((at? s17 1).bind fun b30 => ((cut s17 (some (2 : Int)) none).bind fun s31 => (N96 ((b30.toNat : Int) == 45) s31 fun r32 => (bif (!(r32 == ([] : BY))) then (Kt 1 v3_1 s13 s16 r32) else (Kt 0 false ([] : BY) ([] : BY) ([] : BY)))))))) else ((at? s17 1).bind fun b33 => ((cut s17 (some (2 : Int)) none).bind fun s34 => (N96 ((b33.toNat : Int) == 45) s34 fun r35 => (bif (!(r35 == ([] : BY))) then (Kt 1 v3_1 s13 s16 r35) else (Kt 0 false ([] : BY) ([] : BY) ([] : BY)))))))))))))))))))))))))))))))) := (hC _ _ _).trans (by kernel_rfl)
theorem g3_106_eq (hC : ∀ key e t, C key e t = t e) (k : Nat) (j0 : Nat) (v2_0 : Int) (v2_1 : Bool) (v2_2 : BY) (v2_3 : BY) (v2_4 : BY) (Kt : Tk106) : g3_106 C N96 N159 N160 N161 N162 N163 k (j0 + 1) v2_0 v2_1 v2_2 v2_3 v2_4 Kt =
  (Kt 0 false ([] : BY) ([] : BY) ([] : BY)) := (hC _ _ _).trans (by kernel_rfl)
theorem g4_106_eq (hC : ∀ key e t, C key e t = t e) (k : Nat) (j0 : Nat) (v0 : BY) (v2_0 : Int) (v2_1 : Bool) (v2_2 : BY) (v2_3 : BY) (v2_4 : BY) (v3_0 : Int) (v3_1 : Bool) (v3_2 : BY) (v3_3 : BY) (v3_4 : BY) (v5 : Int) (Kt : Tk106) : g4_106 C N96 N159 N160 N161 N162 N163 k (j0 + 1) v0 v2_0 v2_1 v2_2 v2_3 v2_4 v3_0 v3_1 v3_2 v3_3 v3_4 v5 Kt =
  ((cut v0 none (some v5)).bind fun s36 => ((cut v0 (some (IntKind.i64.wrap (v5 + 1))) none).bind fun s37 => (N161 s37 fun r38 => ((cut s37 none (some r38)).bind fun s39 => ((cut s37 (some r38) none).bind fun s40 => (bif (v3_0 == 2) then (N163 s39 ([95] : BY) fun r41 => (bif (r41 == ([] : BY)) then (g3_106 C N96 N159 N160 N161 N162 N163 k j0 v2_0 v2_1 v2_2 v2_3 v2_4 Kt) else (bif (s40 == ([] : BY)) then (Kt v3_0 v3_1 s36 s39 v3_4) else (bif (v3_0 == 3) then (g3_106 C N96 N159 N160 N161 N162 N163 k j0 v2_0 v2_1 v2_2 v2_3 v2_4 Kt) else (bif (decide ((s40.length : Int) < 3)) then (g3_106 C N96 N159 N160 N161 N162 N163 k j0 v2_0 v2_1 v2_2 v2_3 v2_4 Kt) else ((at? s40 0).bind fun b42 => (bif ((b42.toNat : Int) != 101) then ((at? s40 0).bind fun b43 => (bif ((b43.toNat : Int) != 69) then (g3_106 C N96 N159 N160 N161 N162 N163 k j0 v2_0 v2_1 v2_2 v2_3 v2_4 Kt) else ((at? s40 1).bind fun b44 => (bif ((b44.toNat : Int) != 43) then ((at? s40 1).bind fun b45 => (bif ((b45.toNat : Int) != 45) then (g3_106 C N96 N159 N160 N161 N162 N163 k j0 v2_0 v2_1 v2_2 v2_3 v2_4 Kt) else ((at? s40 1).bind fun b46 => ((cut s40 (some (2 : Int)) none).bind fun s47 => (N96 ((b46.toNat : Int) == 45) s47 fun r48 => (bif (!(r48 == ([] : BY))) then (Kt v3_0 v3_1 s36 s39 r48) else (Kt 0 false ([] : BY) ([] : BY) ([] : BY)))))))) else ((at? s40 1).bind fun b49 => ((cut s40 (some (2 : Int)) none).bind fun s50 => (N96 ((b49.toNat : Int) == 45) s50 fun r51 => (bif (!(r51 == ([] : BY))) then (Kt v3_0 v3_1 s36 s39 r51) else (Kt 0 false ([] : BY) ([] : BY) ([] : BY)))))))))) else ((at? s40 1).bind fun b52 => (bif ((b52.toNat : Int) != 43) then ((at? s40 1).bind fun b53 => (bif ((b53.toNat : Int) != 45) then (g3_106 C N96 N159 N160 N161 N162 N163 k j0 v2_0 v2_1 v2_2 v2_3 v2_4 Kt) else ((at? s40 1).bind fun b54 => ((cut s40 (some (2 : Int)) none).bind fun s55 => (N96 ((b54.toNat : Int) == 45) s55 fun r56 => (bif (!(r56 == ([] : BY))) then (Kt v3_0 v3_1 s36 s39 r56) else (Kt 0 false ([] : BY) ([] : BY) ([] : BY)))))))) else ((at? s40 1).bind fun b57 => ((cut s40 (some (2 : Int)) none).bind fun s58 => (N96 ((b57.toNat : Int) == 45) s58 fun r59 => (bif (!(r59 == ([] : BY))) then (Kt v3_0 v3_1 s36 s39 r59) else (Kt 0 false ([] : BY) ([] : BY) ([] : BY))))))))))))))) else (bif (s40 == ([] : BY)) then (Kt v3_0 v3_1 s36 s39 v3_4) else (bif (v3_0 == 3) then (g3_106 C N96 N159 N160 N161 N162 N163 k j0 v2_0 v2_1 v2_2 v2_3 v2_4 Kt) else (bif (decide ((s40.length : Int) < 3)) then (g3_106 C N96 N159 N160 N161 N162 N163 k j0 v2_0 v2_1 v2_2 v2_3 v2_4 Kt) else ((at? s40 0).bind fun b60 => (bif ((b60.toNat : Int) != 101) then ((at? s40 0).bind fun b61 => (bif ((b61.toNat : Int) != 69) then (g3_106 C N96 N159 N160 N161 N162 N163 k j0 v2_0 v2_1 v2_2 v2_3 v2_4 Kt) else ((at? s40 1).bind fun b62 => (bif ((b62.toNat : Int) != 43) then ((at? s40 1).bind fun b63 => (bif ((b63.toNat : Int) != 45) then (g3_106 C N96 N159 N160 N161 N162 N163 k j0 v2_0 v2_1 v2_2 v2_3 v2_4 Kt) else ((at? s40 1).bind fun b64 => ((cut s40 (some (2 : Int)) none).bind fun s65 => (N96 ((b64.toNat : Int) == 45) s65 fun r66 => (bif (!(r66 == ([] : BY))) then (Kt v3_0 v3_1 s36 s39 r66) else (Kt 0 false ([] : BY) ([] : BY) ([] : BY)))))))) else ((at? s40 1).bind fun b67 => ((cut s40 (some (2 : Int)) none).bind fun s68 => (N96 ((b67.toNat : Int) == 45) s68 fun r69 => (bif (!(r69 == ([] : BY))) then (Kt v3_0 v3_1 s36 s39 r69) else (Kt 0 false ([] : BY) ([] : BY) ([] : BY)))))))))) else ((at? s40 1).bind fun b70 => (bif ((b70.toNat : Int) != 43) then ((at? s40 1).bind fun b71 => (bif ((b71.toNat : Int) != 45) then (g3_106 C N96 N159 N160 N161 N162 N163 k j0 v2_0 v2_1 v2_2 v2_3 v2_4 Kt) else ((at? s40 1).bind fun b72 => ((cut s40 (some (2 : Int)) none).bind fun s73 => (N96 ((b72.toNat : Int) == 45) s73 fun r74 => (bif (!(r74 == ([] : BY))) then (Kt v3_0 v3_1 s36 s39 r74) else (Kt 0 false ([] : BY) ([] : BY) ([] : BY)))))))) else ((at? s40 1).bind fun b75 => ((cut s40 (some (2 : Int)) none).bind fun s76 => (N96 ((b75.toNat : Int) == 45) s76 fun r77 => (bif (!(r77 == ([] : BY))) then (Kt v3_0 v3_1 s36 s39 r77) else (Kt 0 false ([] : BY) ([] : BY) ([] : BY))))))))))))))))))) := (hC _ _ _).trans (by kernel_rfl)
theorem g5_106_eq (hC : ∀ key e t, C key e t = t e) (k : Nat) (j0 : Nat) (v0 : BY) (v2_0 : Int) (v2_1 : Bool) (v2_2 : BY) (v2_3 : BY) (v2_4 : BY) (v3_0 : Int) (v3_1 : Bool) (v3_2 : BY) (v3_3 : BY) (v3_4 : BY) (v5 : Int) (Kt : Tk106) : g5_106 C N96 N159 N160 N161 N162 N163 k (j0 + 1) v0 v2_0 v2_1 v2_2 v2_3 v2_4 v3_0 v3_1 v3_2 v3_3 v3_4 v5 Kt =
  ((cut v0 (some v5) none).bind fun s78 => (N162 s78 fun r79 => (bif (decide (r79 > 0)) then (g5_106 C N96 N159 N160 N161 N162 N163 k j0 v0 v2_0 v2_1 v2_2 v2_3 v2_4 3 v3_1 v3_2 v3_3 v3_4 (IntKind.i64.wrap (v5 + r79)) Kt) else (bif (v5 == (v0.length : Int)) then (g3_106 C N96 N159 N160 N161 N162 N163 k j0 v2_0 v2_1 v2_2 v2_3 v2_4 Kt) else ((at? v0 v5).bind fun b80 => (bif ((b80.toNat : Int) != 46) then (g3_106 C N96 N159 N160 N161 N162 N163 k j0 v2_0 v2_1 v2_2 v2_3 v2_4 Kt) else ((cut v0 none (some v5)).bind fun s81 => ((cut v0 (some (IntKind.i64.wrap (v5 + 1))) none).bind fun s82 => (N161 s82 fun r83 => ((cut s82 none (some r83)).bind fun s84 => ((cut s82 (some r83) none).bind fun s85 => (bif (v3_0 == 2) then (N163 s84 ([95] : BY) fun r86 => (bif (r86 == ([] : BY)) then (g3_106 C N96 N159 N160 N161 N162 N163 k j0 v2_0 v2_1 v2_2 v2_3 v2_4 Kt) else (bif (s85 == ([] : BY)) then (Kt v3_0 v3_1 s81 s84 v3_4) else (bif (v3_0 == 3) then (g3_106 C N96 N159 N160 N161 N162 N163 k j0 v2_0 v2_1 v2_2 v2_3 v2_4 Kt) else (bif (decide ((s85.length : Int) < 3)) then (g3_106 C N96 N159 N160 N161 N162 N163 k j0 v2_0 v2_1 v2_2 v2_3 v2_4 Kt) else ((at? s85 0).bind fun b87 => (bif ((b87.toNat : Int) != 101) then ((at? s85 0).bind fun b88 => (bif ((b88.toNat : Int) != 69) then (g3_106 C N96 N159 N160 N161 N162 N163 k j0 v2_0 v2_1 v2_2 v2_3 v2_4 Kt) else ((at? s85 1).bind fun b89 => (bif ((b89.toNat : Int) != 43) then ((at? s85 1).bind fun b90 => (bif ((b90.toNat : Int) != 45) then (g3_106 C N96 N159 N160 N161 N162 N163 k j0 v2_0 v2_1 v2_2 v2_3 v2_4 Kt) else ((at? s85 1).bind fun b91 => ((cut s85 (some (2 : Int)) none).bind fun s92 => (N96 ((b91.toNat : Int) == 45) s92 fun r93 => (bif (!(r93 == ([] : BY))) then (Kt v3_0 v3_1 s81 s84 r93) else (Kt 0 false ([] : BY) ([] : BY) ([] : BY)))))))) else ((at? s85 1).bind fun b94 => ((cut s85 (some (2 : Int)) none).bind fun s95 => (N96 ((b94.toNat : Int) == 45) s95 fun r96 => (bif (!(r96 == ([] : BY))) then (Kt v3_0 v3_1 s81 s84 r96) else (Kt 0 false ([] : BY) ([] : BY) ([] : BY)))))))))) else ((at? s85 1).bind fun b97 => (bif ((b97.toNat : Int) != 43) then ((at? s85 1).bind fun b98 => (bif ((b98.toNat : Int) != 45) then (g3_106 C N96 N159 N160 N161 N162 N163 k j0 v2_0 v2_1 v2_2 v2_3 v2_4 Kt) else ((at? s85 1).bind fun b99 => ((cut s85 (some (2 : Int)) none).bind fun s100 => (N96 ((b99.toNat : Int) == 45) s100 fun r101 => (bif (!(r101 == ([] : BY))) then (Kt v3_0 v3_1 s81 s84 r101) else (Kt 0 false ([] : BY) ([] : BY) ([] : BY)))))))) else ((at? s85 1).bind fun b102 => ((cut s85 (some (2 : Int)) none).bind fun s103 => (N96 ((b102.toNat : Int) == 45) s103 fun r104 => (bif (!(r104 == ([] : BY))) then (Kt v3_0 v3_1 s81 s84 r104) else (Kt 0 false ([] : BY) ([] : BY) ([] : BY))))))))))))))) else (bif (s85 == ([] : BY)) then (Kt v3_0 v3_1 s81 s84 v3_4) else (bif (v3_0 == 3) then (g3_106 C N96 N159 N160 N161 N162 N163 k j0 v2_0 v2_1 v2_2 v2_3 v2_4 Kt) else (bif (decide ((s85.length : Int) < 3)) then (g3_106 C N96 N159 N160 N161 N162 N163 k j0 v2_0 v2_1 v2_2 v2_3 v2_4 Kt) else ((at? s85 0).bind fun b105 => (bif ((b105.toNat : Int) != 101) then ((at? s85 0).bind fun b106 => (bif ((b106.toNat : Int) != 69) then (g3_106 C N96 N159 N160 N161 N162 N163 k j0 v2_0 v2_1 v2_2 v2_3 v2_4 Kt) else ((at? s85 1).bind fun b107 => (bif ((b107.toNat : Int) != 43) then ((at? s85 1).bind fun b108 => (bif ((b108.toNat : Int) != 45) then (g3_106 C N96 N159 N160 N161 N162 N163 k j0 v2_0 v2_1 v2_2 v2_3 v2_4 Kt) else ((at? s85 1).bind fun b109 => ((cut s85 (some (2 : Int)) none).bind fun s110 => (N96 ((b109.toNat : Int) == 45) s110 fun r111 => (bif (!(r111 == ([] : BY))) then (Kt v3_0 v3_1 s81 s84 r111) else (Kt 0 false ([] : BY) ([] : BY) ([] : BY)))))))) else ((at? s85 1).bind fun b112 => ((cut s85 (some (2 : Int)) none).bind fun s113 => (N96 ((b112.toNat : Int) == 45) s113 fun r114 => (bif (!(r114 == ([] : BY))) then (Kt v3_0 v3_1 s81 s84 r114) else (Kt 0 false ([] : BY) ([] : BY) ([] : BY)))))))))) else ((at? s85 1).bind fun b115 => (bif ((b115.toNat : Int) != 43) then ((at? s85 1).bind fun b116 => (bif ((b116.toNat : Int) != 45) then (g3_106 C N96 N159 N160 N161 N162 N163 k j0 v2_0 v2_1 v2_2 v2_3 v2_4 Kt) else ((at? s85 1).bind fun b117 => ((cut s85 (some (2 : Int)) none).bind fun s118 => (N96 ((b117.toNat : Int) == 45) s118 fun r119 => (bif (!(r119 == ([] : BY))) then (Kt v3_0 v3_1 s81 s84 r119) else (Kt 0 false ([] : BY) ([] : BY) ([] : BY)))))))) else ((at? s85 1).bind fun b120 => ((cut s85 (some (2 : Int)) none).bind fun s121 => (N96 ((b120.toNat : Int) == 45) s121 fun r122 => (bif (!(r122 == ([] : BY))) then (Kt v3_0 v3_1 s81 s84 r122) else (Kt 0 false ([] : BY) ([] : BY) ([] : BY))))))))))))))))))))))))) := (hC _ _ _).trans (by kernel_rfl)
end
theorem as106 {G : World → Prop} {ng : Nat} (S : Stays Tryz.prog G ng) {N96 : Ty96} {N159 : Ty159} {N160 : Ty160} {N161 : Ty161} {N162 : Ty162} {N163 : Ty163} (h96 : FnIs Tryz.prog G ng 96 (adp96 N96)) (h159 : FnIs Tryz.prog G ng 159 (adp159 N159)) (h160 : FnIs Tryz.prog G ng 160 (adp160 N160)) (h161 : FnIs Tryz.prog G ng 161 (adp161 N161)) (h162 : FnIs Tryz.prog G ng 162 (adp162 N162)) (h163 : FnIs Tryz.prog G ng 163 (adp163 N163)) {A : Ty106} (hA : ∀ (a0 : BY) (Kt : Tk106) (r : Out), A a0 Kt = some r → run106 cut0 N96 N159 N160 N161 N162 N163 big a0 Kt = some r) : FnIs Tryz.prog G ng 106 (adp106 A) := by
  refine spec_run cut0_eq S (l := gam106 N96 N159 N160 N161 N162 N163) (by intro p hp; simp only [gam106, List.mem_cons, List.not_mem_nil, or_false] at hp; rcases hp with rfl | rfl | rfl | rfl | rfl | rfl <;> assumption) Tryz.func106 (by kernel_rfl) (nn := 3) (Lv := lvs106) (k := big) fun rc cs K r h => ?_
  unfold adp106 at h
  split at h
  · exact ⟨_, hA _ _ _ h, fun p hp => by unfold tok106 at hp; split at hp; exact hp; cases hp⟩
  · cases h

/-! targum/float11.Of$1 -/
def lvs107 : Nat → Option (List (Nat × Co))
  | _ => none
section
variable (C : Nat → Env → (Env → Option Out) → Option Out) (N102 : Ty102)
def gam107 : List (Nat × Fn1) := [(102, adp102 N102)]
noncomputable def bod107 : Code := Tryz.f107.body.getD .skip
noncomputable def run107 (k : Nat) (a0 : BY) (Kt : Tk107) : Option Out := runK Tryz.prog (lookG (gam107 N102)) 3 lvs107 C k Tryz.f107 none [.s (.str a0)] (tok107 Kt)
theorem run107_eq (k : Nat) (a0 : BY) (Kt : Tk107) : run107 C N102 k a0 Kt =
  (N102 a0 ([95] : BY) ([] : BY) fun r1 => (Kt r1)) := by kernel_rfl
end
theorem as107 {G : World → Prop} {ng : Nat} (S : Stays Tryz.prog G ng) {N102 : Ty102} (h102 : FnIs Tryz.prog G ng 102 (adp102 N102)) {A : Ty107} (hA : ∀ (a0 : BY) (Kt : Tk107) (r : Out), A a0 Kt = some r → run107 cut0 N102 big a0 Kt = some r) : FnIs Tryz.prog G ng 107 (adp107 A) := by
  refine spec_run cut0_eq S (l := gam107 N102) (by intro p hp; simp only [gam107, List.mem_cons, List.not_mem_nil, or_false] at hp; rcases hp with rfl <;> assumption) Tryz.func107 (by kernel_rfl) (nn := 3) (Lv := lvs107) (k := big) fun rc cs K r h => ?_
  unfold adp107 at h
  split at h
  · exact ⟨_, hA _ _ _ h, fun p hp => by unfold tok107 at hp; split at hp; exact hp; cases hp⟩
  · cases h

/-! targum/float11.whole -/
def lvs108 : Nat → Option (List (Nat × Co))
  | 577 => some [(3, .k), (4, .k), (6, .k), (15, .k), (16, .k), (17, .k)]
  | 1000322 => some [(3, .k), (4, .k), (15, .k), (16, .k), (17, .k)]
  | 1000706 => some [(3, .k), (4, .k), (6, .k), (7, .k), (15, .k), (16, .k), (17, .k), (27, .k), (28, .k)]
  | _ => none
section
variable (C : Nat → Env → (Env → Option Out) → Option Out) (N96 : Ty96) (N103 : Ty103) (N104 : Ty104)
def gam108 : List (Nat × Fn1) := [(96, adp96 N96), (103, adp103 N103), (104, adp104 N104)]
noncomputable def bod108 : Code := Tryz.f108.body.getD .skip
noncomputable def run108 (k : Nat) (a0 : BY) (Kt : Tk108) : Option Out := runK Tryz.prog (lookG (gam108 N96 N103 N104)) 9 lvs108 C k Tryz.f108 none [.s (.str a0)] (tok108 Kt)
noncomputable def l1_108 (k : Nat) (j0 : Nat) (v3 : List BY) (v4 : BY) (v15_a : Nat) (v15_n : Nat) (v16 : Int) (v17 : Int) (Kt : Tk108) : Option Out := C 1000322 ([.u, .u, .u, .c (.own (.strs v3)), .c (.s (.str v4))] ++ us 10 ++ [.ali 3 v15_a v15_n, .c (.s (.int .i64 v16)), .c (.s (.int .i64 v17))] ++ us 27) fun e => headK Tryz.prog (lookG (gam108 N96 N103 N104)) 9 lvs108 C k j0 bod108 [1, 1, 1, 0, 1, 0] e (fin Tryz.prog Tryz.f108 none (tok108 Kt))
noncomputable def p2_108 (k : Nat) (j0 : Nat) (v3 : List BY) (v4 : BY) (v6 : BY) (v15_a : Nat) (v15_n : Nat) (v16 : Int) (v17 : Int) (Kt : Tk108) : Option Out := C 577 ([.u, .u, .u, .c (.own (.strs v3)), .c (.s (.str v4)), .u, .c (.s (.str v6))] ++ us 8 ++ [.ali 3 v15_a v15_n, .c (.s (.int .i64 v16)), .c (.s (.int .i64 v17))] ++ us 27) fun e => atK Tryz.prog (lookG (gam108 N96 N103 N104)) 9 lvs108 C k bod108 [1, 1, 1, 0, 1, 0, j0, 1, 1, 0, 0, 1, 1] e (fin Tryz.prog Tryz.f108 none (tok108 Kt))
noncomputable def l3_108 (k : Nat) (j0 : Nat) (j1 : Nat) (v3 : List BY) (v4 : BY) (v6 : BY) (v7 : Int) (v15_a : Nat) (v15_n : Nat) (v16 : Int) (v17 : Int) (v27 : Int) (v28 : Int) (Kt : Tk108) : Option Out := C 1000706 ([.u, .u, .u, .c (.own (.strs v3)), .c (.s (.str v4)), .u, .c (.s (.str v6)), .c (.s (.int .i64 v7))] ++ us 7 ++ [.ali 3 v15_a v15_n, .c (.s (.int .i64 v16)), .c (.s (.int .i64 v17))] ++ us 9 ++ [.c (.s (.int .i64 v27)), .c (.s (.int .i64 v28))] ++ us 16) fun e => headK Tryz.prog (lookG (gam108 N96 N103 N104)) 9 lvs108 C k j1 bod108 [1, 1, 1, 0, 1, 0, j0, 1, 1, 0, 0, 1, 1, 1, 0, 1, 0] e (fin Tryz.prog Tryz.f108 none (tok108 Kt))
theorem run108_eq (k : Nat) (a0 : BY) (Kt : Tk108) : run108 C N96 N103 N104 k a0 Kt =
  (N103 a0 ([58] : BY) fun r1 => (bif (decide (0 ≤ (0 : Int)) && decide ((0 : Int) < (r1.length : Int))) then ((r1[0]?).bind fun x2 => ((cutN r1.length (some (1 : Int)) none).bind fun p3 => (l1_108 C N96 N103 N104 k k r1 x2 p3.1 p3.2 (p3.2 : Int) 0 Kt))) else none)) := by kernel_rfl
theorem l1_108_eq (hC : ∀ key e t, C key e t = t e) (k : Nat) (j0 : Nat) (v3 : List BY) (v4 : BY) (v15_a : Nat) (v15_n : Nat) (v16 : Int) (v17 : Int) (Kt : Tk108) : l1_108 C N96 N103 N104 k (j0 + 1) v3 v4 v15_a v15_n v16 v17 Kt =
  (bif (decide (v17 < v16)) then (bif (decide (0 ≤ v17) && decide (v17 < (v15_n : Int))) then ((v3[(v15_a + v17.toNat)]?).bind fun x4 => (bif (v17 == 0) then (N96 false v4 fun r5 => (p2_108 C N96 N103 N104 k j0 v3 r5 x4 v15_a v15_n v16 v17 Kt)) else (p2_108 C N96 N103 N104 k j0 v3 v4 x4 v15_a v15_n v16 v17 Kt))) else none) else (Kt v4)) := (hC _ _ _).trans (by kernel_rfl)
theorem p2_108_eq (hC : ∀ key e t, C key e t = t e) (k : Nat) (j0 : Nat) (v3 : List BY) (v4 : BY) (v6 : BY) (v15_a : Nat) (v15_n : Nat) (v16 : Int) (v17 : Int) (Kt : Tk108) : p2_108 C N96 N103 N104 k j0 v3 v4 v6 v15_a v15_n v16 v17 Kt =
  (l3_108 C N96 N103 N104 k j0 k v3 v4 v6 0 v15_a v15_n v16 v17 (v6.length : Int) 0 Kt) := (hC _ _ _).trans (by kernel_rfl)
theorem l3_108_eq (hC : ∀ key e t, C key e t = t e) (k : Nat) (j0 : Nat) (j1 : Nat) (v3 : List BY) (v4 : BY) (v6 : BY) (v7 : Int) (v15_a : Nat) (v15_n : Nat) (v16 : Int) (v17 : Int) (v27 : Int) (v28 : Int) (Kt : Tk108) : l3_108 C N96 N103 N104 k j0 (j1 + 1) v3 v4 v6 v7 v15_a v15_n v16 v17 v27 v28 Kt =
  (bif (decide (v28 < v27)) then ((at? v6 v28).bind fun b6 => (l3_108 C N96 N103 N104 k j0 j1 v3 v4 v6 (IntKind.i64.wrap ((IntKind.i64.wrap ((10 : Int) * v7)) + (IntKind.i64.wrap (IntKind.u8.wrap ((b6.toNat : Int) - 48))))) v15_a v15_n v16 v17 v27 (IntKind.i64.wrap (v28 + 1)) Kt)) else (N104 v4 60 v7 fun r7 => (l1_108 C N96 N103 N104 k j0 v3 r7 v15_a v15_n v16 (IntKind.i64.wrap (v17 + 1)) Kt))) := (hC _ _ _).trans (by kernel_rfl)
end
theorem as108 {G : World → Prop} {ng : Nat} (S : Stays Tryz.prog G ng) {N96 : Ty96} {N103 : Ty103} {N104 : Ty104} (h96 : FnIs Tryz.prog G ng 96 (adp96 N96)) (h103 : FnIs Tryz.prog G ng 103 (adp103 N103)) (h104 : FnIs Tryz.prog G ng 104 (adp104 N104)) {A : Ty108} (hA : ∀ (a0 : BY) (Kt : Tk108) (r : Out), A a0 Kt = some r → run108 cut0 N96 N103 N104 big a0 Kt = some r) : FnIs Tryz.prog G ng 108 (adp108 A) := by
  refine spec_run cut0_eq S (l := gam108 N96 N103 N104) (by intro p hp; simp only [gam108, List.mem_cons, List.not_mem_nil, or_false] at hp; rcases hp with rfl | rfl | rfl <;> assumption) Tryz.func108 (by kernel_rfl) (nn := 9) (Lv := lvs108) (k := big) fun rc cs K r h => ?_
  unfold adp108 at h
  split at h
  · exact ⟨_, hA _ _ _ h, fun p hp => by unfold tok108 at hp; split at hp; exact hp; cases hp⟩
  · cases h

/-! targum/float11.word -/
def lvs159 : Nat → Option (List (Nat × Co))
  | 386 => some [(1, .k), (5, .k), (6, .k)]
  | 642 => some [(1, .k), (10, .k)]
  | 769 => some []
  | _ => none
section
variable (C : Nat → Env → (Env → Option Out) → Option Out)
def gam159 : List (Nat × Fn1) := []
noncomputable def bod159 : Code := Tryz.f159.body.getD .skip
noncomputable def run159 (k : Nat) (a0 : BY) (a1 : Bool) (Kt : Tk159) : Option Out := runK Tryz.prog (lookG (gam159)) 5 lvs159 C k Tryz.f159 none [.s (.str a0), .s (.bool a1)] (tok159 Kt)
noncomputable def p1_159 (k : Nat) (v1 : Bool) (v5 : BY) (v6 : Bool) (Kt : Tk159) : Option Out := C 386 ([.u, .c (.s (.bool v1)), .u, .u, .u, .c (.s (.str v5)), .c (.s (.bool v6))] ++ us 9) fun e => atK Tryz.prog (lookG (gam159)) 5 lvs159 C k bod159 [1, 0, 1, 0, 1] e (fin Tryz.prog Tryz.f159 none (tok159 Kt))
noncomputable def p2_159 (k : Nat) (v1 : Bool) (v10 : Bool) (Kt : Tk159) : Option Out := C 642 ([.u, .c (.s (.bool v1))] ++ us 8 ++ [.c (.s (.bool v10)), .u, .u, .u, .u, .u]) fun e => atK Tryz.prog (lookG (gam159)) 5 lvs159 C k bod159 [1, 0, 1, 0, 1, 1, 1] e (fin Tryz.prog Tryz.f159 none (tok159 Kt))
noncomputable def p3_159 (k : Nat) (Kt : Tk159) : Option Out := C 769 (us 16) fun e => atK Tryz.prog (lookG (gam159)) 5 lvs159 C k bod159 [1, 1] e (fin Tryz.prog Tryz.f159 none (tok159 Kt))
theorem run159_eq (k : Nat) (a0 : BY) (a1 : Bool) (Kt : Tk159) : run159 C k a0 a1 Kt =
  (bif (a0 == ([46, 105, 110, 102] : BY)) then (p1_159 C k a1 a0 (a0 == ([46, 105, 110, 102] : BY)) Kt) else (bif (a0 == ([46, 73, 110, 102] : BY)) then (p1_159 C k a1 a0 (a0 == ([46, 73, 110, 102] : BY)) Kt) else (p1_159 C k a1 a0 (a0 == ([46, 73, 78, 70] : BY)) Kt))) := by kernel_rfl
theorem p1_159_eq (hC : ∀ key e t, C key e t = t e) (k : Nat) (v1 : Bool) (v5 : BY) (v6 : Bool) (Kt : Tk159) : p1_159 C k v1 v5 v6 Kt =
  (bif v6 then (Kt 4) else (bif (v5 == ([46, 110, 97, 110] : BY)) then (p2_159 C k v1 (v5 == ([46, 110, 97, 110] : BY)) Kt) else (bif (v5 == ([46, 78, 97, 78] : BY)) then (p2_159 C k v1 (v5 == ([46, 78, 97, 78] : BY)) Kt) else (p2_159 C k v1 (v5 == ([46, 78, 65, 78] : BY)) Kt)))) := (hC _ _ _).trans (by kernel_rfl)
theorem p2_159_eq (hC : ∀ key e t, C key e t = t e) (k : Nat) (v1 : Bool) (v10 : Bool) (Kt : Tk159) : p2_159 C k v1 v10 Kt =
  (bif v10 then (bif (!v1) then (Kt 5) else (p3_159 C k Kt)) else (p3_159 C k Kt)) := (hC _ _ _).trans (by kernel_rfl)
theorem p3_159_eq (hC : ∀ key e t, C key e t = t e) (k : Nat) (Kt : Tk159) : p3_159 C k Kt =
  (Kt 0) := (hC _ _ _).trans (by kernel_rfl)
end
theorem as159 {G : World → Prop} {ng : Nat} (S : Stays Tryz.prog G ng) {A : Ty159} (hA : ∀ (a0 : BY) (a1 : Bool) (Kt : Tk159) (r : Out), A a0 a1 Kt = some r → run159 cut0 big a0 a1 Kt = some r) : FnIs Tryz.prog G ng 159 (adp159 A) := by
  refine spec_run cut0_eq S (l := gam159) (by intro p hp; cases hp) Tryz.func159 (by kernel_rfl) (nn := 5) (Lv := lvs159) (k := big) fun rc cs K r h => ?_
  unfold adp159 at h
  split at h
  · exact ⟨_, hA _ _ _ _ h, fun p hp => by unfold tok159 at hp; split at hp; exact hp; cases hp⟩
  · cases h

/-! targum/float11.digit -/
def lvs160 : Nat → Option (List (Nat × Co))
  | _ => none
section
variable (C : Nat → Env → (Env → Option Out) → Option Out)
def gam160 : List (Nat × Fn1) := []
noncomputable def bod160 : Code := Tryz.f160.body.getD .skip
noncomputable def run160 (k : Nat) (a0 : Int) (Kt : Tk160) : Option Out := runK Tryz.prog (lookG (gam160)) 3 lvs160 C k Tryz.f160 none [.s (.int .u8 a0)] (tok160 Kt)
theorem run160_eq (k : Nat) (a0 : Int) (Kt : Tk160) : run160 C k a0 Kt =
  (bif (decide (a0 ≥ 48)) then (Kt (decide (a0 ≤ 57))) else (Kt false)) := by kernel_rfl
end
theorem as160 {G : World → Prop} {ng : Nat} (S : Stays Tryz.prog G ng) {A : Ty160} (hA : ∀ (a0 : Int) (Kt : Tk160) (r : Out), A a0 Kt = some r → run160 cut0 big a0 Kt = some r) : FnIs Tryz.prog G ng 160 (adp160 A) := by
  refine spec_run cut0_eq S (l := gam160) (by intro p hp; cases hp) Tryz.func160 (by kernel_rfl) (nn := 3) (Lv := lvs160) (k := big) fun rc cs K r h => ?_
  unfold adp160 at h
  split at h
  · exact ⟨_, hA _ _ _ h, fun p hp => by unfold tok160 at hp; split at hp; exact hp; cases hp⟩
  · cases h

/-! targum/float11.row -/
def lvs161 : Nat → Option (List (Nat × Co))
  | 1000195 => some [(0, .k), (3, .k)]
  | _ => none
section
variable (C : Nat → Env → (Env → Option Out) → Option Out) (N160 : Ty160)
def gam161 : List (Nat × Fn1) := [(160, adp160 N160)]
noncomputable def bod161 : Code := Tryz.f161.body.getD .skip
noncomputable def run161 (k : Nat) (a0 : BY) (Kt : Tk161) : Option Out := runK Tryz.prog (lookG (gam161 N160)) 4 lvs161 C k Tryz.f161 none [.s (.str a0)] (tok161 Kt)
noncomputable def l1_161 (k : Nat) (j0 : Nat) (v0 : BY) (v3 : Int) (Kt : Tk161) : Option Out := C 1000195 ([.c (.s (.str v0)), .u, .u, .c (.s (.int .i64 v3))] ++ us 19) fun e => headK Tryz.prog (lookG (gam161 N160)) 4 lvs161 C k j0 bod161 [1, 1, 0, 0] e (fin Tryz.prog Tryz.f161 none (tok161 Kt))
theorem run161_eq (k : Nat) (a0 : BY) (Kt : Tk161) : run161 C N160 k a0 Kt =
  (l1_161 C N160 k k a0 0 Kt) := by kernel_rfl
theorem l1_161_eq (hC : ∀ key e t, C key e t = t e) (k : Nat) (j0 : Nat) (v0 : BY) (v3 : Int) (Kt : Tk161) : l1_161 C N160 k (j0 + 1) v0 v3 Kt =
  (bif (decide (v3 < (v0.length : Int))) then ((at? v0 v3).bind fun b1 => (bif ((b1.toNat : Int) == 95) then (l1_161 C N160 k j0 v0 (IntKind.i64.wrap (v3 + 1)) Kt) else ((at? v0 v3).bind fun b2 => (N160 (b2.toNat : Int) fun r3 => (bif r3 then (l1_161 C N160 k j0 v0 (IntKind.i64.wrap (v3 + 1)) Kt) else (Kt v3)))))) else (Kt v3)) := (hC _ _ _).trans (by kernel_rfl)
end
theorem as161 {G : World → Prop} {ng : Nat} (S : Stays Tryz.prog G ng) {N160 : Ty160} (h160 : FnIs Tryz.prog G ng 160 (adp160 N160)) {A : Ty161} (hA : ∀ (a0 : BY) (Kt : Tk161) (r : Out), A a0 Kt = some r → run161 cut0 N160 big a0 Kt = some r) : FnIs Tryz.prog G ng 161 (adp161 A) := by
  refine spec_run cut0_eq S (l := gam161 N160) (by intro p hp; simp only [gam161, List.mem_cons, List.not_mem_nil, or_false] at hp; rcases hp with rfl <;> assumption) Tryz.func161 (by kernel_rfl) (nn := 4) (Lv := lvs161) (k := big) fun rc cs K r h => ?_
  unfold adp161 at h
  split at h
  · exact ⟨_, hA _ _ _ h, fun p hp => by unfold tok161 at hp; split at hp; exact hp; cases hp⟩
  · cases h

/-! targum/float11.sixty -/
def lvs162 : Nat → Option (List (Nat × Co))
  | 194 => some [(0, .k), (3, .k)]
  | 322 => some [(27, .k)]
  | _ => none
section
variable (C : Nat → Env → (Env → Option Out) → Option Out) (N160 : Ty160)
def gam162 : List (Nat × Fn1) := [(160, adp160 N160)]
noncomputable def bod162 : Code := Tryz.f162.body.getD .skip
noncomputable def run162 (k : Nat) (a0 : BY) (Kt : Tk162) : Option Out := runK Tryz.prog (lookG (gam162 N160)) 3 lvs162 C k Tryz.f162 none [.s (.str a0)] (tok162 Kt)
noncomputable def p1_162 (k : Nat) (v0 : BY) (v3 : Bool) (Kt : Tk162) : Option Out := C 194 ([.c (.s (.str v0)), .u, .u, .c (.s (.bool v3))] ++ us 37) fun e => atK Tryz.prog (lookG (gam162 N160)) 3 lvs162 C k bod162 [1, 0, 0, 1] e (fin Tryz.prog Tryz.f162 none (tok162 Kt))
noncomputable def p2_162 (k : Nat) (v27 : Bool) (Kt : Tk162) : Option Out := C 322 (us 27 ++ [.c (.s (.bool v27))] ++ us 13) fun e => atK Tryz.prog (lookG (gam162 N160)) 3 lvs162 C k bod162 [1, 0, 0, 1, 1, 1] e (fin Tryz.prog Tryz.f162 none (tok162 Kt))
theorem run162_eq (k : Nat) (a0 : BY) (Kt : Tk162) : run162 C N160 k a0 Kt =
  (bif (decide ((a0.length : Int) > 2)) then ((at? a0 0).bind fun b1 => (bif ((b1.toNat : Int) == 58) then ((at? a0 1).bind fun b2 => (bif (decide ((b2.toNat : Int) ≥ 48)) then ((at? a0 1).bind fun b3 => (bif (decide ((b3.toNat : Int) ≤ 53)) then ((at? a0 2).bind fun b4 => (N160 (b4.toNat : Int) fun r5 => (p1_162 C N160 k a0 r5 Kt))) else (p1_162 C N160 k a0 false Kt))) else (p1_162 C N160 k a0 false Kt))) else (p1_162 C N160 k a0 false Kt))) else (p1_162 C N160 k a0 false Kt)) := by kernel_rfl
theorem p1_162_eq (hC : ∀ key e t, C key e t = t e) (k : Nat) (v0 : BY) (v3 : Bool) (Kt : Tk162) : p1_162 C N160 k v0 v3 Kt =
  (bif v3 then (Kt 3) else (bif (decide ((v0.length : Int) > 1)) then ((at? v0 0).bind fun b6 => (bif ((b6.toNat : Int) == 58) then ((at? v0 1).bind fun b7 => (N160 (b7.toNat : Int) fun r8 => (p2_162 C N160 k r8 Kt))) else (p2_162 C N160 k false Kt))) else (p2_162 C N160 k false Kt))) := (hC _ _ _).trans (by kernel_rfl)
theorem p2_162_eq (hC : ∀ key e t, C key e t = t e) (k : Nat) (v27 : Bool) (Kt : Tk162) : p2_162 C N160 k v27 Kt =
  (bif v27 then (Kt 2) else (Kt 0)) := (hC _ _ _).trans (by kernel_rfl)
end
theorem as162 {G : World → Prop} {ng : Nat} (S : Stays Tryz.prog G ng) {N160 : Ty160} (h160 : FnIs Tryz.prog G ng 160 (adp160 N160)) {A : Ty162} (hA : ∀ (a0 : BY) (Kt : Tk162) (r : Out), A a0 Kt = some r → run162 cut0 N160 big a0 Kt = some r) : FnIs Tryz.prog G ng 162 (adp162 A) := by
  refine spec_run cut0_eq S (l := gam162 N160) (by intro p hp; simp only [gam162, List.mem_cons, List.not_mem_nil, or_false] at hp; rcases hp with rfl <;> assumption) Tryz.func162 (by kernel_rfl) (nn := 3) (Lv := lvs162) (k := big) fun rc cs K r h => ?_
  unfold adp162 at h
  split at h
  · exact ⟨_, hA _ _ _ h, fun p hp => by unfold tok162 at hp; split at hp; exact hp; cases hp⟩
  · cases h

end Go.Proofs.YtffmgholjdfcnaaGreatDoor
