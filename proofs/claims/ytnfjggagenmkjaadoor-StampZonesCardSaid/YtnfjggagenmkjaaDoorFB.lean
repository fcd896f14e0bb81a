/- Pieces of the program's functions, printed by gen.py (a program of this session's own), and the equations that the kernel finds. -/
import Derived.Test.YtnfjggagenmkjaaDoorFW
import Derived.Test.YtnfjggagenmkjaaDoorProg
set_option maxRecDepth 100000
set_option linter.unusedVariables false
namespace Go.Proofs.YtnfjggagenmkjaaDoor
open Go Go.Proofs AM
/-! targum/stamp.Of -/
def lvs9 : Nat → Option (List (Nat × Co))
  | 897 => some [(7, .k)]
  | _ => none
section
variable (C : Nat → Env → (Env → Option Out) → Option Out) (N17 : Ty17) (N18 : Ty18) (N19 : Ty19) (N20 : Ty20)
def gam9 : List (Nat × Fn1) := [(17, adp17 N17), (18, adp18 N18), (19, adp19 N19), (20, adp20 N20)]
noncomputable def bod9 : Code := Tryd.f9.body.getD .skip
noncomputable def run9 (k : Nat) (a0 : List UInt8) (Kt : Tk9) : Option Out := runK Tryd.prog (lookG (gam9 N17 N18 N19 N20)) 4 lvs9 C k Tryd.f9 none [.s (.str a0)] (tok9 Kt)
noncomputable def p1_9 (k : Nat) (v7 : List UInt8) (Kt : Tk9) : Option Out := C 897 [.u, .u, .u, .u, .u, .u, .u, .c (.s (.str v7)), .u, .u, .u, .u, .u, .u, .u, .u, .u, .u, .u, .u, .u, .u, .u, .u, .u, .u, .u, .u, .u, .u, .u, .u, .u, .u, .u, .u, .u, .u, .u, .u, .u, .u, .u, .u, .u, .u, .u, .u, .u, .u, .u, .u, .u, .u, .u, .u, .u, .u, .u, .u, .u, .u, .u, .u, .u] fun e => atK Tryd.prog (lookG (gam9 N17 N18 N19 N20)) 4 lvs9 C k bod9 [1, 1, 1, 1, 1, 1, 1, 1, 1] e (fin Tryd.prog Tryd.f9 none (tok9 Kt))
theorem run9_eq (k : Nat) (a0 : List UInt8) (Kt : Tk9) : run9 C N17 N18 N19 N20 k a0 Kt =
  (N17 a0 fun r1 r2 r3 r4 r5 r6 r7 r8 r9 r10 => (bif (!r10) then (Kt ([] : List UInt8) false) else (bif r9 then (N18 a0 fun r11 => (Kt r11 true)) else (N19 r1 r2 r3 r4 r5 r6 r7 r8 fun r12 r13 r14 r15 r16 r17 r18 r19 r20 => (bif (!r20) then (Kt ([] : List UInt8) false) else (N20 r12 4 fun r21 => ((cat r21 ([45] : List UInt8)).bind fun s22 => (N20 r13 2 fun r23 => ((cat s22 r23).bind fun s24 => ((cat s24 ([45] : List UInt8)).bind fun s25 => (N20 r14 2 fun r26 => ((cat s25 r26).bind fun s27 => (N20 r15 2 fun r28 => ((cat ([84] : List UInt8) r28).bind fun s29 => ((cat s29 ([58] : List UInt8)).bind fun s30 => (N20 r16 2 fun r31 => ((cat s30 r31).bind fun s32 => ((cat s32 ([58] : List UInt8)).bind fun s33 => (N20 r17 2 fun r34 => ((cat s33 r34).bind fun s35 => ((cat s27 s35).bind fun s36 => (bif (!(r18 == ([] : List UInt8))) then ((cat ([46] : List UInt8) r18).bind fun s37 => ((cat s36 s37).bind fun s38 => (p1_9 C N17 N18 N19 N20 k s38 Kt))) else (p1_9 C N17 N18 N19 N20 k s36 Kt))))))))))))))))))))))) := by kernel_rfl
theorem p1_9_eq (hC : ∀ key e t, C key e t = t e) (k : Nat) (v7 : List UInt8) (Kt : Tk9) : p1_9 C N17 N18 N19 N20 k v7 Kt =
  ((cat v7 ([90] : List UInt8)).bind fun s39 => (Kt s39 true)) := (hC _ _ _).trans (by kernel_rfl)
end
theorem is9 {G : World → Prop} {ng : Nat} (S : Stays Tryd.prog G ng) {N17 : Ty17} {N18 : Ty18} {N19 : Ty19} {N20 : Ty20} (h17 : FnIs Tryd.prog G ng 17 (adp17 N17)) (h18 : FnIs Tryd.prog G ng 18 (adp18 N18)) (h19 : FnIs Tryd.prog G ng 19 (adp19 N19)) (h20 : FnIs Tryd.prog G ng 20 (adp20 N20)) : FnIs Tryd.prog G ng 9 (adp9 (run9 cut0 N17 N18 N19 N20 big)) := by
  refine spec_run cut0_eq S (l := gam9 N17 N18 N19 N20) (by intro p hp; simp only [gam9, List.mem_cons, List.not_mem_nil, or_false] at hp; rcases hp with rfl | rfl | rfl | rfl <;> assumption) Tryd.func9 (by kernel_rfl) (nn := 4) (Lv := lvs9) (k := big) fun rc cs K r h => ?_
  unfold adp9 at h
  split at h
  · refine ⟨_, h, fun p hp => ?_⟩
    unfold tok9 at hp
    split at hp
    · exact hp
    · cases hp
  · cases h
theorem as9 {G : World → Prop} {ng : Nat} (S : Stays Tryd.prog G ng) {N17 : Ty17} {N18 : Ty18} {N19 : Ty19} {N20 : Ty20} (h17 : FnIs Tryd.prog G ng 17 (adp17 N17)) (h18 : FnIs Tryd.prog G ng 18 (adp18 N18)) (h19 : FnIs Tryd.prog G ng 19 (adp19 N19)) (h20 : FnIs Tryd.prog G ng 20 (adp20 N20)) {A : Ty9} (hA : ∀ (a0 : List UInt8) (Kt : Tk9) (r : Out), A a0 Kt = some r → run9 cut0 N17 N18 N19 N20 big a0 Kt = some r) : FnIs Tryd.prog G ng 9 (adp9 A) :=
  (is9 S h17 h18 h19 h20).weaken fun rc cs K r h => by
    unfold adp9 at h ⊢
    split at h
    · exact hA _ _ _ h
    · cases h

/-! targum/stamp.Is -/
def lvs16 : Nat → Option (List (Nat × Co))
  | _ => none
section
variable (C : Nat → Env → (Env → Option Out) → Option Out) (N9 : Ty9)
def gam16 : List (Nat × Fn1) := [(9, adp9 N9)]
noncomputable def bod16 : Code := Tryd.f16.body.getD .skip
noncomputable def run16 (k : Nat) (a0 : List UInt8) (Kt : Tk16) : Option Out := runK Tryd.prog (lookG (gam16 N9)) 5 lvs16 C k Tryd.f16 none [.s (.str a0)] (tok16 Kt)
theorem run16_eq (k : Nat) (a0 : List UInt8) (Kt : Tk16) : run16 C N9 k a0 Kt =
  (N9 a0 fun r1 r2 => (Kt r2)) := by kernel_rfl
end
theorem is16 {G : World → Prop} {ng : Nat} (S : Stays Tryd.prog G ng) {N9 : Ty9} (h9 : FnIs Tryd.prog G ng 9 (adp9 N9)) : FnIs Tryd.prog G ng 16 (adp16 (run16 cut0 N9 big)) := by
  refine spec_run cut0_eq S (l := gam16 N9) (by intro p hp; simp only [gam16, List.mem_cons, List.not_mem_nil, or_false] at hp; rcases hp with rfl <;> assumption) Tryd.func16 (by kernel_rfl) (nn := 5) (Lv := lvs16) (k := big) fun rc cs K r h => ?_
  unfold adp16 at h
  split at h
  · refine ⟨_, h, fun p hp => ?_⟩
    unfold tok16 at hp
    split at hp
    · exact hp
    · cases hp
  · cases h
theorem as16 {G : World → Prop} {ng : Nat} (S : Stays Tryd.prog G ng) {N9 : Ty9} (h9 : FnIs Tryd.prog G ng 9 (adp9 N9)) {A : Ty16} (hA : ∀ (a0 : List UInt8) (Kt : Tk16) (r : Out), A a0 Kt = some r → run16 cut0 N9 big a0 Kt = some r) : FnIs Tryd.prog G ng 16 (adp16 A) :=
  (is16 S h9).weaken fun rc cs K r h => by
    unfold adp16 at h ⊢
    split at h
    · exact hA _ _ _ h
    · cases h

/-! targum/stamp.read -/
def lvs17 : Nat → Option (List (Nat × Co))
  | 770 => some [(2, .k), (5, .k), (6, .k), (8, .k)]
  | 1474 => some [(2, .k), (5, .k), (6, .k), (8, .k)]
  | 1922 => some [(2, .k), (5, .k), (6, .k), (8, .k)]
  | 3000000 => some [(2, .k), (5, .k), (6, .k), (8, .k)]
  | 3000001 => some [(2, .k), (5, .k), (6, .k), (8, .k)]
  | _ => none
section
variable (C : Nat → Env → (Env → Option Out) → Option Out) (N25 : Ty25) (N26 : Ty26) (N27 : Ty27) (N28 : Ty28) (N29 : Ty29) (N30 : Ty30) (N31 : Ty31)
def gam17 : List (Nat × Fn1) := [(25, adp25 N25), (26, adp26 N26), (27, adp27 N27), (28, adp28 N28), (29, adp29 N29), (30, adp30 N30), (31, adp31 N31)]
noncomputable def bod17 : Code := Tryd.f17.body.getD .skip
noncomputable def run17 (k : Nat) (a0 : List UInt8) (Kt : Tk17) : Option Out := runK Tryd.prog (lookG (gam17 N25 N26 N27 N28 N29 N30 N31)) 5 lvs17 C k Tryd.f17 none [.s (.str a0)] (tok17 Kt)
noncomputable def p1_17 (k : Nat) (j0 : Nat) (v2_0 : Int) (v2_1 : Int) (v2_2 : Int) (v2_3 : Int) (v2_4 : Int) (v2_5 : Int) (v2_6 : List UInt8) (v2_7 : Int) (v5_0 : Int) (v5_1 : Int) (v5_2 : Int) (v5_3 : Int) (v5_4 : Int) (v5_5 : Int) (v5_6 : List UInt8) (v5_7 : Int) (v6 : Bool) (v8_0 : List UInt8) (v8_1 : Bool) (Kt : Tk17) : Option Out := C 770 [.u, .u, .box 40 (.ss [.int .i64 v2_0, .int .i64 v2_1, .int .i64 v2_2, .int .i64 v2_3, .int .i64 v2_4, .int .i64 v2_5, .str v2_6, .int .i64 v2_7]), .u, .u, .box 40 (.ss [.int .i64 v5_0, .int .i64 v5_1, .int .i64 v5_2, .int .i64 v5_3, .int .i64 v5_4, .int .i64 v5_5, .str v5_6, .int .i64 v5_7]), .c (.s (.bool v6)), .u, .box 54 (.ss [.str v8_0, .bool v8_1]), .u, .u, .u, .u, .u, .u, .u, .u, .u, .u, .u, .u, .u, .u, .u, .u, .u, .u, .u, .u, .u, .u, .u, .u, .u, .u, .u, .u, .u, .u, .u, .u, .u, .u, .u, .u, .u, .u, .u, .u, .u, .u, .u, .u, .u, .u, .u, .u, .u, .u, .u, .u, .u, .u, .u, .u, .u, .u, .u, .u, .u, .u, .u, .u, .u, .u, .u, .u, .u, .u, .u, .u, .u, .u, .u, .u, .u, .u, .u, .u, .u, .u, .u, .u, .u, .u, .u, .u, .u, .u, .u, .u, .u, .u, .u, .u, .u, .u, .u, .u, .u, .u, .u, .u, .u, .u, .u] fun e => atK Tryd.prog (lookG (gam17 N25 N26 N27 N28 N29 N30 N31)) 5 lvs17 C k bod17 [1, j0, 1, 1, 1, 1, 1, 1, 1, 1, 1, 1] e (fin Tryd.prog Tryd.f17 none (tok17 Kt))
noncomputable def g2_17 (k : Nat) (j0 : Nat) (v2_0 : Int) (v2_1 : Int) (v2_2 : Int) (v2_3 : Int) (v2_4 : Int) (v2_5 : Int) (v2_6 : List UInt8) (v2_7 : Int) (v5_0 : Int) (v5_1 : Int) (v5_2 : Int) (v5_3 : Int) (v5_4 : Int) (v5_5 : Int) (v5_6 : List UInt8) (v5_7 : Int) (v6 : Bool) (v8_0 : List UInt8) (v8_1 : Bool) (Kt : Tk17) : Option Out := C 3000000 [.u, .u, .box 40 (.ss [.int .i64 v2_0, .int .i64 v2_1, .int .i64 v2_2, .int .i64 v2_3, .int .i64 v2_4, .int .i64 v2_5, .str v2_6, .int .i64 v2_7]), .u, .u, .box 40 (.ss [.int .i64 v5_0, .int .i64 v5_1, .int .i64 v5_2, .int .i64 v5_3, .int .i64 v5_4, .int .i64 v5_5, .str v5_6, .int .i64 v5_7]), .c (.s (.bool v6)), .u, .box 54 (.ss [.str v8_0, .bool v8_1]), .u, .u, .u, .u, .u, .u, .u, .u, .u, .u, .u, .u, .u, .u, .u, .u, .u, .u, .u, .u, .u, .u, .u, .u, .u, .u, .u, .u, .u, .u, .u, .u, .u, .u, .u, .u, .u, .u, .u, .u, .u, .u, .u, .u, .u, .u, .u, .u, .u, .u, .u, .u, .u, .u, .u, .u, .u, .u, .u, .u, .u, .u, .u, .u, .u, .u, .u, .u, .u, .u, .u, .u, .u, .u, .u, .u, .u, .u, .u, .u, .u, .u, .u, .u, .u, .u, .u, .u, .u, .u, .u, .u, .u, .u, .u, .u, .u, .u, .u, .u, .u, .u, .u, .u, .u, .u, .u] fun e => jumpK Tryd.prog (lookG (gam17 N25 N26 N27 N28 N29 N30 N31)) 5 lvs17 C k j0 0 bod17 [1] e (fin Tryd.prog Tryd.f17 none (tok17 Kt))
noncomputable def g3_17 (k : Nat) (j0 : Nat) (v2_0 : Int) (v2_1 : Int) (v2_2 : Int) (v2_3 : Int) (v2_4 : Int) (v2_5 : Int) (v2_6 : List UInt8) (v2_7 : Int) (v5_0 : Int) (v5_1 : Int) (v5_2 : Int) (v5_3 : Int) (v5_4 : Int) (v5_5 : Int) (v5_6 : List UInt8) (v5_7 : Int) (v6 : Bool) (v8_0 : List UInt8) (v8_1 : Bool) (Kt : Tk17) : Option Out := C 3000001 [.u, .u, .box 40 (.ss [.int .i64 v2_0, .int .i64 v2_1, .int .i64 v2_2, .int .i64 v2_3, .int .i64 v2_4, .int .i64 v2_5, .str v2_6, .int .i64 v2_7]), .u, .u, .box 40 (.ss [.int .i64 v5_0, .int .i64 v5_1, .int .i64 v5_2, .int .i64 v5_3, .int .i64 v5_4, .int .i64 v5_5, .str v5_6, .int .i64 v5_7]), .c (.s (.bool v6)), .u, .box 54 (.ss [.str v8_0, .bool v8_1]), .u, .u, .u, .u, .u, .u, .u, .u, .u, .u, .u, .u, .u, .u, .u, .u, .u, .u, .u, .u, .u, .u, .u, .u, .u, .u, .u, .u, .u, .u, .u, .u, .u, .u, .u, .u, .u, .u, .u, .u, .u, .u, .u, .u, .u, .u, .u, .u, .u, .u, .u, .u, .u, .u, .u, .u, .u, .u, .u, .u, .u, .u, .u, .u, .u, .u, .u, .u, .u, .u, .u, .u, .u, .u, .u, .u, .u, .u, .u, .u, .u, .u, .u, .u, .u, .u, .u, .u, .u, .u, .u, .u, .u, .u, .u, .u, .u, .u, .u, .u, .u, .u, .u, .u, .u, .u, .u] fun e => jumpK Tryd.prog (lookG (gam17 N25 N26 N27 N28 N29 N30 N31)) 5 lvs17 C k j0 1 bod17 [1] e (fin Tryd.prog Tryd.f17 none (tok17 Kt))
noncomputable def p4_17 (k : Nat) (j0 : Nat) (v2_0 : Int) (v2_1 : Int) (v2_2 : Int) (v2_3 : Int) (v2_4 : Int) (v2_5 : Int) (v2_6 : List UInt8) (v2_7 : Int) (v5_0 : Int) (v5_1 : Int) (v5_2 : Int) (v5_3 : Int) (v5_4 : Int) (v5_5 : Int) (v5_6 : List UInt8) (v5_7 : Int) (v6 : Bool) (v8_0 : List UInt8) (v8_1 : Bool) (Kt : Tk17) : Option Out := C 1474 [.u, .u, .box 40 (.ss [.int .i64 v2_0, .int .i64 v2_1, .int .i64 v2_2, .int .i64 v2_3, .int .i64 v2_4, .int .i64 v2_5, .str v2_6, .int .i64 v2_7]), .u, .u, .box 40 (.ss [.int .i64 v5_0, .int .i64 v5_1, .int .i64 v5_2, .int .i64 v5_3, .int .i64 v5_4, .int .i64 v5_5, .str v5_6, .int .i64 v5_7]), .c (.s (.bool v6)), .u, .box 54 (.ss [.str v8_0, .bool v8_1]), .u, .u, .u, .u, .u, .u, .u, .u, .u, .u, .u, .u, .u, .u, .u, .u, .u, .u, .u, .u, .u, .u, .u, .u, .u, .u, .u, .u, .u, .u, .u, .u, .u, .u, .u, .u, .u, .u, .u, .u, .u, .u, .u, .u, .u, .u, .u, .u, .u, .u, .u, .u, .u, .u, .u, .u, .u, .u, .u, .u, .u, .u, .u, .u, .u, .u, .u, .u, .u, .u, .u, .u, .u, .u, .u, .u, .u, .u, .u, .u, .u, .u, .u, .u, .u, .u, .u, .u, .u, .u, .u, .u, .u, .u, .u, .u, .u, .u, .u, .u, .u, .u, .u, .u, .u, .u, .u] fun e => atK Tryd.prog (lookG (gam17 N25 N26 N27 N28 N29 N30 N31)) 5 lvs17 C k bod17 [1, j0, 1, 1, 1, 1, 1, 1, 1, 1, 1, 1, 1, 1, 1, 1, 1, 1, 1, 1, 1, 1] e (fin Tryd.prog Tryd.f17 none (tok17 Kt))
noncomputable def p5_17 (k : Nat) (j0 : Nat) (v2_0 : Int) (v2_1 : Int) (v2_2 : Int) (v2_3 : Int) (v2_4 : Int) (v2_5 : Int) (v2_6 : List UInt8) (v2_7 : Int) (v5_0 : Int) (v5_1 : Int) (v5_2 : Int) (v5_3 : Int) (v5_4 : Int) (v5_5 : Int) (v5_6 : List UInt8) (v5_7 : Int) (v6 : Bool) (v8_0 : List UInt8) (v8_1 : Bool) (Kt : Tk17) : Option Out := C 1922 [.u, .u, .box 40 (.ss [.int .i64 v2_0, .int .i64 v2_1, .int .i64 v2_2, .int .i64 v2_3, .int .i64 v2_4, .int .i64 v2_5, .str v2_6, .int .i64 v2_7]), .u, .u, .box 40 (.ss [.int .i64 v5_0, .int .i64 v5_1, .int .i64 v5_2, .int .i64 v5_3, .int .i64 v5_4, .int .i64 v5_5, .str v5_6, .int .i64 v5_7]), .c (.s (.bool v6)), .u, .box 54 (.ss [.str v8_0, .bool v8_1]), .u, .u, .u, .u, .u, .u, .u, .u, .u, .u, .u, .u, .u, .u, .u, .u, .u, .u, .u, .u, .u, .u, .u, .u, .u, .u, .u, .u, .u, .u, .u, .u, .u, .u, .u, .u, .u, .u, .u, .u, .u, .u, .u, .u, .u, .u, .u, .u, .u, .u, .u, .u, .u, .u, .u, .u, .u, .u, .u, .u, .u, .u, .u, .u, .u, .u, .u, .u, .u, .u, .u, .u, .u, .u, .u, .u, .u, .u, .u, .u, .u, .u, .u, .u, .u, .u, .u, .u, .u, .u, .u, .u, .u, .u, .u, .u, .u, .u, .u, .u, .u, .u, .u, .u, .u, .u, .u] fun e => atK Tryd.prog (lookG (gam17 N25 N26 N27 N28 N29 N30 N31)) 5 lvs17 C k bod17 [1, j0, 1, 1, 1, 1, 1, 1, 1, 1, 1, 1, 1, 1, 1, 1, 1, 1, 1, 1, 1, 1, 1, 1, 1, 1, 1, 1] e (fin Tryd.prog Tryd.f17 none (tok17 Kt))
theorem run17_eq (k : Nat) (a0 : List UInt8) (Kt : Tk17) : run17 C N25 N26 N27 N28 N29 N30 N31 k a0 Kt =
  (N25 a0 false 4 4 fun r1 r2 r3 => (N26 r2 r3 ([45] : List UInt8) fun r4 r5 r6 => (N25 r5 r6 1 2 fun r7 r8 r9 => (N26 r8 r9 ([45] : List UInt8) fun r10 r11 r12 => (N25 r11 r12 1 2 fun r13 r14 r15 => (bif (r14 == ([] : List UInt8)) then (p1_17 C N25 N26 N27 N28 N29 N30 N31 k k 0 0 0 0 0 0 ([] : List UInt8) 0 r1 r7 r13 0 0 0 ([] : List UInt8) 0 ((r5.length : Int) == 5) r14 r15 Kt) else (p1_17 C N25 N26 N27 N28 N29 N30 N31 k k 0 0 0 0 0 0 ([] : List UInt8) 0 r1 r7 r13 0 0 0 ([] : List UInt8) 0 false r14 r15 Kt))))))) := by kernel_rfl
theorem p1_17_eq (hC : ∀ key e t, C key e t = t e) (k : Nat) (j0 : Nat) (v2_0 : Int) (v2_1 : Int) (v2_2 : Int) (v2_3 : Int) (v2_4 : Int) (v2_5 : Int) (v2_6 : List UInt8) (v2_7 : Int) (v5_0 : Int) (v5_1 : Int) (v5_2 : Int) (v5_3 : Int) (v5_4 : Int) (v5_5 : Int) (v5_6 : List UInt8) (v5_7 : Int) (v6 : Bool) (v8_0 : List UInt8) (v8_1 : Bool) (Kt : Tk17) : p1_17 C N25 N26 N27 N28 N29 N30 N31 k j0 v2_0 v2_1 v2_2 v2_3 v2_4 v2_5 v2_6 v2_7 v5_0 v5_1 v5_2 v5_3 v5_4 v5_5 v5_6 v5_7 v6 v8_0 v8_1 Kt =
  (bif v8_1 then (g2_17 C N25 N26 N27 N28 N29 N30 N31 k j0 v2_0 v2_1 v2_2 v2_3 v2_4 v2_5 v2_6 v2_7 v5_0 v5_1 v5_2 v5_3 v5_4 v5_5 v5_6 v5_7 v6 v8_0 v8_1 Kt) else (bif v6 then (g2_17 C N25 N26 N27 N28 N29 N30 N31 k j0 v2_0 v2_1 v2_2 v2_3 v2_4 v2_5 v2_6 v2_7 v5_0 v5_1 v5_2 v5_3 v5_4 v5_5 v5_6 v5_7 v6 v8_0 v8_1 Kt) else (N27 v8_0 v8_1 ([84, 116] : List UInt8) fun r16 r17 r18 => (bif (r16 != 0) then (g3_17 C N25 N26 N27 N28 N29 N30 N31 k j0 v2_0 v2_1 v2_2 v2_3 v2_4 v2_5 v2_6 v2_7 v5_0 v5_1 v5_2 v5_3 v5_4 v5_5 v5_6 v5_7 v6 r17 r18 Kt) else (N28 r17 r18 ([32, 9] : List UInt8) fun r19 r20 r21 => (bif (r19 == ([] : List UInt8)) then (g2_17 C N25 N26 N27 N28 N29 N30 N31 k j0 v2_0 v2_1 v2_2 v2_3 v2_4 v2_5 v2_6 v2_7 v5_0 v5_1 v5_2 v5_3 v5_4 v5_5 v5_6 v5_7 v6 r20 true Kt) else (N25 r20 r21 1 2 fun r22 r23 r24 => (N26 r23 r24 ([58] : List UInt8) fun r25 r26 r27 => (N25 r26 r27 2 2 fun r28 r29 r30 => (N26 r29 r30 ([58] : List UInt8) fun r31 r32 r33 => (N25 r32 r33 2 2 fun r34 r35 r36 => (N27 r35 r36 ([46] : List UInt8) fun r37 r38 r39 => (bif (r37 != 0) then (N28 r38 r39 ([48, 49, 50, 51, 52, 53, 54, 55, 56, 57] : List UInt8) fun r40 r41 r42 => (N29 r40 ([48] : List UInt8) fun r43 => (p4_17 C N25 N26 N27 N28 N29 N30 N31 k j0 v2_0 v2_1 v2_2 v2_3 v2_4 v2_5 v2_6 v2_7 v5_0 v5_1 v5_2 r22 r28 r34 r43 v5_7 v6 r41 r42 Kt))) else (p4_17 C N25 N26 N27 N28 N29 N30 N31 k j0 v2_0 v2_1 v2_2 v2_3 v2_4 v2_5 v2_6 v2_7 v5_0 v5_1 v5_2 r22 r28 r34 v5_6 v5_7 v6 r38 r39 Kt)))))))))))))) := (hC _ _ _).trans (by kernel_rfl)
theorem g2_17_eq (hC : ∀ key e t, C key e t = t e) (k : Nat) (j0 : Nat) (v2_0 : Int) (v2_1 : Int) (v2_2 : Int) (v2_3 : Int) (v2_4 : Int) (v2_5 : Int) (v2_6 : List UInt8) (v2_7 : Int) (v5_0 : Int) (v5_1 : Int) (v5_2 : Int) (v5_3 : Int) (v5_4 : Int) (v5_5 : Int) (v5_6 : List UInt8) (v5_7 : Int) (v6 : Bool) (v8_0 : List UInt8) (v8_1 : Bool) (Kt : Tk17) : g2_17 C N25 N26 N27 N28 N29 N30 N31 k (j0 + 1) v2_0 v2_1 v2_2 v2_3 v2_4 v2_5 v2_6 v2_7 v5_0 v5_1 v5_2 v5_3 v5_4 v5_5 v5_6 v5_7 v6 v8_0 v8_1 Kt =
  (bif (!v8_1) then (bif (v8_0 == ([] : List UInt8)) then (N31 v5_0 v5_1 v5_2 v5_3 v5_4 v5_5 v5_6 v5_7 fun r44 => (Kt v5_0 v5_1 v5_2 v5_3 v5_4 v5_5 v5_6 v5_7 v6 r44)) else (Kt v5_0 v5_1 v5_2 v5_3 v5_4 v5_5 v5_6 v5_7 v6 false)) else (Kt v5_0 v5_1 v5_2 v5_3 v5_4 v5_5 v5_6 v5_7 v6 false)) := (hC _ _ _).trans (by kernel_rfl)
theorem g3_17_eq (hC : ∀ key e t, C key e t = t e) (k : Nat) (j0 : Nat) (v2_0 : Int) (v2_1 : Int) (v2_2 : Int) (v2_3 : Int) (v2_4 : Int) (v2_5 : Int) (v2_6 : List UInt8) (v2_7 : Int) (v5_0 : Int) (v5_1 : Int) (v5_2 : Int) (v5_3 : Int) (v5_4 : Int) (v5_5 : Int) (v5_6 : List UInt8) (v5_7 : Int) (v6 : Bool) (v8_0 : List UInt8) (v8_1 : Bool) (Kt : Tk17) : g3_17 C N25 N26 N27 N28 N29 N30 N31 k (j0 + 1) v2_0 v2_1 v2_2 v2_3 v2_4 v2_5 v2_6 v2_7 v5_0 v5_1 v5_2 v5_3 v5_4 v5_5 v5_6 v5_7 v6 v8_0 v8_1 Kt =
  (N25 v8_0 v8_1 1 2 fun r45 r46 r47 => (N26 r46 r47 ([58] : List UInt8) fun r48 r49 r50 => (N25 r49 r50 2 2 fun r51 r52 r53 => (N26 r52 r53 ([58] : List UInt8) fun r54 r55 r56 => (N25 r55 r56 2 2 fun r57 r58 r59 => (N27 r58 r59 ([46] : List UInt8) fun r60 r61 r62 => (bif (r60 != 0) then (N28 r61 r62 ([48, 49, 50, 51, 52, 53, 54, 55, 56, 57] : List UInt8) fun r63 r64 r65 => (N29 r63 ([48] : List UInt8) fun r66 => (p4_17 C N25 N26 N27 N28 N29 N30 N31 k j0 v2_0 v2_1 v2_2 v2_3 v2_4 v2_5 v2_6 v2_7 v5_0 v5_1 v5_2 r45 r51 r57 r66 v5_7 v6 r64 r65 Kt))) else (p4_17 C N25 N26 N27 N28 N29 N30 N31 k j0 v2_0 v2_1 v2_2 v2_3 v2_4 v2_5 v2_6 v2_7 v5_0 v5_1 v5_2 r45 r51 r57 v5_6 v5_7 v6 r61 r62 Kt)))))))) := (hC _ _ _).trans (by kernel_rfl)
theorem p4_17_eq (hC : ∀ key e t, C key e t = t e) (k : Nat) (j0 : Nat) (v2_0 : Int) (v2_1 : Int) (v2_2 : Int) (v2_3 : Int) (v2_4 : Int) (v2_5 : Int) (v2_6 : List UInt8) (v2_7 : Int) (v5_0 : Int) (v5_1 : Int) (v5_2 : Int) (v5_3 : Int) (v5_4 : Int) (v5_5 : Int) (v5_6 : List UInt8) (v5_7 : Int) (v6 : Bool) (v8_0 : List UInt8) (v8_1 : Bool) (Kt : Tk17) : p4_17 C N25 N26 N27 N28 N29 N30 N31 k j0 v2_0 v2_1 v2_2 v2_3 v2_4 v2_5 v2_6 v2_7 v5_0 v5_1 v5_2 v5_3 v5_4 v5_5 v5_6 v5_7 v6 v8_0 v8_1 Kt =
  (bif (v8_0 == ([] : List UInt8)) then (g2_17 C N25 N26 N27 N28 N29 N30 N31 k j0 v2_0 v2_1 v2_2 v2_3 v2_4 v2_5 v2_6 v2_7 v5_0 v5_1 v5_2 v5_3 v5_4 v5_5 v5_6 v5_7 v6 v8_0 v8_1 Kt) else (N28 v8_0 v8_1 ([32, 9] : List UInt8) fun r67 r68 r69 => (N27 r68 r69 ([90] : List UInt8) fun r70 r71 r72 => (bif (r70 != 0) then (g2_17 C N25 N26 N27 N28 N29 N30 N31 k j0 v2_0 v2_1 v2_2 v2_3 v2_4 v2_5 v2_6 v2_7 v5_0 v5_1 v5_2 v5_3 v5_4 v5_5 v5_6 v5_7 v6 r71 r72 Kt) else (N26 r71 r72 ([43, 45] : List UInt8) fun r73 r74 r75 => (N30 r74 r75 fun r76 r77 r78 => (bif (r73 == 45) then (p5_17 C N25 N26 N27 N28 N29 N30 N31 k j0 v2_0 v2_1 v2_2 v2_3 v2_4 v2_5 v2_6 v2_7 v5_0 v5_1 v5_2 v5_3 v5_4 v5_5 v5_6 (IntKind.i64.wrap (0 - r76)) v6 r77 r78 Kt) else (p5_17 C N25 N26 N27 N28 N29 N30 N31 k j0 v2_0 v2_1 v2_2 v2_3 v2_4 v2_5 v2_6 v2_7 v5_0 v5_1 v5_2 v5_3 v5_4 v5_5 v5_6 r76 v6 r77 r78 Kt)))))))) := (hC _ _ _).trans (by kernel_rfl)
theorem p5_17_eq (hC : ∀ key e t, C key e t = t e) (k : Nat) (j0 : Nat) (v2_0 : Int) (v2_1 : Int) (v2_2 : Int) (v2_3 : Int) (v2_4 : Int) (v2_5 : Int) (v2_6 : List UInt8) (v2_7 : Int) (v5_0 : Int) (v5_1 : Int) (v5_2 : Int) (v5_3 : Int) (v5_4 : Int) (v5_5 : Int) (v5_6 : List UInt8) (v5_7 : Int) (v6 : Bool) (v8_0 : List UInt8) (v8_1 : Bool) (Kt : Tk17) : p5_17 C N25 N26 N27 N28 N29 N30 N31 k j0 v2_0 v2_1 v2_2 v2_3 v2_4 v2_5 v2_6 v2_7 v5_0 v5_1 v5_2 v5_3 v5_4 v5_5 v5_6 v5_7 v6 v8_0 v8_1 Kt =
  (bif (!v8_1) then (bif (v8_0 == ([] : List UInt8)) then (N31 v5_0 v5_1 v5_2 v5_3 v5_4 v5_5 v5_6 v5_7 fun r79 => (Kt v5_0 v5_1 v5_2 v5_3 v5_4 v5_5 v5_6 v5_7 v6 r79)) else (Kt v5_0 v5_1 v5_2 v5_3 v5_4 v5_5 v5_6 v5_7 v6 false)) else (Kt v5_0 v5_1 v5_2 v5_3 v5_4 v5_5 v5_6 v5_7 v6 false)) := (hC _ _ _).trans (by kernel_rfl)
end
theorem is17 {G : World → Prop} {ng : Nat} (S : Stays Tryd.prog G ng) {N25 : Ty25} {N26 : Ty26} {N27 : Ty27} {N28 : Ty28} {N29 : Ty29} {N30 : Ty30} {N31 : Ty31} (h25 : FnIs Tryd.prog G ng 25 (adp25 N25)) (h26 : FnIs Tryd.prog G ng 26 (adp26 N26)) (h27 : FnIs Tryd.prog G ng 27 (adp27 N27)) (h28 : FnIs Tryd.prog G ng 28 (adp28 N28)) (h29 : FnIs Tryd.prog G ng 29 (adp29 N29)) (h30 : FnIs Tryd.prog G ng 30 (adp30 N30)) (h31 : FnIs Tryd.prog G ng 31 (adp31 N31)) : FnIs Tryd.prog G ng 17 (adp17 (run17 cut0 N25 N26 N27 N28 N29 N30 N31 big)) := by
  refine spec_run cut0_eq S (l := gam17 N25 N26 N27 N28 N29 N30 N31) (by intro p hp; simp only [gam17, List.mem_cons, List.not_mem_nil, or_false] at hp; rcases hp with rfl | rfl | rfl | rfl | rfl | rfl | rfl <;> assumption) Tryd.func17 (by kernel_rfl) (nn := 5) (Lv := lvs17) (k := big) fun rc cs K r h => ?_
  unfold adp17 at h
  split at h
  · refine ⟨_, h, fun p hp => ?_⟩
    unfold tok17 at hp
    split at hp
    · exact hp
    · cases hp
  · cases h
theorem as17 {G : World → Prop} {ng : Nat} (S : Stays Tryd.prog G ng) {N25 : Ty25} {N26 : Ty26} {N27 : Ty27} {N28 : Ty28} {N29 : Ty29} {N30 : Ty30} {N31 : Ty31} (h25 : FnIs Tryd.prog G ng 25 (adp25 N25)) (h26 : FnIs Tryd.prog G ng 26 (adp26 N26)) (h27 : FnIs Tryd.prog G ng 27 (adp27 N27)) (h28 : FnIs Tryd.prog G ng 28 (adp28 N28)) (h29 : FnIs Tryd.prog G ng 29 (adp29 N29)) (h30 : FnIs Tryd.prog G ng 30 (adp30 N30)) (h31 : FnIs Tryd.prog G ng 31 (adp31 N31)) {A : Ty17} (hA : ∀ (a0 : List UInt8) (Kt : Tk17) (r : Out), A a0 Kt = some r → run17 cut0 N25 N26 N27 N28 N29 N30 N31 big a0 Kt = some r) : FnIs Tryd.prog G ng 17 (adp17 A) :=
  (is17 S h25 h26 h27 h28 h29 h30 h31).weaken fun rc cs K r h => by
    unfold adp17 at h ⊢
    split at h
    · exact hA _ _ _ h
    · cases h

/-! targum/targumlaw10.known -/
def lvs8 : Nat → Option (List (Nat × Co))
  | _ => none
section
variable (C : Nat → Env → (Env → Option Out) → Option Out) (N9 : Ty9) (N11 : Ty11)
def gam8 : List (Nat × Fn1) := [(9, adp9 N9), (11, adp11 N11)]
noncomputable def bod8 : Code := Tryd.f8.body.getD .skip
noncomputable def run8 (k : Nat) (Kt : Tk8) : Option Out := runK Tryd.prog (lookG (gam8 N9 N11)) 1 lvs8 C k Tryd.f8 none [] (tok8 Kt)
theorem run8_eq (k : Nat) (Kt : Tk8) : run8 C N9 N11 k Kt =
  (N9 ([50, 48, 48, 49, 45, 49, 45, 49] : List UInt8) fun r1 r2 => (N9 ([50, 48, 48, 49, 45, 48, 49, 45, 48, 49] : List UInt8) fun r3 r4 => (N9 ([50, 48, 48, 49, 45, 49, 45, 49, 32, 48, 58, 48, 48, 58, 48, 48, 32, 43, 49] : List UInt8) fun r5 r6 => (N9 ([50, 48, 48, 48, 45, 48, 50, 45, 50, 57, 116, 50, 51, 58, 53, 57, 58, 53, 57, 46, 49, 50, 48, 48, 45, 48, 58, 51, 48] : List UInt8) fun r7 r8 => (N9 ([49, 57, 48, 48, 45, 48, 50, 45, 50, 57] : List UInt8) fun r9 r10 => (N9 ([48, 48, 48, 48, 45, 48, 49, 45, 48, 49, 32, 48, 58, 48, 48, 58, 48, 48, 32, 43, 48, 58, 48, 49] : List UInt8) fun r11 r12 => (bif (!r2) then (bif r4 then (bif (r3 == ([50, 48, 48, 49, 45, 48, 49, 45, 48, 49] : List UInt8)) then (bif r6 then (bif (r5 == ([50, 48, 48, 48, 45, 49, 50, 45, 51, 49, 84, 50, 51, 58, 48, 48, 58, 48, 48, 90] : List UInt8)) then (bif r8 then (bif (r7 == ([50, 48, 48, 48, 45, 48, 51, 45, 48, 49, 84, 48, 48, 58, 50, 57, 58, 53, 57, 46, 49, 50, 90] : List UInt8)) then (bif (!r10) then (bif (!r12) then (N11 2000 2 fun r13 => (bif (r13 == 29) then (N11 1 13 fun r14 => (Kt (r14 == 0))) else (Kt false))) else (Kt false)) else (Kt false)) else (Kt false)) else (Kt false)) else (Kt false)) else (Kt false)) else (Kt false)) else (Kt false)) else (Kt false)))))))) := by kernel_rfl
end
theorem is8 {G : World → Prop} {ng : Nat} (S : Stays Tryd.prog G ng) {N9 : Ty9} {N11 : Ty11} (h9 : FnIs Tryd.prog G ng 9 (adp9 N9)) (h11 : FnIs Tryd.prog G ng 11 (adp11 N11)) : FnIs Tryd.prog G ng 8 (adp8 (run8 cut0 N9 N11 big)) := by
  refine spec_run cut0_eq S (l := gam8 N9 N11) (by intro p hp; simp only [gam8, List.mem_cons, List.not_mem_nil, or_false] at hp; rcases hp with rfl | rfl <;> assumption) Tryd.func8 (by kernel_rfl) (nn := 1) (Lv := lvs8) (k := big) fun rc cs K r h => ?_
  unfold adp8 at h
  split at h
  · refine ⟨_, h, fun p hp => ?_⟩
    unfold tok8 at hp
    split at hp
    · exact hp
    · cases hp
  · cases h
theorem as8 {G : World → Prop} {ng : Nat} (S : Stays Tryd.prog G ng) {N9 : Ty9} {N11 : Ty11} (h9 : FnIs Tryd.prog G ng 9 (adp9 N9)) (h11 : FnIs Tryd.prog G ng 11 (adp11 N11)) {A : Ty8} (hA : ∀ (Kt : Tk8) (r : Out), A Kt = some r → run8 cut0 N9 N11 big Kt = some r) : FnIs Tryd.prog G ng 8 (adp8 A) :=
  (is8 S h9 h11).weaken fun rc cs K r h => by
    unfold adp8 at h ⊢
    split at h
    · exact hA _ _ h
    · cases h

end Go.Proofs.YtnfjggagenmkjaaDoor
