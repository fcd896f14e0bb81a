/- Texts of this session, joined. -/
import Derived.Test.YtffmgholjdfcnaaGreatDoorWNuQ
import Derived.Test.YtffmgholjdfcnaaGreatDoorWNuX
import Derived.Test.YtffmgholjdfcnaaGreatDoorHE
set_option linter.unusedSimpArgs false
set_option linter.unusedVariables false
namespace Go.Proofs.YtffmgholjdfcnaaGreatDoor
open Go AM St Nu
open Go.IntKind (i64 u8)
variable {C : Nat → Env → (Env → Option Out) → Option Out}
theorem clean_cons (c : UInt8) (l : B) : clean (c :: l) = bif c == 32 || c == 9 || c == 10 || c == 13 then clean l else c :: clean l := by
 unfold clean
 rw [List.filter_cons]
 cases c == 32 || c == 9 || c == 10 || c == 13 <;> rfl
def A129 : Ty129 := fun s K => if s.length ≤ 1000000 then K (clean s) else none
theorem loop129 (hC : Cv C) {s : B} (hs : s.length ≤ 1000000) {K : Tk129} (kk : Nat) : ∀ (l out : B) (j : Nat), l <:+ s → l.length < j → out.length + l.length ≤ 1000000 → l1_129 C kk j s (out.map nI) (Pt s l) K = K (out ++ clean l)
 | [], out, j, h, hj, ho => by
  obtain ⟨j, rfl⟩ : ∃ i, j = i + 1 := ⟨j - 1, by omega⟩
  rw [l1_129_eq _ hC, Pt_end, decide_eq_false (by omega), cond_false, map_nI]
  unfold clean
  rw [List.filter_nil, List.append_nil]
 | c :: l, out, j, h, hj, ho => by
  obtain ⟨j, rfl⟩ : ∃ i, j = i + 1 := ⟨j - 1, by omega⟩
  have hl : l <:+ s := (List.suffix_cons c l).trans h
  simp only [List.length_cons] at hj ho
  have ih := loop129 hC hs (K := K) kk l out j hl (by omega) (by omega)
  have ih2 := loop129 hC hs (K := K) kk l (out ++ [c]) j hl (by omega) (by rw [List.length_append, List.length_singleton]; omega)
  rw [List.map_append, List.map_cons, List.map_nil] at ih2
  have hb : decide ((out.map nI ++ [nI c]).length ≤ 1099511627776) = true := decide_eq_true (by rw [List.length_append, List.length_map, List.length_singleton]; omega)
  rw [l1_129_eq _ hC, decide_eq_true (Pt_lt h), cond_true, at_Pt h]
  simp only [Option.bind_some]
  have e : (c.toNat : Int) = nI c := rfl
  rw [neB 32 (n := 32) rfl, neB 9 (n := 9) rfl, neB 10 (n := 10) rfl, neB 13 (n := 13) rfl, e, hb, Pt_succ h (by omega), ih, ih2, clean_cons]
  cases c == 32 <;> cases c == 9 <;> cases c == 10 <;> cases c == 13 <;> simp
theorem eq129 (hC : Cv C) (s : B) (K : Tk129) (r : Out) (h : A129 s K = some r) : run129 C big s K = some r := by
 unfold A129 at h
 split at h
 ·rename_i hs
  rw [run129_eq, ← h]
  have := loop129 hC hs (K := K) big s [] big (List.suffix_refl s) (by unfold big; omega) (by simpa using hs)
  rw [Pt_zero] at this
  exact this
 ·cases h
def numC (c : UInt8) : Int := if plc c = 64 then -1 else (plc c : Int)
def fnd (c : UInt8) : B → Int
 | [] => -1
 | x :: l => bif x == c then Pt b64 (x :: l) else fnd c l
theorem fnd_num (c : UInt8) : fnd c b64 = numC c := allU8 (P := fun c => fnd c b64 = numC c) (by decide +kernel) c
def A181 : Ty181 := fun c K => if 0 ≤ c ∧ c ≤ 255 then K (numC (UInt8.ofNat c.toNat)) else none
theorem l1_181_eq' (hC : Cv C) (k j0 : Nat) (v0 v3 : Int) (Kt : Tk181) : l1_181 C k (j0 + 1) v0 v3 Kt =
  (bif (decide (v3 < (b64.length : Int))) then ((at? b64 v3).bind fun b1 => (bif ((b1.toNat : Int) == v0) then (Kt v3) else (l1_181 C k j0 v0 (i64.wrap (v3 + 1)) Kt))) else (Kt (-1))) := l1_181_eq _ hC ..
theorem loop181 (hC : Cv C) (c : UInt8) {K : Tk181} (kk : Nat) : ∀ (l : B) (j : Nat), l <:+ b64 → l.length < j → l1_181 C kk j (nI c) (Pt b64 l) K = K (fnd c l)
 | [], j, h, hj => by
  obtain ⟨j, rfl⟩ : ∃ i, j = i + 1 := ⟨j - 1, by omega⟩
  rw [l1_181_eq' hC, Pt_end, decide_eq_false (by omega), cond_false, fnd]
 | x :: l, j, h, hj => by
  obtain ⟨j, rfl⟩ : ∃ i, j = i + 1 := ⟨j - 1, by omega⟩
  have hl : l <:+ b64 := (List.suffix_cons x l).trans h
  have ih := loop181 hC c (K := K) kk l j hl (by simp at hj; omega)
  have e : ((x.toNat : Int) == nI c) = (x == c) := eqB c rfl x
  rw [l1_181_eq' hC, decide_eq_true (Pt_lt h), cond_true, at_Pt h, Option.bind_some, Pt_succ h (by decide), ih, e, fnd]
  cases x == c <;> rfl
theorem eq181 (hC : Cv C) (c : Int) (K : Tk181) (r : Out) (h : A181 c K = some r) : run181 C big c K = some r := by
 unfold A181 at h
 split at h
 ·rename_i hs
  have e : nI (UInt8.ofNat c.toNat) = c := by
   unfold nI
   rw [UInt8.toNat_ofNat_of_lt' (by show c.toNat < 256; omega)]
   omega
  have := loop181 hC (UInt8.ofNat c.toNat) (K := K) big b64 big (List.suffix_refl _) (by decide)
  rw [Pt_zero, e, fnd_num] at this
  rw [run181_eq, ← h]
  exact this
 ·cases h
theorem A181_ok (c : UInt8) (K : Tk181) : A181 (nI c) K = K (numC c) := by
 unfold A181
 rw [if_pos (by have := byte_lt c; unfold nI; omega), ofNat_nI]
def A182 : Ty182 := fun l K => if (∀ x, x ∈ l → 0 ≤ x ∧ x ≤ 255) ∧ l.length ≤ 1000000 then K (enc (l.map fun n => UInt8.ofNat n.toNat)) else none
theorem at64 {n : Nat} (h : n < 64) : at? b64 (n : Int) = some (sig6 n) := by
 unfold at?
 rw [if_pos (by omega), Int.toNat_natCast]
 unfold sig6
 rw [List.getD_eq_getElem?_getD, List.getElem?_eq_getElem (show n < b64.length from h)]
 rfl
theorem p3_182_eq' (hC : Cv C) (k j0 : Nat) (v0 v3 : List Int) (v4 v5 : Int) (Kt : Tk182) : p3_182 C k j0 v0 v3 v4 v5 Kt =
 ((at? b64 (i64.wrap (v5.tdiv 262144))).bind fun b4 => ((at? b64 ((i64.wrap (v5.tdiv 4096)).tmod 64)).bind fun b5 => (bif decide ((v3 ++ ([(b4.toNat : Int), (b5.toNat : Int), 61, 61] : List Int)).length ≤ 1099511627776) then (bif (decide ((i64.wrap (v4 + 1)) < (v0.length : Int))) then ((at? b64 ((i64.wrap (v5.tdiv 64)).tmod 64)).bind fun b6 => (bif (decide (0 ≤ (i64.wrap (((v3 ++ ([(b4.toNat : Int), (b5.toNat : Int), 61, 61] : List Int)).length : Int) - 2))) && decide ((i64.wrap (((v3 ++ ([(b4.toNat : Int), (b5.toNat : Int), 61, 61] : List Int)).length : Int) - 2)) < ((v3 ++ ([(b4.toNat : Int), (b5.toNat : Int), 61, 61] : List Int)).length : Int))) then (bif decide ((i64.wrap (((v3 ++ ([(b4.toNat : Int), (b5.toNat : Int), 61, 61] : List Int)).length : Int) - 2)).toNat < (v3 ++ ([(b4.toNat : Int), (b5.toNat : Int), 61, 61] : List Int)).length) then (p4_182 C k j0 v0 ((v3 ++ ([(b4.toNat : Int), (b5.toNat : Int), 61, 61] : List Int)).set (i64.wrap (((v3 ++ ([(b4.toNat : Int), (b5.toNat : Int), 61, 61] : List Int)).length : Int) - 2)).toNat (b6.toNat : Int)) v4 v5 Kt) else none) else none)) else (p4_182 C k j0 v0 (v3 ++ ([(b4.toNat : Int), (b5.toNat : Int), 61, 61] : List Int)) v4 v5 Kt)) else none))) := p3_182_eq _ hC ..
theorem p4_182_eq' (hC : Cv C) (k j0 : Nat) (v0 v3 : List Int) (v4 v5 : Int) (Kt : Tk182) : p4_182 C k j0 v0 v3 v4 v5 Kt =
 (bif (decide ((i64.wrap (v4 + 2)) < (v0.length : Int))) then ((at? b64 (v5.tmod 64)).bind fun b7 => (bif (decide (0 ≤ (i64.wrap ((v3.length : Int) - 1))) && decide ((i64.wrap ((v3.length : Int) - 1)) < (v3.length : Int))) then (bif decide ((i64.wrap ((v3.length : Int) - 1)).toNat < v3.length) then (p5_182 C k j0 v0 (v3.set (i64.wrap ((v3.length : Int) - 1)).toNat (b7.toNat : Int)) v4 Kt) else none) else none)) else (p5_182 C k j0 v0 v3 v4 Kt)) := p4_182_eq _ hC ..
theorem set2 (O : List Int) (p q r s z : Int) : (O ++ [p, q, r, s]).set (O.length + 2) z = O ++ [p, q, z, s] := by
 rw [List.set_append, if_neg (by omega), Nat.add_sub_cancel_left]; rfl
theorem set3 (O : List Int) (p q r s z : Int) : (O ++ [p, q, r, s]).set (O.length + 3) z = O ++ [p, q, r, z] := by
 rw [List.set_append, if_neg (by omega), Nat.add_sub_cancel_left]; rfl
theorem p4_go (hC : Cv C) {O v0 : List Int} {p q r i : Int} {V : Nat} {d2 : Bool} {K : Tk182} (kk j : Nat) (hO : O.length ≤ 2000000) (h2 : decide (i64.wrap (i + 2) < (v0.length : Int)) = d2) :
  p4_182 C kk j v0 (O ++ [p, q, r, 61]) i (V : Int) K = p5_182 C kk j v0 (O ++ [p, q, r, (bif d2 then nI (sig6 (V % 64)) else 61)]) i K := by
 rw [p4_182_eq' hC, h2]
 cases d2 with
 | false => rfl
 | true =>
  have e1 : ((V : Int).tmod 64) = ((V % 64 : Nat) : Int) := by rw [tmod_nn (by omega)]; omega
  have hl : (O ++ [p, q, r, 61]).length = O.length + 4 := by simp
  have e2 : i64.wrap (((O.length + 4 : Nat) : Int) - 1) = ((O.length + 3 : Nat) : Int) := by rw [i64_in (by omega) (by omega)]; omega
  rw [cond_true, e1, at64 (by omega), Option.bind_some, hl, e2, Int.toNat_natCast, set3, decide_eq_true (show (0 : Int) ≤ ((O.length + 3 : Nat) : Int) by omega), decide_eq_true (show ((O.length + 3 : Nat) : Int) < ((O.length + 4 : Nat) : Int) by omega), decide_eq_true (show O.length + 3 < O.length + 4 by omega)]
  rfl
theorem p3_go (hC : Cv C) {O v0 : List Int} {i : Int} {V : Nat} {d1 d2 : Bool} {K : Tk182} (kk j : Nat) (hO : O.length ≤ 2000000) (hV : V < 16777216) (h1 : decide (i64.wrap (i + 1) < (v0.length : Int)) = d1) (h2 : decide (i64.wrap (i + 2) < (v0.length : Int)) = d2) :
  p3_182 C kk j v0 O i (V : Int) K = p5_182 C kk j v0 (O ++ [nI (sig6 (V / 262144)), nI (sig6 (V / 4096 % 64)), (bif d1 then nI (sig6 (V / 64 % 64)) else 61), (bif d2 then nI (sig6 (V % 64)) else 61)]) i K := by
 have e1 : i64.wrap ((V : Int).tdiv 262144) = ((V / 262144 : Nat) : Int) := by rw [tdiv_nn (by omega), i64_in (by omega) (by omega)]; omega
 have e2 : (i64.wrap ((V : Int).tdiv 4096)).tmod 64 = ((V / 4096 % 64 : Nat) : Int) := by rw [tdiv_nn (by omega), i64_in (by omega) (by omega), tmod_nn (by omega)]; omega
 have e3 : (i64.wrap ((V : Int).tdiv 64)).tmod 64 = ((V / 64 % 64 : Nat) : Int) := by rw [tdiv_nn (by omega), i64_in (by omega) (by omega), tmod_nn (by omega)]; omega
 have c1 : ((sig6 (V / 262144)).toNat : Int) = nI (sig6 (V / 262144)) := rfl
 have c2 : ((sig6 (V / 4096 % 64)).toNat : Int) = nI (sig6 (V / 4096 % 64)) := rfl
 have hl : ∀ x y : Int, (O ++ [x, y, 61, 61]).length = O.length + 4 := fun x y => by simp
 rw [p3_182_eq' hC, e1, e2, at64 (by omega), at64 (by omega), Option.bind_some, Option.bind_some, h1, c1, c2, hl, decide_eq_true (show O.length + 4 ≤ 1099511627776 by omega), cond_true]
 cases d1 with
 | false => exact p4_go hC kk j hO h2
 | true =>
  have e4 : i64.wrap (((O.length + 4 : Nat) : Int) - 2) = ((O.length + 2 : Nat) : Int) := by rw [i64_in (by omega) (by omega)]; omega
  rw [cond_true, e3, at64 (by omega), Option.bind_some, e4, Int.toNat_natCast, set2, decide_eq_true (show (0 : Int) ≤ ((O.length + 2 : Nat) : Int) by omega), decide_eq_true (show ((O.length + 2 : Nat) : Int) < ((O.length + 4 : Nat) : Int) by omega), decide_eq_true (show O.length + 2 < O.length + 4 by omega)]
  exact p4_go hC kk j hO h2
theorem end182 (hC : Cv C) {v0 : List Int} {out : B} {i : Int} {K : Tk182} (kk j : Nat) (h : (v0.length : Int) ≤ i) : l1_182 C kk (j + 1) v0 (out.map nI) i K = K out := by
 rw [l1_182_eq _ hC, decide_eq_false (by omega), cond_false, map_nI]
theorem idx_Pt {s l : B} {c : UInt8} (h : c :: l <:+ s) : (s.map nI)[(Pt s (c :: l)).toNat]? = some (nI c) := by
 have h1 := at_Pt h
 unfold at? at h1
 rw [if_pos (Pt_nn _ _)] at h1
 rw [List.getElem?_map, h1]; rfl
theorem Pt_val {s l : B} (h : l <:+ s) : Pt s l + l.length = s.length := by
 have := h.length_le
 unfold Pt; omega
theorem loop182 (hC : Cv C) {s : B} (hs : s.length ≤ 1000000) {K : Tk182} (kk : Nat) : ∀ (l out : B) (j : Nat), l <:+ s → l.length + 1 < j → out.length + 2 * l.length ≤ 2000000 → l1_182 C kk j (s.map nI) (out.map nI) (Pt s l) K = K (out ++ enc l)
 | [], out, j, h, hj, ho => by
  obtain ⟨j, rfl⟩ : ∃ i, j = i + 1 := ⟨j - 1, by omega⟩
  rw [end182 hC kk j (by rw [List.length_map, Pt_end]; omega), enc, List.append_nil]
 | [a], out, j, h, hj, ho => by
  obtain ⟨j, rfl⟩ : ∃ i, j = i + 2 := ⟨j - 2, by simp at hj; omega⟩
  have hp := Pt_val h
  have ha := byte_lt a
  have p0 := Pt_nn s [a]
  simp only [List.length_cons, List.length_nil] at hp ho
  have hw1 : i64.wrap (Pt s [a] + 1) = Pt s [a] + 1 := i64_in (by omega) (by omega)
  have hw2 : i64.wrap (Pt s [a] + 2) = Pt s [a] + 2 := i64_in (by omega) (by omega)
  have hw3 : i64.wrap (Pt s [a] + 3) = Pt s [a] + 3 := i64_in (by omega) (by omega)
  have hL : (((s.map nI).length : Nat) : Int) = (s.length : Int) := by rw [List.length_map]
  have d1 : decide (i64.wrap (Pt s [a] + 1) < (((s.map nI).length : Nat) : Int)) = false := by rw [hw1, hL]; exact decide_eq_false (by omega)
  have d2 : decide (i64.wrap (Pt s [a] + 2) < (((s.map nI).length : Nat) : Int)) = false := by rw [hw2, hL]; exact decide_eq_false (by omega)
  have eV : i64.wrap (i64.wrap (nI a) * 65536) = ((a.toNat * 65536 : Nat) : Int) := by
   unfold nI
   rw [i64_in (n := (a.toNat : Int)) (by omega) (by omega), i64_in (by omega) (by omega)]; omega
  have d1' : decide (i64.wrap (Pt s [a] + 1) < (s.length : Int)) = false := by rw [← hL]; exact d1
  rw [l1_182_eq _ hC, hL, decide_eq_true (show Pt s [a] < (s.length : Int) by omega), decide_eq_true p0, cond_true, Bool.and_self, cond_true, idx_Pt h, Option.bind_some, d1', cond_false, eV, p2_182_eq _ hC, d2, cond_false,
   p3_go hC kk _ (by rw [List.length_map]; omega) (by omega) d1 d2, p5_182_eq _ hC, hw3]
  have e : (out.map nI ++ [nI (sig6 (a.toNat * 65536 / 262144)), nI (sig6 (a.toNat * 65536 / 4096 % 64)), (bif false then nI (sig6 (a.toNat * 65536 / 64 % 64)) else 61), (bif false then nI (sig6 (a.toNat * 65536 % 64)) else 61)]) = (out ++ enc [a]).map nI := by
   rw [List.map_append, enc, show a.toNat * 65536 / 262144 = a.toNat / 4 by omega, show a.toNat * 65536 / 4096 % 64 = a.toNat % 4 * 16 by omega]; rfl
  rw [e]
  exact end182 hC kk j (by rw [hL]; omega)
 | [a, b], out, j, h, hj, ho => by
  obtain ⟨j, rfl⟩ : ∃ i, j = i + 2 := ⟨j - 2, by simp at hj; omega⟩
  have hb' : [b] <:+ s := (List.suffix_cons a [b]).trans h
  have hp := Pt_val h
  have ha := byte_lt a
  have hb := byte_lt b
  have p0 := Pt_nn s [a, b]
  simp only [List.length_cons, List.length_nil] at hp ho
  have hw1 : i64.wrap (Pt s [a, b] + 1) = Pt s [b] := Pt_succ h (by omega)
  have hw2 : i64.wrap (Pt s [a, b] + 2) = Pt s [a, b] + 2 := i64_in (by omega) (by omega)
  have hw3 : i64.wrap (Pt s [a, b] + 3) = Pt s [a, b] + 3 := i64_in (by omega) (by omega)
  have hL : (((s.map nI).length : Nat) : Int) = (s.length : Int) := by rw [List.length_map]
  have hp1 := Pt_lt hb'
  have d1 : decide (i64.wrap (Pt s [a, b] + 1) < (((s.map nI).length : Nat) : Int)) = true := by rw [hw1, hL]; exact decide_eq_true hp1
  have d2 : decide (i64.wrap (Pt s [a, b] + 2) < (((s.map nI).length : Nat) : Int)) = false := by rw [hw2, hL]; exact decide_eq_false (by omega)
  have eV : i64.wrap (i64.wrap (i64.wrap (nI a) * 65536) + i64.wrap (i64.wrap (nI b) * 256)) = ((a.toNat * 65536 + b.toNat * 256 : Nat) : Int) := by
   unfold nI
   rw [i64_in (n := (a.toNat : Int)) (by omega) (by omega), i64_in (n := (b.toNat : Int)) (by omega) (by omega), i64_in (n := (a.toNat : Int) * 65536) (by omega) (by omega), i64_in (n := (b.toNat : Int) * 256) (by omega) (by omega), i64_in (by omega) (by omega)]; omega
  rw [l1_182_eq _ hC, hL, decide_eq_true (show Pt s [a, b] < (s.length : Int) by omega), decide_eq_true p0, cond_true, Bool.and_self, cond_true, idx_Pt h, Option.bind_some, hw1, decide_eq_true hp1, cond_true, decide_eq_true (Pt_nn s [b]), Bool.and_self, cond_true, idx_Pt hb', Option.bind_some, eV, p2_182_eq _ hC, d2, cond_false,
   p3_go hC kk _ (by rw [List.length_map]; omega) (by omega) d1 d2, p5_182_eq _ hC, hw3]
  have e : (out.map nI ++ [nI (sig6 ((a.toNat * 65536 + b.toNat * 256) / 262144)), nI (sig6 ((a.toNat * 65536 + b.toNat * 256) / 4096 % 64)), (bif true then nI (sig6 ((a.toNat * 65536 + b.toNat * 256) / 64 % 64)) else 61), (bif false then nI (sig6 ((a.toNat * 65536 + b.toNat * 256) % 64)) else 61)]) = (out ++ enc [a, b]).map nI := by
   rw [List.map_append, enc, show (a.toNat * 65536 + b.toNat * 256) / 262144 = a.toNat / 4 by omega, show (a.toNat * 65536 + b.toNat * 256) / 4096 % 64 = a.toNat % 4 * 16 + b.toNat / 16 by omega, show (a.toNat * 65536 + b.toNat * 256) / 64 % 64 = b.toNat % 16 * 4 by omega]; rfl
  rw [e]
  exact end182 hC kk j (by rw [hL]; omega)
 | a :: b :: c :: l, out, j, h, hj, ho => by
  obtain ⟨j, rfl⟩ : ∃ i, j = i + 1 := ⟨j - 1, by omega⟩
  have hb' : b :: c :: l <:+ s := (List.suffix_cons a _).trans h
  have hc' : c :: l <:+ s := (List.suffix_cons b _).trans hb'
  have hl' : l <:+ s := (List.suffix_cons c _).trans hc'
  have hp := Pt_val h
  have ha := byte_lt a
  have hb := byte_lt b
  have hc := byte_lt c
  have p0 := Pt_nn s (a :: b :: c :: l)
  simp only [List.length_cons] at hp ho hj
  have ih := loop182 hC hs (K := K) kk l (out ++ [sig6 (a.toNat / 4), sig6 (a.toNat % 4 * 16 + b.toNat / 16), sig6 (b.toNat % 16 * 4 + c.toNat / 64), sig6 (c.toNat % 64)]) j hl' (by omega) (by simp only [List.length_append, List.length_cons, List.length_nil]; omega)
  have q1 := Pt_cons h
  have q2 := Pt_cons hb'
  have q3 := Pt_cons hc'
  have hw1 : i64.wrap (Pt s (a :: b :: c :: l) + 1) = Pt s (b :: c :: l) := Pt_succ h (by omega)
  have hw2 : i64.wrap (Pt s (a :: b :: c :: l) + 2) = Pt s (c :: l) := by rw [i64_in (by omega) (by omega)]; omega
  have hw3 : i64.wrap (Pt s (a :: b :: c :: l) + 3) = Pt s l := by rw [i64_in (by omega) (by omega)]; omega
  have hL : (((s.map nI).length : Nat) : Int) = (s.length : Int) := by rw [List.length_map]
  have hp1 := Pt_lt hb'
  have hp2 := Pt_lt hc'
  have d1 : decide (i64.wrap (Pt s (a :: b :: c :: l) + 1) < (((s.map nI).length : Nat) : Int)) = true := by rw [hw1, hL]; exact decide_eq_true hp1
  have d2 : decide (i64.wrap (Pt s (a :: b :: c :: l) + 2) < (((s.map nI).length : Nat) : Int)) = true := by rw [hw2, hL]; exact decide_eq_true hp2
  have eV : i64.wrap (i64.wrap (i64.wrap (nI a) * 65536) + i64.wrap (i64.wrap (nI b) * 256)) = ((a.toNat * 65536 + b.toNat * 256 : Nat) : Int) := by
   unfold nI
   rw [i64_in (n := (a.toNat : Int)) (by omega) (by omega), i64_in (n := (b.toNat : Int)) (by omega) (by omega), i64_in (n := (a.toNat : Int) * 65536) (by omega) (by omega), i64_in (n := (b.toNat : Int) * 256) (by omega) (by omega), i64_in (by omega) (by omega)]; omega
  have eV2 : i64.wrap (((a.toNat * 65536 + b.toNat * 256 : Nat) : Int) + i64.wrap (nI c)) = ((a.toNat * 65536 + b.toNat * 256 + c.toNat : Nat) : Int) := by
   unfold nI
   rw [i64_in (n := (c.toNat : Int)) (by omega) (by omega), i64_in (by omega) (by omega)]; omega
  rw [l1_182_eq _ hC, hL, decide_eq_true (show Pt s (a :: b :: c :: l) < (s.length : Int) by omega), decide_eq_true p0, cond_true, Bool.and_self, cond_true, idx_Pt h, Option.bind_some, hw1, decide_eq_true hp1, cond_true, decide_eq_true (Pt_nn s (b :: c :: l)), Bool.and_self, cond_true, idx_Pt hb', Option.bind_some, eV, p2_182_eq _ hC, d2, cond_true, hw2,
   decide_eq_true (Pt_nn s (c :: l)), Bool.and_self, cond_true, idx_Pt hc', Option.bind_some, eV2, p3_go hC kk _ (by rw [List.length_map]; omega) (by omega) d1 d2, p5_182_eq _ hC, hw3]
  have e : (out.map nI ++ [nI (sig6 ((a.toNat * 65536 + b.toNat * 256 + c.toNat) / 262144)), nI (sig6 ((a.toNat * 65536 + b.toNat * 256 + c.toNat) / 4096 % 64)), (bif true then nI (sig6 ((a.toNat * 65536 + b.toNat * 256 + c.toNat) / 64 % 64)) else 61), (bif true then nI (sig6 ((a.toNat * 65536 + b.toNat * 256 + c.toNat) % 64)) else 61)]) = (out ++ [sig6 (a.toNat / 4), sig6 (a.toNat % 4 * 16 + b.toNat / 16), sig6 (b.toNat % 16 * 4 + c.toNat / 64), sig6 (c.toNat % 64)]).map nI := by
   rw [List.map_append, show (a.toNat * 65536 + b.toNat * 256 + c.toNat) / 262144 = a.toNat / 4 by omega, show (a.toNat * 65536 + b.toNat * 256 + c.toNat) / 4096 % 64 = a.toNat % 4 * 16 + b.toNat / 16 by omega, show (a.toNat * 65536 + b.toNat * 256 + c.toNat) / 64 % 64 = b.toNat % 16 * 4 + c.toNat / 64 by omega, show (a.toNat * 65536 + b.toNat * 256 + c.toNat) % 64 = c.toNat % 64 by omega]; rfl
  rw [e, ih, enc, List.append_assoc]
  rfl
theorem A182_ok {b : B} (h : b.length ≤ 1000000) (K : Tk182) : A182 (b.map nI) K = K (enc b) := by
 unfold A182
 rw [if_pos ⟨fun x hx => by obtain ⟨c, -, rfl⟩ := List.mem_map.1 hx; have := byte_lt c; unfold nI; omega, by rw [List.length_map]; exact h⟩, map_nI]
theorem un_nI {l : List Int} (h : ∀ x, x ∈ l → 0 ≤ x ∧ x ≤ 255) : (l.map fun n => UInt8.ofNat n.toNat).map nI = l := by
 rw [List.map_map]
 conv => rhs; rw [← List.map_id l]
 refine List.map_congr_left fun n hn => ?_
 have := h n hn
 show nI (UInt8.ofNat n.toNat) = n
 unfold nI
 rw [UInt8.toNat_ofNat_of_lt' (by show n.toNat < 256; omega)]
 omega
theorem eq182 (hC : Cv C) (l : List Int) (K : Tk182) (r : Out) (h : A182 l K = some r) : run182 C big l K = some r := by
 unfold A182 at h
 split at h
 ·rename_i hs
  obtain ⟨h1, h2⟩ := hs
  have := loop182 hC (s := l.map fun n => UInt8.ofNat n.toNat) (by rw [List.length_map]; exact h2) (K := K) big (l.map fun n => UInt8.ofNat n.toNat) [] big (List.suffix_refl _) (by rw [List.length_map]; unfold big; omega) (by rw [List.length_map, List.length_nil]; omega)
  rw [Pt_zero, un_nI h1, List.nil_append] at this
  rw [run182_eq, ← h]
  exact this
 ·cases h
end Go.Proofs.YtffmgholjdfcnaaGreatDoor
