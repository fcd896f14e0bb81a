/- Texts of this session, joined. -/
import Derived.Test.YtffmgholjdfcnaaGreatDoorWNuY
set_option linter.unusedSimpArgs false
set_option linter.unusedVariables false
namespace Go.Proofs.YtffmgholjdfcnaaGreatDoor
open Go AM St Nu
open Go.IntKind (i64 u8)
variable {C : Nat → Env → (Env → Option Out) → Option Out}
theorem cutN_to {n b : Nat} (h : b ≤ n) : cutN n none (some (b : Int)) = some (0, b) := by
 unfold cutN
 simp [h]
theorem w8_nat (n : Nat) : u8.wrap (n : Int) = nI (UInt8.ofNat n) := by
 rw [IntKind.wrap_u8]
 unfold nI
 simp
theorem numC_neg (c : UInt8) : decide (numC c < 0) = decide (plc c = 64) := by
 unfold numC
 by_cases h : plc c = 64
 ·rw [if_pos h, decide_eq_true h]; rfl
 ·rw [if_neg h, decide_eq_false h]; exact decide_eq_false (by omega)
theorem gS_bd {last : Bool} {j : Nat} {c : UInt8} {st q : Nat × Nat} (h : gS last j c st = some q) : q.1 ≤ st.1 * 64 + 63 ∧ q.2 ≤ st.2 + 1 ∧ (j < 2 → q.2 = st.2) := by
 unfold gS at h
 have := plc_le c
 split at h
 ·split at h
  ·injection h with h; subst h; exact ⟨by simp, Nat.le_refl _, fun e => by omega⟩
  ·cases h
 ·split at h
  ·cases h
  ·injection h with h; subst h; exact ⟨by simp; omega, by simp, fun _ => rfl⟩
def grpK (K : Tk128) (f : Nat × Nat → Option Out) : Option (Nat × Nat) → Option Out
 | none => K [] false
 | some q => f q
theorem step128 (hC : Cv C) {t : B} {O : List Int} {i : Int} {v p j : Nat} {c : UInt8} {last : Bool} {K : Tk128} (kk j0 j1 : Nat) (hj : j < 4) (hv : v < 16777216) (hp : p ≤ 4)
  (hat : at? t (i64.wrap (i + (j : Int))) = some c) (hl : (i64.wrap (i + 4) == (t.length : Int)) = last) :
  l2_128 C A129 A181 A182 kk j0 (j1 + 1) t O i (v : Int) (p : Int) (j : Int) K = grpK K (fun q => l2_128 C A129 A181 A182 kk j0 j1 t O i (q.1 : Int) (q.2 : Int) ((j + 1 : Nat) : Int) K) (gS last j c (v, p)) := by
 have e0 : (c.toNat : Int) = nI c := rfl
 have e61 : (nI c == 61) = (c == 61) := eqB 61 (n := 61) rfl c
 have w1 : i64.wrap ((j : Int) + 1) = ((j + 1 : Nat) : Int) := by rw [i64_in (by omega) (by omega)]; omega
 have w2 : i64.wrap ((p : Int) + 1) = ((p + 1 : Nat) : Int) := by rw [i64_in (by omega) (by omega)]; omega
 have w3 : i64.wrap ((v : Int) * 64) = ((v * 64 : Nat) : Int) := by rw [i64_in (by omega) (by omega)]; omega
 have w4 : i64.wrap (((v * 64 : Nat) : Int) + 0) = ((v * 64 : Nat) : Int) := by rw [i64_in (by omega) (by omega)]; omega
 have hpl := plc_le c
 rw [l2_128_eq _ _ _ _ hC, decide_eq_true (show (j : Int) < 4 by omega), cond_true, hat, Option.bind_some, e0, A181_ok, numC_neg, Option.bind_some, e0, e61, hl, w1, w2, w3, w4]
 unfold gS
 by_cases h : plc c = 64
 ·rw [decide_eq_true h, if_pos h, cond_true]
  simp only [cond_true]
  by_cases h61 : c = 61
  ·have : (c == (61 : UInt8)) = true := by simpa using h61
   rw [this, cond_true]
   cases last with
   | false => rw [cond_false, if_neg (by simp)]; rfl
   | true =>
    rw [cond_true]
    by_cases h2 : 2 ≤ j
    ·rw [decide_eq_true (show (j : Int) ≥ 2 by omega), cond_true, if_pos ⟨h61, rfl, h2⟩]; rfl
    ·rw [decide_eq_false (show ¬ (j : Int) ≥ 2 by omega), cond_false, if_neg (by omega)]; rfl
  ·have : (c == (61 : UInt8)) = false := by simpa using h61
   rw [this, cond_false, if_neg (by simp [h61])]; rfl
 ·rw [decide_eq_false h, if_neg h, cond_false, cond_false]
  by_cases h0 : 0 < p
  ·rw [decide_eq_true (show (p : Int) > 0 by omega), if_pos h0]; rfl
  ·rw [decide_eq_false (show ¬ (p : Int) > 0 by omega), if_neg h0, cond_false]
   have : numC c = (plc c : Int) := if_neg h
   rw [this, i64_in (n := ((v * 64 : Nat) : Int) + (plc c : Int)) (by omega) (by omega)]
   rfl
theorem tail128 (hC : Cv C) {t out : B} {i : Int} {v p : Nat} {K : Tk128} (kk j0 j1 : Nat) (hv : v < 16777216) (hp : p ≤ 3) (ho : out.length ≤ 1000000) :
  l2_128 C A129 A181 A182 kk j0 (j1 + 1) t (out.map nI) i (v : Int) (p : Int) 4 K = l1_128 C A129 A181 A182 kk j0 t ((out ++ (three v).take (3 - p)).map nI) (i64.wrap (i + 4)) K := by
 have e1 : u8.wrap (i64.wrap ((v : Int).tdiv 65536)) = nI (UInt8.ofNat (v / 65536)) := by
  rw [← w8_nat, tdiv_nn (by omega), i64_in (by omega) (by omega)]; rfl
 have e2 : u8.wrap (i64.wrap ((v : Int).tdiv 256)) = nI (UInt8.ofNat (v / 256)) := by
  rw [← w8_nat, tdiv_nn (by omega), i64_in (by omega) (by omega)]; rfl
 have hl : (out.map nI ++ [nI (UInt8.ofNat (v / 65536)), nI (UInt8.ofNat (v / 256)), nI (UInt8.ofNat v)]).length = out.length + 3 := by simp
 have e3 : i64.wrap (((out.length + 3 : Nat) : Int) - (p : Int)) = ((out.length + 3 - p : Nat) : Int) := by rw [i64_in (by omega) (by omega)]; omega
 rw [l2_128_eq _ _ _ _ hC, decide_eq_false (by decide), cond_false, e1, e2, w8_nat, hl, decide_eq_true (by omega), cond_true, e3, cutN_to (by omega), Option.bind_some]
 have e4 : ((out.map nI ++ [nI (UInt8.ofNat (v / 65536)), nI (UInt8.ofNat (v / 256)), nI (UInt8.ofNat v)]).drop 0).take (out.length + 3 - p) = (out ++ (three v).take (3 - p)).map nI := by
  have : [nI (UInt8.ofNat (v / 65536)), nI (UInt8.ofNat (v / 256)), nI (UInt8.ofNat v)] = (three v).map nI := rfl
  rw [List.drop_zero, this, List.take_append, List.take_of_length_le (by rw [List.length_map]; omega), List.length_map, List.map_append, List.map_take]
  congr 2
  omega
 simp only
 rw [e4]
theorem group128 (hC : Cv C) {t out : B} {c0 c1 c2 c3 : UInt8} {l : B} {K : Tk128} (kk j0 m : Nat) (h : c0 :: c1 :: c2 :: c3 :: l <:+ t) (ht : t.length ≤ 100000) (ho : out.length ≤ 1000000) :
  l2_128 C A129 A181 A182 kk j0 (m + 5) t (out.map nI) (Pt t (c0 :: c1 :: c2 :: c3 :: l)) 0 0 0 K = (match grp l.isEmpty c0 c1 c2 c3 with
   | none => K [] false
   | some q => l1_128 C A129 A181 A182 kk j0 t ((out ++ (three q.1).take (3 - q.2)).map nI) (Pt t l) K) := by
 have h1 : c1 :: c2 :: c3 :: l <:+ t := (List.suffix_cons _ _).trans h
 have h2 : c2 :: c3 :: l <:+ t := (List.suffix_cons _ _).trans h1
 have h3 : c3 :: l <:+ t := (List.suffix_cons _ _).trans h2
 have h4 : l <:+ t := (List.suffix_cons _ _).trans h3
 have q0 := Pt_cons h; have q1 := Pt_cons h1; have q2 := Pt_cons h2; have q3 := Pt_cons h3
 have hp := Pt_val h4
 have p0 := Pt_nn t (c0 :: c1 :: c2 :: c3 :: l)
 have a0 : at? t (i64.wrap (Pt t (c0 :: c1 :: c2 :: c3 :: l) + ((0 : Nat) : Int))) = some c0 := by rw [i64_in (by omega) (by omega), show Pt t (c0 :: c1 :: c2 :: c3 :: l) + ((0 : Nat) : Int) = Pt t (c0 :: c1 :: c2 :: c3 :: l) by omega]; exact at_Pt h
 have a1 : at? t (i64.wrap (Pt t (c0 :: c1 :: c2 :: c3 :: l) + ((0 + 1 : Nat) : Int))) = some c1 := by rw [i64_in (by omega) (by omega), show Pt t (c0 :: c1 :: c2 :: c3 :: l) + ((0 + 1 : Nat) : Int) = Pt t (c1 :: c2 :: c3 :: l) by omega]; exact at_Pt h1
 have a2 : at? t (i64.wrap (Pt t (c0 :: c1 :: c2 :: c3 :: l) + ((0 + 1 + 1 : Nat) : Int))) = some c2 := by rw [i64_in (by omega) (by omega), show Pt t (c0 :: c1 :: c2 :: c3 :: l) + ((0 + 1 + 1 : Nat) : Int) = Pt t (c2 :: c3 :: l) by omega]; exact at_Pt h2
 have a3 : at? t (i64.wrap (Pt t (c0 :: c1 :: c2 :: c3 :: l) + ((0 + 1 + 1 + 1 : Nat) : Int))) = some c3 := by rw [i64_in (by omega) (by omega), show Pt t (c0 :: c1 :: c2 :: c3 :: l) + ((0 + 1 + 1 + 1 : Nat) : Int) = Pt t (c3 :: l) by omega]; exact at_Pt h3
 have a4 : i64.wrap (Pt t (c0 :: c1 :: c2 :: c3 :: l) + 4) = Pt t l := by rw [i64_in (by omega) (by omega)]; omega
 have hl : (i64.wrap (Pt t (c0 :: c1 :: c2 :: c3 :: l) + 4) == (t.length : Int)) = l.isEmpty := by
  rw [a4, Pt_len h4]
  cases l <;> simp
 have s0 := step128 hC (O := out.map nI) (K := K) (v := 0) (p := 0) kk j0 (m + 4) (by omega) (by omega) (by omega) a0 hl
 have z : ((0 : Nat) : Int) = 0 := rfl
 simp only [z] at s0
 rw [s0]
 unfold grp
 cases g0 : gS l.isEmpty 0 c0 (0, 0) with
 | none => rfl
 | some p =>
  have b0 := gS_bd g0
  rw [Option.bind_some]
  simp only [grpK]
  rw [step128 hC (O := out.map nI) (K := K) kk j0 (m + 3) (by omega) (by omega) (by omega) a1 hl]
  cases g1 : gS l.isEmpty (0 + 1) c1 (p.1, p.2) with
  | none =>
   rfl
  | some p' =>
   have b1 := gS_bd g1
   rw [Option.bind_some]
   simp only [grpK]
   simp only at b0 b1
   rw [step128 hC (O := out.map nI) (K := K) kk j0 (m + 2) (by omega) (by omega) (by omega) a2 hl]
   cases g2 : gS l.isEmpty (0 + 1 + 1) c2 (p'.1, p'.2) with
   | none =>
    rfl
   | some p2 =>
    have b2 := gS_bd g2
    rw [Option.bind_some]
    simp only [grpK]
    simp only at b2
    rw [step128 hC (O := out.map nI) (K := K) kk j0 (m + 1) (by omega) (by omega) (by omega) a3 hl]
    cases g3 : gS l.isEmpty (0 + 1 + 1 + 1) c3 (p2.1, p2.2) with
    | none =>
     rfl
    | some p3 =>
     have b3 := gS_bd g3
     simp only [grpK]
     simp only at b3
     have hb0 := b0.2.2 (by omega); have hb1 := b1.2.2 (by omega)
     have := tail128 hC (t := t) (out := out) (i := Pt t (c0 :: c1 :: c2 :: c3 :: l)) (v := p3.1) (p := p3.2) (K := K) kk j0 m (by omega) (by omega) ho
     rw [a4] at this
     exact this
theorem loop128 (hC : Cv C) {t : B} (ht : t.length ≤ 100000) {K : Tk128} (kk : Nat) (hk : 5 ≤ kk) : ∀ (l out : B) (j : Nat), l <:+ t → l.length % 4 = 0 → l.length < j → out.length + l.length ≤ 1000000 →
  l1_128 C A129 A181 A182 kk j t (out.map nI) (Pt t l) K = (match decR l out with
   | none => K [] false
   | some b => bif !(enc b == t) then K [] false else K (b.map nI) true)
 | [], out, j, h, h4, hj, ho => by
  obtain ⟨j, rfl⟩ : ∃ i, j = i + 1 := ⟨j - 1, by omega⟩
  rw [l1_128_eq _ _ _ _ hC, Pt_end, decide_eq_false (by omega), cond_false, A182_ok (by omega)]
  have : decR [] out = some out := by rw [decR]; simp
  rw [this]
 | [_], out, j, h, h4, hj, ho => by simp at h4
 | [_, _], out, j, h, h4, hj, ho => by simp at h4
 | [_, _, _], out, j, h, h4, hj, ho => by simp at h4
 | c0 :: c1 :: c2 :: c3 :: l, out, j, h, h4, hj, ho => by
  obtain ⟨j, rfl⟩ : ∃ i, j = i + 1 := ⟨j - 1, by omega⟩
  obtain ⟨m, hm⟩ : ∃ m, kk = m + 5 := ⟨kk - 5, by omega⟩
  have hl : l <:+ t := ((List.suffix_cons c3 _).trans ((List.suffix_cons c2 _).trans ((List.suffix_cons c1 _).trans (List.suffix_cons c0 _)))).trans h
  have g := group128 hC (t := t) (out := out) (K := K) kk j m h ht (by omega)
  rw [← hm] at g
  rw [l1_128_eq _ _ _ _ hC, decide_eq_true (Pt_lt h), cond_true, g, decR]
  simp only [List.length_cons] at hj ho h4
  cases grp l.isEmpty c0 c1 c2 c3 with
  | none => rfl
  | some q =>
   have h3 : ((three q.1).take (3 - q.2)).length ≤ 3 := by rw [List.length_take]; exact Nat.le_trans (Nat.min_le_right _ _) (by simp [three])
   exact loop128 hC ht (K := K) kk hk l _ j hl (by omega) (by omega) (by rw [List.length_append]; omega)
def A128 : Ty128 := fun s K => if s.length ≤ 10000 then (match dec64 (clean s) with | some b => K (b.map nI) true | none => K [] false) else none
theorem eq128 (hC : Cv C) (s : B) (K : Tk128) (r : Out) (h : A128 s K = some r) : run128 C A129 A181 A182 big s K = some r := by
 unfold A128 at h
 split at h
 ·rename_i hs
  have hc := clean_len s
  have e129 : ∀ k, A129 s k = k (clean s) := fun k => if_pos (by omega)
  rw [run128_eq, ← h, e129, ← dec_same]
  unfold dec64R
  rw [tmod_nn (by omega)]
  by_cases h4 : (clean s).length % 4 = 0
  ·have : ((((clean s).length : Int) % 4) != 0) = false := by
    have : (((clean s).length : Int) % 4) = 0 := by omega
    rw [this]; rfl
   have lp := loop128 hC (t := clean s) (by omega) (K := K) big (by unfold big; omega) (clean s) [] big (List.suffix_refl _) h4 (by unfold big; omega) (by simp; omega)
   rw [Pt_zero] at lp
   rw [this, cond_false, if_pos h4]
   refine Eq.trans lp ?_
   cases decR (clean s) [] with
   | none => rfl
   | some b =>
    simp only
    by_cases e : enc b = clean s
    ·rw [if_pos e, e]; simp
    ·rw [if_neg e]
     have : (enc b == clean s) = false := by simpa using e
     rw [this]; rfl
  ·have : ((((clean s).length : Int) % 4) != 0) = true := by
    have : ¬ (((clean s).length : Int) % 4) = 0 := by omega
    simpa using this
   rw [this, cond_true, if_neg h4]
 ·cases h
def A77 : Ty77 := fun s K => if s.length ≤ 10000 then K (binT s).1 (binT s).2 else none
theorem eq77 (s : B) (K : Tk77) (r : Out) (h : A77 s K = some r) : run77 C A128 A129 big s K = some r := by
 unfold A77 at h
 split at h
 ·rename_i hs
  have e128 : ∀ k, A128 s k = (match dec64 (clean s) with | some b => k (b.map nI) true | none => k [] false) := fun k => if_pos hs
  have e129 : ∀ k, A129 s k = k (clean s) := fun k => if_pos (by omega)
  rw [run77_eq, ← h, e128]
  unfold binT
  cases dec64 (clean s) with
  | none => rfl
  | some b => simp only [Bool.not_true, cond_false, e129]
 ·cases h
end Go.Proofs.YtffmgholjdfcnaaGreatDoor
