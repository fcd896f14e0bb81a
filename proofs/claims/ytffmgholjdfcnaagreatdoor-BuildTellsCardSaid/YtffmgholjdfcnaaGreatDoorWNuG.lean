/- Texts of this session, joined. -/
import Derived.Test.YtffmgholjdfcnaaGreatDoorWNuF
namespace Go.Proofs.YtffmgholjdfcnaaGreatDoor.Nu
open Go St
theorem contains_hd {L : List B} (hL : (L.all fun x => match x with | [] => true | d :: _ => decide (65 ≤ d.toNat)) = true) {c : UInt8} (hc : c.toNat < 65) (l : B) : L.contains (c :: l) = false := by
 rw [List.contains_eq_any_beq, List.any_eq_false]
 intro x hx e
 have e := eq_of_beq e
 subst e
 have := List.all_eq_true.1 hL _ hx
 simp at this
 omega
theorem noNull {c : UInt8} (hc : c.toNat < 65) (l : B) : nulls.contains (c :: l) = false := contains_hd (by decide) hc l
theorem noWord {c : UInt8} (hc : c.toNat < 65) (l : B) (v : Int) : boolW v (c :: l) = (false, false) := by
 unfold boolW
 rw [contains_hd (L := yes12) (by decide) hc, contains_hd (L := no12) (by decide) hc, contains_hd (L := yes11) (by decide) hc, contains_hd (L := no11) (by decide) hc]
 cases v == 11 <;> rfl
theorem dg_lt {c : UInt8} (h : dg c = true) : c.toNat < 65 := by unfold dg at h; simp at h; omega
theorem norm_pos {c : UInt8} {l : B} (h : c ≠ 48) (ha : (c :: l).all dg = true) : norm false (c :: l) = c :: l := by
 unfold norm
 rw [isD_of ha (by simp), dropZ_id h]
theorem norm_neg {c : UInt8} {l : B} (h : c ≠ 48) (ha : (c :: l).all dg = true) : norm true (c :: l) = 45 :: c :: l := by
 unfold norm
 rw [isD_of ha (by simp), dropZ_id h]
theorem dg_isS {c : UInt8} (h : dg c = true) : isS c = false := by unfold isS; rw [dg_not h (by decide), dg_not h (by decide)]; rfl
theorem unsign_dg {c : UInt8} (h : dg c = true) (l : B) : unsign (c :: l) = (false, c :: l) := by
 show (match isS c with | true => (c == 45, l) | false => (false, c :: l)) = _
 rw [dg_isS h]
theorem good_split {a : B} (h : good a = true) : ∃ neg c l, a = sgB neg ++ (c :: l) ∧ (c :: l).all dg = true ∧ dg c = true ∧ unsign a = (neg, c :: l) ∧ bare a = (neg, c :: l) ∧ norm neg (c :: l) = a ∧ (c = 48 → l = [] ∧ neg = false) := by
 rcases good_cases h with rfl | ⟨c, l, rfl, h1, h2, h3⟩ | ⟨c, l, rfl, h1, h2⟩
 ·exact ⟨false, 48, [], rfl, rfl, rfl, rfl, rfl, rfl, fun _ => ⟨rfl, rfl⟩⟩
 ·have hc : dg c = true := by rw [List.all_cons, Bool.and_eq_true] at h3; exact h3.1
  exact ⟨false, c, l, rfl, h3, hc, unsign_dg hc l, bare_no (by simpa using h2), norm_pos h1 h3, fun e => absurd e h1⟩
 ·have hc : dg c = true := by rw [List.all_cons, Bool.and_eq_true] at h2; exact h2.1
  exact ⟨true, c, l, rfl, h2, hc, rfl, rfl, norm_neg h1 h2, fun e => absurd e h1⟩
theorem good_hd {a : B} (h : good a = true) : ∃ c l, a = c :: l ∧ c.toNat < 65 := by
 obtain ⟨neg, c, l, e, -, hc, -⟩ := good_split h
 subst e
 cases neg with
 | true => exact ⟨45, c :: l, rfl, by decide⟩
 | false => exact ⟨c, l, rfl, dg_lt hc⟩
theorem dc_dv {c : UInt8} (h : dg c = true) : dc (dv c) = c := by
 have := dv_bd h
 unfold dc dv at *
 apply UInt8.toNat_inj.1
 rw [UInt8.toNat_ofNat']
 have := c.toNat_lt
 omega
theorem mulR_id : ∀ {d : B}, d.all dg = true → mulR 1 0 d = (d, 0)
 | [], _ => rfl
 | c :: l, h => by
  rw [List.all_cons, Bool.and_eq_true] at h
  have hb := dv_bd h.1
  have e : mulR 1 0 (c :: l) = mulStep 1 c (mulR 1 0 l) := rfl
  rw [e, mulR_id h.2]
  unfold mulStep
  simp only [Int.zero_add, Int.mul_one]
  rw [Int.emod_eq_of_lt hb.1 (by omega), dc_dv h.1, Int.ediv_eq_zero_of_lt hb.1 (by omega)]
theorem mulAdd_id {d : B} (h : isD d = true) : mulAdd d 1 0 = norm false d := by
 obtain ⟨h1, h2⟩ := isD_all h
 unfold mulAdd
 rw [mulR_id h1]
 have e : Lib.itoa (d, (0 : Int)).2 = [48] := by
  show Lib.itoa 0 = [48]
  unfold Lib.itoa
  rw [if_neg (by decide), Lib.decDigits, dif_pos (by decide)]
  rfl
 rw [e]
 exact norm_zero h2
theorem goodD_cases {x : De} (h : goodD x = true) : x = ⟨1, x.neg, [], []⟩ ∨ x = ⟨2, false, [], []⟩ ∨ ∃ c l e, x = ⟨0, x.neg, c :: l, e⟩ ∧ (c :: l).all dg = true ∧ good e = true ∧ ((c = 48 ∧ l = [] ∧ e = [48]) ∨ (c ≠ 48 ∧ (c :: l).getLast? ≠ some 48)) := by
 obtain ⟨k, neg, d, e⟩ := x
 unfold goodD at h
 simp only [Bool.or_eq_true, Bool.and_eq_true, beq_iff_eq, Bool.not_eq_true'] at h
 rcases h with ((⟨⟨rfl, rfl⟩, rfl⟩ | ⟨⟨rfl, rfl⟩, rfl⟩) | ⟨⟨⟨rfl, rfl⟩, rfl⟩, rfl⟩) | ⟨⟨⟨⟨rfl, hd⟩, h1⟩, h2⟩, h3⟩
 ·exact .inr (.inr ⟨48, [], [48], rfl, rfl, rfl, .inl ⟨rfl, rfl, rfl⟩⟩)
 ·exact .inl rfl
 ·exact .inr (.inl rfl)
 ·obtain ⟨ha, hn⟩ := isD_all hd
  cases d with
  | nil => exact absurd rfl hn
  | cons c l =>
   refine .inr (.inr ⟨c, l, e, rfl, ha, h3, .inr ⟨?_, ?_⟩⟩)
   ·simpa using h1
   ·simpa using h2
theorem odd_dg {c : UInt8} (h : c ≠ 46) (l : B) (neg sgn : Bool) : odd (c :: l) neg sgn = none := by
 have h' : ∀ t : B, ((c :: l) == 46 :: t) = false := by
  intro t
  cases e : (c :: l) == 46 :: t with
  | false => rfl
  | true => have := eq_of_beq e; cases this; exact absurd rfl h
 unfold odd isInf isNan
 simp only [h', Bool.or_self, Bool.false_and]
end Go.Proofs.YtffmgholjdfcnaaGreatDoor.Nu
