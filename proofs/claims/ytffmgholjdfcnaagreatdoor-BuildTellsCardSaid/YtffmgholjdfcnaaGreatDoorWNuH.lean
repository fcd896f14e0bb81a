/- Texts of this session, joined. -/
import Derived.Test.YtffmgholjdfcnaaGreatDoorWNuG
set_option linter.unusedVariables false
namespace Go.Proofs.YtffmgholjdfcnaaGreatDoor.Nu
open Go St
theorem dc_nat {n : Int} (h0 : 0 ≤ n) (h1 : n ≤ 9) : ((dc n).toNat : Int) = 48 + n := by
 unfold dc
 rw [UInt8.toNat_ofNat']
 omega
theorem dc_dg {n : Int} (h0 : 0 ≤ n) (h1 : n ≤ 9) : dg (dc n) = true := by
 have := dc_nat h0 h1
 unfold dg
 simp
 omega
theorem mulR_cons (m k : Int) (c : UInt8) (l : B) : mulR m k (c :: l) = mulStep m c (mulR m k l) := rfl
theorem mulR_bd {m k : Int} (hm : 0 ≤ m ∧ m ≤ 1099511627776) (hk : 0 ≤ k ∧ k ≤ 1099511627776) : ∀ d : B, d.all dg = true → 0 ≤ (mulR m k d).2 ∧ (mulR m k d).2 ≤ 1099511627776
 | [], _ => hk
 | c :: l, h => by
  rw [List.all_cons, Bool.and_eq_true] at h
  have ih := mulR_bd hm hk l h.2
  have hd := dv_bd h.1
  rw [mulR_cons]
  unfold mulStep
  have h1 : dv c * m ≤ 9 * 1099511627776 := by
   calc dv c * m ≤ 9 * m := Int.mul_le_mul_of_nonneg_right hd.2 hm.1
    _ ≤ 9 * 1099511627776 := by omega
  have h0 : 0 ≤ dv c * m := Int.mul_nonneg hd.1 hm.1
  exact ⟨by dsimp only; omega, by dsimp only; omega⟩
theorem mulR_len (m k : Int) : ∀ d : B, (mulR m k d).1.length = d.length
 | [] => rfl
 | c :: l => by rw [mulR_cons]; unfold mulStep; simp [mulR_len m k l]
theorem mulR_dg (m k : Int) : ∀ d : B, (mulR m k d).1.all dg = true
 | [] => rfl
 | c :: l => by
  rw [mulR_cons]; unfold mulStep
  rw [List.all_cons, mulR_dg m k l, Bool.and_true]
  exact dc_dg (Int.emod_nonneg _ (by decide)) (by have := Int.emod_lt_of_pos ((mulR m k l).2 + dv c * m) (show (0 : Int) < 10 by decide); omega)
theorem dec_dg (u : Nat) : (Lib.decDigits u).all dg = true := by
 induction u using Nat.strongRecOn with
 | _ u ih =>
  rw [Lib.decDigits]
  split
  ·rename_i h
   rw [List.all_cons, List.all_nil, Bool.and_true]
   have := dc_dg (n := (u : Int)) (by omega) (by omega)
   unfold dc at this
   simpa using this
  ·rename_i h
   rw [List.all_append, ih (u / 10) (by omega), Bool.true_and, List.all_cons, List.all_nil, Bool.and_true]
   have := dc_dg (n := ((u % 10 : Nat) : Int)) (by omega) (by omega)
   unfold dc at this
   rwa [Int.toNat_natCast] at this
theorem dec_ne (u : Nat) : Lib.decDigits u ≠ [] := by
 rw [Lib.decDigits]
 split <;> simp
theorem itoa_isD {n : Int} (h : 0 ≤ n) : isD (Lib.itoa n) = true := by
 unfold Lib.itoa
 rw [if_neg (by omega)]
 exact isD_of (dec_dg _) (dec_ne _)
theorem isD_app {a b : B} (ha : isD a = true) (hb : b.all dg = true) : isD (a ++ b) = true := by
 obtain ⟨h1, h2⟩ := isD_all ha
 exact isD_of (by rw [List.all_append, h1, hb]; rfl) (by simp [h2])
theorem norm_isD {s : B} (h : isD s = true) : isD (norm false s) = true := by
 obtain ⟨h1, h2⟩ := isD_all h
 unfold norm
 rw [h]
 simp only
 cases hz : dropZ s with
 | nil => rfl
 | cons c l =>
  have ha := dropZ_all s h1
  rw [hz] at ha
  exact isD_of (s := c :: l) ha (by simp)
theorem mulAdd_isD {d : B} {m k : Int} (h : isD d = true) (hm : 0 ≤ m ∧ m ≤ 1099511627776) (hk : 0 ≤ k ∧ k ≤ 1099511627776) : isD (mulAdd d m k) = true ∧ good (mulAdd d m k) = true := by
 have hb := mulR_bd hm hk d (isD_all h).1
 have hi : isD (Lib.itoa (mulR m k d).2 ++ (mulR m k d).1) = true := isD_app (itoa_isD hb.1) (mulR_dg m k d)
 exact ⟨norm_isD hi, norm_good false _ hi⟩
theorem inStep_iff {n : Int} : inStep n = true ↔ 0 ≤ n ∧ n ≤ 1099511627776 := by unfold inStep stepMax; simp
theorem isD_hd {a : B} (h : isD a = true) : (a.head? == some 45) = false := by
 obtain ⟨h1, h2⟩ := isD_all h
 cases a with
 | nil => exact absurd rfl h2
 | cons c l =>
  rw [List.all_cons, Bool.and_eq_true] at h1
  have := dg_not h1.1 (x := 45) (by decide)
  simpa using this
theorem mulAddG_isD {a : B} {m k : Int} (h : isD a = true) (hg : good a = true) (hm : inStep m = true) (hk : inStep k = true) : isD (mulAddG a m k) = true ∧ good (mulAddG a m k) = true := by
 unfold mulAddG
 rw [hg, isD_hd h, hm, hk]
 exact mulAdd_isD h (inStep_iff.1 hm) (inStep_iff.1 hk)
theorem val_bd {p : B} (h : okP p = true) : inStep (val p) = true := by
 unfold okP at h
 split at h
 ·rename_i a
  have := dv_bd h
  apply inStep_iff.2
  unfold val
  simp only [List.foldl_cons, List.foldl_nil]
  omega
 ·rename_i a b
  simp only [Bool.and_eq_true] at h
  have := dv_bd h.1.1
  have := dv_bd h.2
  apply inStep_iff.2
  unfold val
  simp only [List.foldl_cons, List.foldl_nil]
  omega
 ·cases h
theorem fold_good : ∀ {ps : List B} {n : B}, ps.all okP = true → isD n = true → good n = true → isD (ps.foldl (fun n q => mulAddG n 60 (val q)) n) = true ∧ good (ps.foldl (fun n q => mulAddG n 60 (val q)) n) = true
 | [], n, _, h1, h2 => ⟨h1, h2⟩
 | p :: ps, n, h, h1, h2 => by
  rw [List.all_cons, Bool.and_eq_true] at h
  have ⟨g1, g2⟩ := mulAddG_isD h1 h2 (m := 60) (k := val p) (by decide) (val_bd h.1)
  rw [List.foldl_cons]
  exact fold_good h.2 g1 g2
theorem noU_all {l : B} (h : l.all dgU = true) : (noU l).all dg = true := by
 induction l with
 | nil => rfl
 | cons c l ih =>
  rw [List.all_cons, Bool.and_eq_true] at h
  cases hc : c == 95 with
  | true => rw [eq_of_beq hc, noU_hit]; exact ih h.2
  | false =>
   rw [noU_miss hc, List.all_cons, ih h.2, Bool.and_true]
   have := h.1
   unfold dgU at this
   rwa [hc, Bool.false_or] at this
theorem row_isD {c : UInt8} {l : B} (h : dg c = true) (ha : l.all dgU = true) : isD (noU (c :: l)) = true := by
 rw [noU_dg h]
 exact isD_of (by rw [List.all_cons, h, noU_all ha]; rfl) (by simp)
theorem value_good {c : UInt8} {l : B} (h : dg c = true) (hs : sixties (tailU l) = true) : isD (value (noU (c :: l))) = true ∧ good (value (noU (c :: l))) = true := by
 have h58 := dg_58 h
 rw [value_eq, tw_miss h58, dw_miss h58]
 rcases tailU_dw l with ⟨h1, h2⟩ | ⟨h1, x, t, h2, h3⟩
 ·have hD : isD (noU (c :: tw 58 l)) = true := row_isD h h1
  rw [h2] at hs
  rcases dw_cases 58 l with e | ⟨t, e⟩
  ·rw [e]; exact ⟨norm_isD hD, norm_good false _ hD⟩
  ·rw [e] at hs ⊢
   rw [sixties_one] at hs
   simp only
   rw [map_noU hs]
   exact fold_good hs (norm_isD hD) (norm_good false _ hD)
 ·rw [h2, sixties_no h3] at hs; cases hs
theorem hexD_nn (c : UInt8) : 0 ≤ hexD c := by
 unfold hexD hexV
 split
 ·omega
 ·split
  ·omega
  ·split <;> omega
theorem baseGo_good {b : Int} (hb : b = 2 ∨ b = 8 ∨ b = 16) : ∀ (l acc : B), isD acc = true → good acc = true → l.all (fun c => decide (hexD c < b)) = true → isD (baseGo b acc l) = true ∧ good (baseGo b acc l) = true
 | [], acc, h1, h2, _ => ⟨h1, h2⟩
 | c :: l, acc, h1, h2, h => by
  rw [List.all_cons, Bool.and_eq_true] at h
  have hc : hexD c < b := by simpa using h.1
  have := hexD_nn c
  have ⟨g1, g2⟩ := mulAdd_isD h1 (m := b) (k := hexD c) (by omega) (by omega)
  unfold baseGo
  rw [decide_eq_false (by omega)]
  exact baseGo_good hb l _ g1 g2 h.2
theorem baseGo_all {b : Int} : ∀ (l acc : B), baseGo b acc l ≠ [] → l.all (fun c => decide (hexD c < b)) = true
 | [], _, _ => rfl
 | c :: l, acc, h => by
  unfold baseGo at h
  split at h
  ·exact absurd rfl h
  ·rename_i hc
   rw [List.all_cons, baseGo_all l _ h, Bool.and_true]
   simp at hc ⊢
   omega
theorem baseN_good {b : Int} {l : B} (h : baseN l b ≠ []) : isD (baseN l b) = true ∧ good (baseN l b) = true := by
 unfold baseN at h ⊢
 split at h
 ·rename_i hc
  simp only [Bool.and_eq_true, Bool.or_eq_true, beq_iff_eq] at hc
  exact baseGo_good (by omega) l [48] rfl rfl (baseGo_all l _ h)
 ·exact absurd rfl h
theorem norm_isgood {neg : Bool} {s : B} (h : norm neg s ≠ []) : good (norm neg s) = true := by
 cases hd : isD s with
 | true => exact norm_good _ _ hd
 | false => unfold norm at h; rw [hd] at h; exact absurd rfl h
theorem int12_isgood {s : B} (h : int12 s ≠ []) : good (int12 s) = true := by
 unfold int12 at h ⊢
 split
 ·rename_i c d l
  simp only at h ⊢
  cases h1 : c == 48 && d == 111 with
  | true => rw [h1] at h; exact (baseN_good h).2
  | false =>
   rw [h1] at h
   simp only at h ⊢
   cases h2 : c == 48 && d == 120 with
   | true => rw [h2] at h; exact (baseN_good h).2
   | false => rw [h2] at h; exact norm_isgood h
 ·rename_i s' hx
  refine norm_isgood fun e => h ?_
  split
  ·rename_i c d l; exact absurd rfl (hx c d l)
  ·exact e
theorem subF_bd : ∀ (a b : B), a.all dg = true → b.all dg = true → ((subF a b).2 = 0 ∨ (subF a b).2 = 1) ∧ (subF a b).1.all dg = true
 | [], _, _, _ => ⟨.inl rfl, rfl⟩
 | _ :: _, [], _, _ => ⟨.inl rfl, rfl⟩
 | c :: a, d :: b, ha, hb => by
  rw [List.all_cons, Bool.and_eq_true] at ha hb
  have ⟨ih1, ih2⟩ := subF_bd a b ha.2 hb.2
  have h1 := dv_bd ha.1
  have h2 := dv_bd hb.1
  unfold subF
  by_cases hx : dv c - (subF a b).2 - dv d < 0
  ·rw [decide_eq_true hx]
   refine ⟨.inr rfl, ?_⟩
   simp only
   rw [List.all_cons, ih2, Bool.and_true]
   exact dc_dg (by omega) (by omega)
  ·rw [decide_eq_false hx]
   refine ⟨.inl rfl, ?_⟩
   simp only
   rw [List.all_cons, ih2, Bool.and_true]
   exact dc_dg (by omega) (by omega)
theorem subF_ne {a b : B} (ha : a ≠ []) (hb : b ≠ []) : (subF a b).1 ≠ [] := by
 cases a with
 | nil => exact absurd rfl ha
 | cons c a =>
  cases b with
  | nil => exact absurd rfl hb
  | cons d b =>
   unfold subF
   split <;> simp
theorem padD_dg {n : Nat} {b : B} (h : isD b = true) : (padD n b).all dg = true ∧ padD n b ≠ [] := by
 obtain ⟨h1, h2⟩ := isD_all h
 refine ⟨?_, by unfold padD; simp [h2]⟩
 unfold padD
 rw [List.all_append, h1, Bool.and_true]
 rw [List.all_replicate]
 simp [dg]
theorem lessD_isD {a b : B} (ha : isD a = true) (hb : isD b = true) : isD (lessD a b) = true := by
 have ⟨p1, p2⟩ := padD_dg (n := a.length) hb
 unfold lessD
 exact isD_of (subF_bd a _ (isD_all ha).1 p1).2 (subF_ne (isD_all ha).2 p2)
theorem trimR_len (s : B) : (Lib.trimRightB s 48).length ≤ s.length := by
 unfold Lib.trimRightB
 rw [List.length_reverse]
 have := (List.dropWhile_suffix (l := s.reverse) (fun x : UInt8 => x == 48)).length_le
 simpa using this
end Go.Proofs.YtffmgholjdfcnaaGreatDoor.Nu
