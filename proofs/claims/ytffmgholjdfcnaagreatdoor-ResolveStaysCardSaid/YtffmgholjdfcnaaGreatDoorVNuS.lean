/- The law ResolveTurns, as a plain function. -/
import Derived.Test.YtffmgholjdfcnaaGreatDoorVNuR
set_option linter.unusedSimpArgs false
set_option linter.unusedVariables false
namespace Go.Proofs.YtffmgholjdfcnaaGreatDoor
open Go AM St Nu

variable {C : Nat → Env → (Env → Option Out) → Option Out}

theorem A21_ok {s a x b y : B} (hs : s.length ≤ 10000) (h1 : plainV 11 s = (a, x)) (h2 : plainV 12 s = (b, y)) (K : Tk21) : A21 s a x b y K = K true := by
  unfold A21
  rw [if_pos hs, h1, h2, beq_self_eq_true, beq_self_eq_true]
  rfl
/-- Digits without noughts ahead, or nought. -/
structure OwnT (t : B) : Prop where
  d : t.all dg = true
  ne : t ≠ []
  g : good t = true
theorem dec_good : ∀ n : Nat, good (Lib.decDigits n) = true := by
  intro n
  have hd := dec_dg n
  have hne := dec_ne n
  by_cases h0 : n = 0
  · subst h0
    have : Lib.decDigits 0 = [48] := by rw [Lib.decDigits, dif_pos (by decide)]; rfl
    rw [this]; rfl
  · have hh : ∀ n : Nat, n ≠ 0 → (Lib.decDigits n).head? ≠ some 48 := by
      intro n
      induction n using Nat.strongRecOn with
      | _ n ih =>
        intro hn
        rw [Lib.decDigits]
        split
        · rename_i h
          simp only [List.head?_cons]
          intro e
          have e := Option.some.inj e
          have := dc_nat (n := (n : Int)) (by omega) (by omega)
          unfold dc at this
          rw [Int.toNat_natCast, e] at this
          have e48 : ((48 : UInt8).toNat : Int) = 48 := rfl
          omega
        · rename_i h
          rw [List.head?_append]
          have h1 := ih (n / 10) (by omega) (by omega)
          have h2 := dec_ne (n / 10)
          cases hx : Lib.decDigits (n / 10) with
          | nil => exact absurd hx h2
          | cons c l => rw [hx] at h1; simpa using h1
    have h48 := hh n h0
    cases hx : Lib.decDigits n with
    | nil => exact absurd hx hne
    | cons c l =>
      rw [hx] at hd h48
      have hc : c ≠ 48 := by intro e; rw [e] at h48; exact h48 rfl
      have : norm false (c :: l) = c :: l := norm_pos hc hd
      rw [← this]
      exact norm_good false _ (isD_of hd (by simp))
theorem own_dec (n : Nat) : OwnT (Lib.decDigits n) := ⟨dec_dg n, dec_ne n, dec_good n⟩
theorem dec_len {n : Nat} (h : n < 10000000000000) : (Lib.decDigits n).length ≤ 13 := by
  rw [Lib.decDigits_length]; exact nDig_le 12 n (by simpa using h)
theorem good_one {t : B} (h : OwnT t) : good (49 :: t) = true := by
  have ha : (49 :: t).all dg = true := by rw [List.all_cons, h.d]; rfl
  have : norm false (49 :: t) = 49 :: t := norm_pos (by decide) ha
  rw [← this]
  exact norm_good false _ (isD_of ha (by simp))
theorem ofT_no {a b : UInt8} {l : B} (hb : dg b = false) : (ofT (a :: b :: l)).2 = false := by
  have hn : num 4 4 (a :: b :: l) = none := by
    unfold num
    have : (digs 4 0 (a :: b :: l)).2.2 < 4 := by
      cases ha : dg a <;> simp [digs, ha, hb]
    rw [decide_eq_true this]
  have hp : parse (a :: b :: l) = none := by
    unfold parse
    rw [hn]
  unfold ofT
  rw [hp]
/-- A text that begins with 1 and a sign that is no digit: no whole number of the new schema. -/
theorem int12_no {b : UInt8} {l : B} (hb : dg b = false) : int12 (49 :: b :: l) = [] := by
  show (match (49 : UInt8) == 48 && b == 111 with | true => baseN l 8 | false => match (49 : UInt8) == 48 && b == 120 with | true => baseN l 16 | false => norm false (49 :: b :: l)) = []
  have h1 : ((49 : UInt8) == 48) = false := rfl
  rw [h1, Bool.false_and, Bool.false_and]
  have : isD (49 :: b :: l) = false := by
    unfold isD
    rw [List.all_cons, List.all_cons, hb, Bool.false_and, Bool.and_false, Bool.and_false]
  simp only
  unfold norm
  rw [this]
theorem plain_no {v : Int} {c : UInt8} {l : B} (hc : c.toNat < 65) (h : (numV v (c :: l)).2 = false) : plainV v (c :: l) = (tStr, c :: l) := by
  unfold plainV
  rw [noNull hc, noWord hc, h]
theorem plain_fl {v : Int} {c : UInt8} {l : B} (hc : c.toNat < 65) (hi : (intV v (c :: l)).2 = false) (hf : (flV v (c :: l)).2 = true) : plainV v (c :: l) = (tFloat, printD (flV v (c :: l)).1) := by
  unfold plainV numV
  rw [noNull hc, noWord hc, hi, hf]
theorem plain_int {v : Int} {c : UInt8} {l : B} (hc : c.toNat < 65) (hi : (intV v (c :: l)).2 = true) : plainV v (c :: l) = (tInt, (intV v (c :: l)).1) := by
  unfold plainV numV
  rw [noNull hc, noWord hc, hi]
theorem odd_49 (l : B) (neg sgn : Bool) : odd (49 :: l) neg sgn = none := odd_dg (by decide) l neg sgn
theorem intV_11 (s : B) : intV 11 s = ((int11 s).1, !((int11 s).2 == 0)) := rfl
theorem intV_12 (s : B) : intV 12 s = (int12 s, !(int12 s == [])) := rfl
theorem flV_11 (s : B) : flV 11 s = ((fl11 s).1, !((fl11 s).2 == 0)) := rfl
theorem flV_12 (s : B) : flV 12 s = fl12 s := rfl
theorem dw_no {l : B} (h : l.all dg = true) : dw 46 l = [] := by
  induction l with
  | nil => rfl
  | cons c l ih =>
    rw [List.all_cons, Bool.and_eq_true] at h
    rw [dw_miss (dg_46 h.1), ih h.2]
/-- A text that begins with 1 and is of no form of the old schema. -/
theorem str_11 {b : UInt8} {l : B} (hb : dg b = false) (hi : (int11 (49 :: b :: l)).2 = 0) (hf : (fl11 (49 :: b :: l)).2 = 0) : plainV 11 (49 :: b :: l) = (tStr, 49 :: b :: l) := by
  refine plain_no (by decide) ?_
  unfold numV
  rw [intV_11, flV_11, hi, hf, ofT_no hb]
  rfl
theorem int11_49 (l : B) : int11 (49 :: l) = (match tailU l with
    | [] => (norm false (noU (49 :: l)), 5)
    | x :: l' => match sixties (x :: l') with
      | true => (norm false (value (noU (49 :: l))), 6)
      | false => ([], 0)) := rfl

/-! 1_ -/
theorem turn2 {t : B} (h : OwnT t) : plainV 11 (49 :: 95 :: t) = (tInt, 49 :: t) ∧ plainV 12 (49 :: 95 :: t) = (tStr, 49 :: 95 :: t) := by
  constructor
  · have h1 : int11 (49 :: 95 :: t) = (49 :: t, 5) := by
      have ht : tailU (95 :: t) = [] := by rw [tailU_yes (by decide)]; exact tailU_row h.d
      have hn : noU (49 :: 95 :: t) = 49 :: t := by rw [noU_miss (by decide), noU_hit, noU_id h.d]
      rw [int11_49, ht, hn]
      simp only
      rw [norm_pos (by decide) (by rw [List.all_cons, h.d]; rfl)]
    have := plain_int (v := 11) (c := 49) (l := 95 :: t) (by decide) (by rw [intV_11, h1]; rfl)
    rw [this, intV_11, h1]
  · refine plain_no (by decide) ?_
    have h1 : int12 (49 :: 95 :: t) = [] := int12_no (by decide)
    have h2 : (fl12 (49 :: 95 :: t)).2 = false := by
      rw [fl12_eq]
      have hu : unsign (49 :: 95 :: t) = (false, 49 :: 95 :: t) := rfl
      rw [hu, odd_49, h1]
      have hd : dD (49 :: 95 :: t) = 95 :: t := by rw [dD_yes (by decide), dD_no (by decide)]
      simp only
      rw [hd]
      rfl
    unfold numV
    rw [intV_12, flV_12, h1, h2]
    rfl

/-! 1e, 1.0e -/
theorem norm_own {t : B} (h : OwnT t) : norm false t = t := by
  obtain ⟨neg, c, l, e, ha, hc, -, -, hn, -⟩ := good_split h.g
  cases neg with
  | true =>
    have e : t = 45 :: c :: l := e
    have := h.d
    rw [e, List.all_cons, Bool.and_eq_true] at this
    exact absurd this.1 (by decide)
  | false =>
    have e : t = c :: l := e
    rw [e] at hn ⊢
    exact hn
theorem exp_e {t : B} (h : OwnT t) : expB t = 43 :: t := by
  have := isD_hd (isD_of h.d h.ne)
  unfold expB
  rw [this]
theorem own_hd {t : B} (h : OwnT t) : ∃ c l, t = c :: l ∧ dg c = true := by
  cases ht : t with
  | nil => exact absurd ht h.ne
  | cons c l =>
    have := h.d
    rw [ht, List.all_cons, Bool.and_eq_true] at this
    exact ⟨c, l, rfl, this.1⟩
theorem tailE_true {t : B} (h : OwnT t) : tailE true (101 :: t) = some t := by
  obtain ⟨c, l, e, hc⟩ := own_hd h
  have hu : unsign t = (false, t) := by rw [e]; exact unsign_dg hc l
  show (match (true || signed t) && isD (unsign t).2 with | true => some (norm (unsign t).1 (unsign t).2) | false => none) = _
  rw [hu, isD_of h.d h.ne, norm_own h]
  rfl
theorem tailE_false {t : B} (h : OwnT t) : tailE false (101 :: t) = none := by
  obtain ⟨c, l, e, hc⟩ := own_hd h
  have hs : signed t = false := by rw [e]; exact dg_isS hc
  show (match (false || signed t) && isD (unsign t).2 with | true => some (norm (unsign t).1 (unsign t).2) | false => none) = _
  rw [hs]
  rfl
theorem goodD_one {t : B} (h : OwnT t) : goodD ⟨0, false, [49], t⟩ = true := by
  unfold goodD
  rw [h.g]
  simp [isD, dg]
theorem print_one {t : B} (h : OwnT t) : printD ⟨0, false, [49], t⟩ = [49, 46, 101, 43] ++ t := by
  rw [printD_fin (goodD_one h), exp_e h]
  rfl
theorem make_one {t : B} (h : OwnT t) : makeD false [49] [] t = (⟨0, false, [49], t⟩, true) := makeD_own rfl h.g (.inr ⟨by decide, by decide⟩)
theorem make_ten {t : B} (h : OwnT t) : makeD false [49] [48] t = (⟨0, false, [49], t⟩, true) := by
  unfold makeD
  have h1 : isD ([49] ++ [48]) = true := rfl
  have h2 : Lib.trimRightB ([49] ++ [48]) 48 = [49] := rfl
  rw [h1, h.g, h2]
  show ((⟨0, false, [49], addN t ((2 : Int) - 1 - 1)⟩ : De), true) = _
  have e : (2 : Int) - 1 - 1 = 0 := rfl
  rw [e, addN_zero h.g]
theorem turn3 {t : B} (h : OwnT t) : plainV 11 (49 :: 101 :: t) = (tStr, 49 :: 101 :: t) ∧ plainV 12 (49 :: 101 :: t) = (tFloat, [49, 46, 101, 43] ++ t) := by
  constructor
  · refine str_11 (by decide) ?_ ?_
    · have ht : tailU (101 :: t) = 101 :: t := tailU_no (by decide) t
      rw [int11_49, ht]
      simp only
      rw [sixties_no (by decide)]
    · unfold fl11
      have hu : unsign (49 :: 101 :: t) = (false, 49 :: 101 :: t) := rfl
      have hd : dw 46 (49 :: 101 :: t) = [] := by rw [dw_miss (by decide), dw_miss (by decide), dw_no h.d]
      rw [hu, odd_49]
      simp only
      rw [hd]
  · have h1 : int12 (49 :: 101 :: t) = [] := int12_no (by decide)
    have h2 : fl12 (49 :: 101 :: t) = (⟨0, false, [49], t⟩, true) := by
      rw [fl12_eq]
      have hu : unsign (49 :: 101 :: t) = (false, 49 :: 101 :: t) := rfl
      have hd : dD (49 :: 101 :: t) = 101 :: t := by rw [dD_yes (by decide), dD_no (by decide)]
      have htd : tD (49 :: 101 :: t) = [49] := by unfold tD; rw [List.takeWhile_cons, List.takeWhile_cons]; rfl
      rw [hu, odd_49, h1]
      simp only
      rw [hd, htd]
      show afterD false [49] [] (101 :: t) = _
      unfold afterD
      rw [tailE_true h]
      exact make_one h
    rw [plain_fl (by decide) (by rw [intV_12, h1]; rfl) (by rw [flV_12, h2]), flV_12, h2, print_one h]
theorem turn3b {t : B} (h : OwnT t) : plainV 11 (49 :: 46 :: 48 :: 101 :: t) = (tStr, 49 :: 46 :: 48 :: 101 :: t) ∧ plainV 12 (49 :: 46 :: 48 :: 101 :: t) = (tFloat, [49, 46, 101, 43] ++ t) := by
  constructor
  · refine str_11 (by decide) ?_ ?_
    · have ht : tailU (46 :: 48 :: 101 :: t) = 46 :: 48 :: 101 :: t := tailU_no (by decide) _
      rw [int11_49, ht]
      simp only
      rw [sixties_no (by decide)]
    · unfold fl11
      have hu : unsign (49 :: 46 :: 48 :: 101 :: t) = (false, 49 :: 46 :: 48 :: 101 :: t) := rfl
      have hd : dw 46 (49 :: 46 :: 48 :: 101 :: t) = 46 :: 48 :: 101 :: t := by rw [dw_miss (by decide), dw_hit]
      have ht : tailU (48 :: 101 :: t) = 101 :: t := by rw [tailU_yes (by decide), tailU_no (by decide)]
      rw [hu, odd_49]
      simp only
      rw [hd]
      simp only
      rw [ht, tailE_false h]
  · have h1 : int12 (49 :: 46 :: 48 :: 101 :: t) = [] := int12_no (by decide)
    have h2 : fl12 (49 :: 46 :: 48 :: 101 :: t) = (⟨0, false, [49], t⟩, true) := by
      rw [fl12_eq]
      have hu : unsign (49 :: 46 :: 48 :: 101 :: t) = (false, 49 :: 46 :: 48 :: 101 :: t) := rfl
      have hd : dD (49 :: 46 :: 48 :: 101 :: t) = 46 :: 48 :: 101 :: t := by rw [dD_yes (by decide), dD_no (by decide)]
      have htd : tD (49 :: 46 :: 48 :: 101 :: t) = [49] := by unfold tD; rw [List.takeWhile_cons, List.takeWhile_cons]; rfl
      have hd2 : dD (48 :: 101 :: t) = 101 :: t := by rw [dD_yes (by decide), dD_no (by decide)]
      have htd2 : tD (48 :: 101 :: t) = [48] := by unfold tD; rw [List.takeWhile_cons, List.takeWhile_cons]; rfl
      rw [hu, odd_49, h1]
      simp only
      rw [hd, htd]
      simp only [beq_self_eq_true]
      rw [hd2, htd2]
      unfold afterD
      rw [tailE_true h]
      exact make_ten h
    rw [plain_fl (by decide) (by rw [intV_12, h1]; rfl) (by rw [flV_12, h2]), flV_12, h2, print_one h]

/-! 0. -/
theorem turn7 {t : B} (h : OwnT t) : ∃ x, plainV 11 (48 :: 46 :: (t ++ [49])) = (tFloat, x) ∧ plainV 12 (48 :: 46 :: (t ++ [49])) = (tFloat, x) := by
  have hr : (t ++ [49]).all dg = true := by rw [List.all_append, h.d]; rfl
  generalize t ++ [49] = r at hr
  have hu : unsign (48 :: 46 :: r) = (false, 48 :: 46 :: r) := rfl
  have ho : ∀ neg sgn, odd (48 :: 46 :: r) neg sgn = none := fun neg sgn => odd_dg (by decide) _ _ _
  have hD : isD ([48] ++ r) = true := isD_of (by rw [List.all_append, hr]; rfl) (by simp)
  have hmk : (makeD false [48] r [48]).2 = true := by
    unfold makeD
    rw [hD]
    show (match dropZ (Lib.trimRightB ([48] ++ r) 48) with | [] => _ | c :: l => _ : De × Bool).2 = true
    cases dropZ (Lib.trimRightB ([48] ++ r) 48) <;> rfl
  refine ⟨printD (makeD false [48] r [48]).1, ?_, ?_⟩
  · have h1 : (int11 (48 :: 46 :: r)).2 = 0 := rfl
    have hf : fl11 (48 :: 46 :: r) = ((makeD false [48] r [48]).1, 1) := by
      unfold fl11
      have hd : dw 46 (48 :: 46 :: r) = 46 :: r := by rw [dw_miss (by decide), dw_hit]
      have ht : tw 46 (48 :: 46 :: r) = [48] := by rw [tw_miss (by decide), tw_hit]
      have htr : tailU r = [] := tailU_row hr
      have htk : r.takeWhile dgU = r := by
        have : r.takeWhile dgU ++ tailU r = r := List.takeWhile_append_dropWhile
        rwa [htr, List.append_nil] at this
      rw [hu, ho]
      simp only
      rw [hd, ht]
      simp only
      rw [htr, htk, noU_id hr]
      rfl
    rw [plain_fl (by decide) (by rw [intV_11, h1]; rfl) (by rw [flV_11, hf]; rfl), flV_11, hf]
  · have h1 : int12 (48 :: 46 :: r) = [] := by
      show norm false (48 :: 46 :: r) = []
      have : isD (48 :: 46 :: r) = false := by unfold isD; rw [List.all_cons, List.all_cons]; rfl
      unfold norm
      rw [this]
    have hf : fl12 (48 :: 46 :: r) = ((makeD false [48] r [48]).1, true) := by
      rw [fl12_eq]
      have hd : dD (48 :: 46 :: r) = 46 :: r := by rw [dD_yes (by decide), dD_no (by decide)]
      have htd : tD (48 :: 46 :: r) = [48] := by unfold tD; rw [List.takeWhile_cons, List.takeWhile_cons]; rfl
      have hd2 : dD r = [] := by
        have := drop_nil (p := dg) r
        rw [hr] at this
        exact eq_of_beq this
      have htd2 : tD r = r := by
        have := tD_dD r
        rwa [hd2, List.append_nil] at this
      rw [hu, ho, h1]
      simp only
      rw [hd, htd]
      simp only [beq_self_eq_true]
      rw [hd2, htd2]
      unfold afterD
      show makeD false [48] r [48] = _
      rw [← hmk]
    rw [plain_fl (by decide) (by rw [intV_12, h1]; rfl) (by rw [flV_12, hf]), flV_12, hf]

/-! ResolveTurns -/
def A5 : Ty5 := fun n w K => if 0 ≤ n ∧ n ≤ 4294967295 ∧ 0 ≤ w ∧ w ≤ 255 then K true else none
theorem eq5 (hC : ∀ key e t, C key e t = t e) (n w : Int) (K : Tk5) (r : Out) (h : A5 n w K = some r) : run5 C A14 A16 A20 A21 big n w K = some r := by
  unfold A5 at h
  split at h
  · rename_i hc
    obtain ⟨n0, n1, w0, w1⟩ := hc
    have e14 : ∀ k, A14 k = k true := fun k => rfl
    have ho := own_dec n.toNat
    have hl := dec_len (n := n.toNat) (by omega)
    have e20 : ∀ k, A20 (IntKind.i64.wrap n) k = k (Lib.decDigits n.toNat) := by
      intro k
      rw [i64_in (by omega) (by omega)]
      exact if_pos (by omega)
    rw [← h, run5_eq, e14]
    rw [Bool.not_true, cond_false, e20, tmod_nn w0]
    generalize hT : Lib.decDigits n.toNat = t at ho hl
    obtain ⟨c, l, htl, hcd⟩ := own_hd ho
    have hw : w % 8 = 0 ∨ w % 8 = 1 ∨ w % 8 = 2 ∨ w % 8 = 3 ∨ w % 8 = 4 ∨ w % 8 = 5 ∨ w % 8 = 6 ∨ w % 8 = 7 := by omega
    rcases hw with e | e | e | e | e | e | e | e
    · rw [e]
      simp only [show ((0 : Int) == 0) = true from rfl, cond_true]
      rw [A21_ok (by decide) (by decide +kernel) (by decide +kernel), cond_true, A21_ok (by decide) (by decide +kernel) (by decide +kernel), cond_true, A21_ok (by decide) (by decide +kernel) (by decide +kernel)]
    · rw [e]
      simp only [show ((1 : Int) == 0) = false from rfl, show ((1 : Int) == 1) = true from rfl, cond_true, cond_false]
      have hb := dv_bd hcd
      have hcut : cut t none (some (1 : Int)) = some [c] := by rw [htl]; exact cut_1 c l
      have hat : at? t 0 = some c := by rw [htl]; rfl
      have hcat : cat ([49, 58, 48] : BY) [c] = some [49, 58, 48, c] := cat_ok (by simp)
      have e20' : ∀ k, A20 (IntKind.i64.wrap (60 + IntKind.i64.wrap (IntKind.u8.wrap ((c.toNat : Int) - 48)))) k = k (Lib.decDigits (60 + (c.toNat - 48))) := by
        intro k
        have ed : (c.toNat : Int) - 48 = dv c := rfl
        have : dv c = ((c.toNat - 48 : Nat) : Int) := by unfold dv at hb ⊢; omega
        rw [ed, u8_in hb.1 (by omega), i64_in (n := dv c) (by omega) (by omega), i64_in (by omega) (by omega), this]
        have e2 : (60 + ((c.toNat - 48 : Nat) : Int)) = ((60 + (c.toNat - 48) : Nat) : Int) := by omega
        rw [e2]
        exact if_pos (by omega)
      simp only [hcut, hcat, hat, Option.bind_some, e20']
      have key := allU8 (P := fun c => dg c = true → plainV 11 [49, 58, 48, c] = (tInt, Lib.decDigits (60 + (c.toNat - 48))) ∧ plainV 12 [49, 58, 48, c] = (tStr, [49, 58, 48, c])) (by decide +kernel) c hcd
      exact A21_ok (by simp) key.1 key.2 _
    · rw [e]
      simp only [show ((2 : Int) == 0) = false from rfl, show ((2 : Int) == 1) = false from rfl, show ((2 : Int) == 2) = true from rfl, cond_true, cond_false]
      rw [cat_ok (by simp; omega), Option.bind_some, cat_ok (by simp; omega), Option.bind_some, Option.bind_some]
      have ⟨k1, k2⟩ := turn2 ho
      exact A21_ok (by simp; omega) k1 k2 _
    · rw [e]
      simp only [show ((3 : Int) == 0) = false from rfl, show ((3 : Int) == 1) = false from rfl, show ((3 : Int) == 2) = false from rfl, show ((3 : Int) == 3) = true from rfl, cond_true, cond_false]
      have c1 : cat ([49, 101] : BY) t = some (49 :: 101 :: t) := cat_ok (by simp; omega)
      have c2 : cat ([49, 46, 101, 43] : BY) t = some ([49, 46, 101, 43] ++ t) := cat_ok (by simp; omega)
      have c3 : cat ([49, 46, 48, 101] : BY) t = some (49 :: 46 :: 48 :: 101 :: t) := cat_ok (by simp; omega)
      have ⟨k1, k2⟩ := turn3 ho
      have ⟨k3, k4⟩ := turn3b ho
      simp only [c1, c2, c3, Option.bind_some]
      refine (A21_ok (by simp; omega) k1 k2 _).trans ?_
      simp only [cond_true]
      exact A21_ok (by simp; omega) k3 k4 _
    · rw [e]
      simp only [show ((4 : Int) == 0) = false from rfl, show ((4 : Int) == 1) = false from rfl, show ((4 : Int) == 2) = false from rfl, show ((4 : Int) == 3) = false from rfl, show ((4 : Int) == 4) = true from rfl, cond_true, cond_false]
      rw [A21_ok (by decide) (by decide +kernel) (by decide +kernel), cond_true, A21_ok (by decide) (by decide +kernel) (by decide +kernel)]
    · rw [e]
      simp only [show ((5 : Int) == 0) = false from rfl, show ((5 : Int) == 1) = false from rfl, show ((5 : Int) == 2) = false from rfl, show ((5 : Int) == 3) = false from rfl, show ((5 : Int) == 4) = false from rfl, show ((5 : Int) == 5) = true from rfl, cond_true, cond_false]
      rw [A21_ok (by decide) (by decide +kernel) (by decide +kernel)]
    · rw [e]
      simp only [show ((6 : Int) == 0) = false from rfl, show ((6 : Int) == 1) = false from rfl, show ((6 : Int) == 2) = false from rfl, show ((6 : Int) == 3) = false from rfl, show ((6 : Int) == 4) = false from rfl, show ((6 : Int) == 5) = false from rfl, show ((6 : Int) == 6) = true from rfl, cond_true, cond_false]
      rw [A21_ok (by decide) (by decide +kernel) (by decide +kernel), cond_true, A21_ok (by decide) (by decide +kernel) (by decide +kernel)]
    · rw [e]
      simp only [show ((7 : Int) == 0) = false from rfl, show ((7 : Int) == 1) = false from rfl, show ((7 : Int) == 2) = false from rfl, show ((7 : Int) == 3) = false from rfl, show ((7 : Int) == 4) = false from rfl, show ((7 : Int) == 5) = false from rfl, show ((7 : Int) == 6) = false from rfl, cond_false]
      have c1 : cat ([49] : BY) t = some (49 :: t) := cat_ok (by simp; omega)
      have c2 : cat ([48, 46] : BY) t = some (48 :: 46 :: t) := cat_ok (by simp; omega)
      have c3 : cat (48 :: 46 :: t) ([49] : BY) = some (48 :: 46 :: (t ++ [49])) := cat_ok (by simp; omega)
      have hg := good_one ho
      obtain ⟨x, k1, k2⟩ := turn7 ho
      simp only [c1, c2, c3, Option.bind_some]
      refine (A21_ok (by simp; omega) (plain_good hg 11) (plain_good hg 12) _).trans ?_
      simp only [cond_true]
      rw [A16_ok (by simp; omega), A16_ok (by simp; omega), A16_ok (by simp; omega), k1, k2]
      exact A21_ok (by simp; omega) k1 k2 _
  · cases h
end Go.Proofs.YtffmgholjdfcnaaGreatDoor
