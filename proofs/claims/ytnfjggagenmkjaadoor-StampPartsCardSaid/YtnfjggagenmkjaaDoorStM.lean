/- What the laws of moments tell: StampZones, StampDays. -/
import Derived.Test.YtnfjggagenmkjaaDoorStL
set_option linter.unusedSimpArgs false
set_option linter.unusedVariables false
namespace Go.Proofs.YtnfjggagenmkjaaDoor
open Go AM St

variable {C : Nat → Env → (Env → Option Out) → Option Out}
theorem A13_ok {n : Int} {K : Tk13} (h0 : 0 ≤ n) (h1 : n ≤ 9223372036854775807) : A13 n K = K (Lib.decDigits n.toNat) := if_pos ⟨h0, h1⟩
theorem A10_o {n : Int} {K : Tk10} (h0 : 0 ≤ n) (h1 : n ≤ 1000000) : A10 n K = K (w2 n) := A10_ok h0 (by omega)
theorem dg_false {c : UInt8} (h : c.toNat < 48 ∨ 57 < c.toNat) : dg c = false := by
  unfold dg
  rcases h with h | h
  · have : ¬ 48 ≤ c.toNat := by omega
    simp [this]
  · have : ¬ c.toNat ≤ 57 := by omega
    simp [this]
/-- A day and a time of day, in a zone. -/
theorem ofT_time {y m d h mi sec z : Int} {r l l' fr : B} (hd : DayOk y m d) (h0 : 0 ≤ h) (h1 : h < 24) (i0 : 0 ≤ mi) (i1 : mi < 60) (s0 : 0 ≤ sec) (s1 : sec < 60)
    (hr : r ≠ []) (hg : gap r = some (clockB h mi sec l)) (hf : fracs l = (fr, l')) (hz : zoneE l' = some z) :
    ofT (dayB y m d r) = match okY (putM ⟨y, m, d, h, mi, sec, fr, z⟩) with
      | true => (text (putM ⟨y, m, d, h, mi, sec, fr, z⟩) sec fr, true)
      | false => ([], false) := by
  have hle := hd.le
  have m0 := hd.m0; have m1 := hd.m1; have d0 := hd.d0
  unfold ofT
  rw [parse_day hd.y0 hd.y1 (by omega) (by omega) (by omega) (by omega)]
  cases r with
  | nil => exact absurd rfl hr
  | cons a b =>
    simp only
    rw [hg]
    simp only
    rw [clock_text h0 (by omega) i0 (by omega) s0 (by omega), hf]
    simp only [hz]
    have ho := okMo_of (h := h) (mi := mi) (sec := sec) (fr := fr) (z := z) hd h1 i1 s1
    simp only [ho]
    rfl
theorem putM_in {y m d h mi sec z n : Int} {fr : B} (hd : DayOk y m d) (e : 60 * h + mi - z = n) (n0 : 0 ≤ n) (n1 : n < 1440) : putM ⟨y, m, d, h, mi, sec, fr, z⟩ = (y, m, d, n) := by
  unfold putM
  simp only [e]
  rw [if_neg (by omega), if_neg (by omega)]
  exact adj_same hd
theorem okY_of {y m d n : Int} (hd : DayOk y m d) : okY (y, m, d, n) = true := by
  unfold okY
  simp only [decide_eq_true hd.y0, decide_eq_true hd.y1, Bool.and_self]
theorem ofT_in {y m d h mi sec z n : Int} {r l l' fr : B} (hd : DayOk y m d) (h0 : 0 ≤ h) (h1 : h < 24) (i0 : 0 ≤ mi) (i1 : mi < 60) (s0 : 0 ≤ sec) (s1 : sec < 60)
    (hr : r ≠ []) (hg : gap r = some (clockB h mi sec l)) (hf : fracs l = (fr, l')) (hz : zoneE l' = some z) (e : 60 * h + mi - z = n) (n0 : 0 ≤ n) (n1 : n < 1440) :
    ofT (dayB y m d r) = (text (y, m, d, n) sec fr, true) := by
  rw [ofT_time hd h0 h1 i0 i1 s0 s1 hr hg hf hz, putM_in hd e n0 n1, okY_of hd]
/-- Blanks: one, then tabs. -/
def gapB (n : Nat) : B := 32 :: List.replicate n 9
theorem gapB_in (n : Nat) : ∀ c, c ∈ gapB n → ([32, 9] : B).contains c = true := by
  intro c hc
  rcases List.mem_cons.1 hc with rfl | hc
  · decide
  · rw [List.eq_of_mem_replicate hc]; decide
theorem digit_blank {n : Int} (h0 : 0 ≤ n) (h1 : n ≤ 9) : ([32, 9] : B).contains (dc n) = false := by
  have := dc_nat h0 h1
  rw [List.contains_eq_any_beq, List.any_eq_false]
  intro x hx
  have : x = 32 ∨ x = 9 := by simpa using hx
  rcases this with rfl | rfl
  · intro e
    have e := congrArg UInt8.toNat (beq_iff_eq.1 e)
    have : (32 : UInt8).toNat = 32 := rfl
    omega
  · intro e
    have e := congrArg UInt8.toNat (beq_iff_eq.1 e)
    have : (9 : UInt8).toNat = 9 := rfl
    omega
theorem behind_clock {h mi sec : Int} (h0 : 0 ≤ h) (h1 : h ≤ 99) (l : B) : behind [32, 9] (clockB h mi sec l) = clockB h mi sec l := by
  unfold clockB w2
  simp only [List.cons_append]
  have := digit_blank (n := h / 10 % 10) (by omega) (by omega)
  simp only [behind, this]
theorem gap_blank {h mi sec : Int} (h0 : 0 ≤ h) (h1 : h ≤ 99) (n : Nat) (l : B) : gap (gapB n ++ clockB h mi sec l) = some (clockB h mi sec l) := by
  unfold gap
  have e1 : sg [84, 116] (gapB n ++ clockB h mi sec l) = none := rfl
  rw [e1]
  simp only
  rw [behind_app (gapB_in n), behind_clock h0 h1]
  have : decide ((clockB h mi sec l).length = (gapB n ++ clockB h mi sec l).length) = false := decide_eq_false (by simp [gapB]; omega)
  rw [this]
theorem gap_t (l : B) : gap (116 :: l) = some l := by
  unfold gap
  have : sg [84, 116] (116 :: l) = some (116, l) := by simp [sg]
  rw [this]
theorem fracs_none {c : UInt8} (h : ([46] : B).contains c = false) (l : B) : fracs (c :: l) = ([], c :: l) := by
  unfold fracs
  have : sg [46] (c :: l) = none := by simp only [sg, h]
  rw [this]
theorem zoneE_blankZ (n : Nat) : zoneE (gapB n ++ [90]) = some 0 := by
  have e1 : behind [32, 9] (gapB n ++ [90]) = [90] := by rw [behind_app (gapB_in n)]; decide
  unfold zoneE
  have e2 : gapB n ++ [90] = 32 :: (List.replicate n 9 ++ [90]) := rfl
  rw [e2] at e1 ⊢
  simp only
  rw [e1]
  rfl
/-- A sign's byte; what it does to minutes. -/
def sgB (z : Int) : UInt8 := if z < 0 then 45 else 43
theorem sgB_cases (z : Int) : (z < 0 ∧ sgB z = 45) ∨ (¬ z < 0 ∧ sgB z = 43) := by
  unfold sgB
  by_cases h : z < 0
  · exact .inl ⟨h, if_pos h⟩
  · exact .inr ⟨h, if_neg h⟩
theorem zone_two {p : Int} (p0 : 0 ≤ p) (p1 : p < 1440) : zone (w2 (p / 60) ++ (58 :: (w2 (p % 60) ++ []))) = some (p, []) := by
  unfold zone
  rw [num_w2 (by omega) (by omega) (by omega)]
  simp only [sg_one]
  rw [num_w2 (by omega) (by omega) (by omega)]
  have e : (decide (p / 60 ≤ 23) && decide (p % 60 ≤ 59)) = true := by
    rw [decide_eq_true (by omega), decide_eq_true (by omega)]; rfl
  simp only [e]
  congr 2
  omega
theorem num_dec {n : Int} (h0 : 0 ≤ n) (h1 : n ≤ 99) (l : B) : num 1 2 (Lib.decDigits n.toNat ++ (58 :: l)) = some (n, 58 :: l) := by
  by_cases h : n < 10
  · rw [dec1 (by omega)]
    have e : [UInt8.ofNat (48 + n.toNat)] ++ (58 :: l) = dc n :: 58 :: l := rfl
    rw [e]
    unfold num
    rw [digs_dc h0 (by omega), digs_no (dg_false (by decide))]
    simp
  · have e : Lib.decDigits n.toNat = w2 n := by
      rw [dec_step (by omega), dec1 (by omega)]
      unfold w2 dc
      have a1 : (n / 10 % 10).toNat = n.toNat / 10 := by omega
      have a2 : (n % 10).toNat = n.toNat % 10 := by omega
      rw [a1, a2]; rfl
    rw [e, num_w2 h0 h1 (by omega)]
theorem zone_dec {p : Int} (p0 : 0 ≤ p) (p1 : p < 1440) : zone (Lib.decDigits (p / 60).toNat ++ (58 :: (w2 (p % 60) ++ []))) = some (p, []) := by
  unfold zone
  rw [num_dec (by omega) (by omega)]
  simp only [sg_one]
  rw [num_w2 (by omega) (by omega) (by omega)]
  have e : (decide (p / 60 ≤ 23) && decide (p % 60 ≤ 59)) = true := by
    rw [decide_eq_true (by omega), decide_eq_true (by omega)]; rfl
  simp only [e]
  congr 2
  omega
/-- A zone behind blanks or none. -/
theorem zoneE_sign {z p : Int} (hp : p = if z < 0 then -z else z) (n : Nat) (b : Bool) {l : B} (hl : zone l = some (p, [])) : zoneE ((match b with | true => gapB n | false => []) ++ (sgB z :: l)) = some z := by
  have h1 : behind [32, 9] (sgB z :: l) = sgB z :: l := by rcases sgB_cases z with ⟨_, e⟩ | ⟨_, e⟩ <;> rw [e] <;> rfl
  have h3 : ∀ g : B, behind [32, 9] (g ++ (sgB z :: l)) = sgB z :: l → zoneE (g ++ (sgB z :: l)) = match sg [90] (sgB z :: l) with
    | some (_, []) => some 0
    | some (_, _ :: _) => none
    | none => match sg [43, 45] (sgB z :: l) with
      | none => none
      | some (c, s1) => match zone s1 with
        | some (z, []) => some (match c == 45 with | true => - z | false => z)
        | _ => none := by
    intro g hg
    have e : g ++ (sgB z :: l) ≠ [] := by simp
    generalize g ++ (sgB z :: l) = t at hg e ⊢
    cases t with
    | nil => exact absurd rfl e
    | cons a b =>
      unfold zoneE
      simp only
      rw [hg]
      rfl
  have h2 : behind [32, 9] ((match b with | true => gapB n | false => []) ++ (sgB z :: l)) = sgB z :: l := by
    cases b with
    | true => rw [behind_app (gapB_in n), h1]
    | false => exact h1
  rw [h3 _ h2]
  rcases sgB_cases z with ⟨hz, e⟩ | ⟨hz, e⟩
  · rw [if_pos hz] at hp
    rw [e]
    have a1 : sg [90] (45 :: l) = none := rfl
    have a2 : sg [43, 45] (45 :: l) = some (45, l) := rfl
    rw [a1, a2]
    simp only [hl]
    have a3 : ((45 : UInt8) == 45) = true := rfl
    simp only [a3]
    congr 1
    omega
  · rw [if_neg hz] at hp
    rw [e]
    have a1 : sg [90] (43 :: l) = none := rfl
    have a2 : sg [43, 45] (43 :: l) = some (43, l) := rfl
    rw [a1, a2]
    simp only [hl]
    have a3 : ((43 : UInt8) == 45) = false := rfl
    simp only [a3]
    congr 1

/-! StampZones -/
def A4 : Ty4 := fun y m d h n s zone tabs K => if 0 ≤ y ∧ y ≤ 65535 ∧ 0 ≤ m ∧ m ≤ 255 ∧ 0 ≤ d ∧ d ≤ 255 ∧ 0 ≤ h ∧ h ≤ 255 ∧ 0 ≤ n ∧ n ≤ 255 ∧ 0 ≤ s ∧ s ≤ 255 ∧ -32768 ≤ zone ∧ zone ≤ 32767 ∧ 0 ≤ tabs ∧ tabs ≤ 255 then K true else none
theorem l3_4_end (hC : ∀ key e t, C key e t = t e) (kk : Nat) {s tabs Y M D hh mi sec z : Int} (n : Nat) (hd : DayOk Y M D) (hh0 : 0 ≤ hh) (hh1 : hh < 24) (mi0 : 0 ≤ mi) (mi1 : mi < 60) (hs : 0 ≤ s ∧ s ≤ 255) (z0 : -1440 < z) (z1 : z < 1440) (k0 : 0 ≤ 60 * hh + mi + z) (k1 : 60 * hh + mi + z < 1440)
    (hsec : sec = s % 60) (ht : 0 ≤ tabs ∧ tabs ≤ 255) (hn : ¬ (n : Int) < tabs % 3) (hn3 : n ≤ 3) (j : Nat) (K : Tk4) {p : Int} (hp : p = if z < 0 then -z else z) :
    l3_4 C A8 A9 A10 A12 A13 kk (j + 1) s tabs (dayB Y M D []) (clockB hh mi sec []) (text (Y, M, D, 60 * hh + mi) sec []) (60 * hh + mi + z) [sgB z] p (gapB n) (n : Int) K = K true := by
  have bp : 0 ≤ p ∧ p < 1440 := by rw [hp]; split <;> omega
  have bs : 0 ≤ sec ∧ sec < 60 := by omega
  have hdl : (dayB Y M D []).length = 10 := by simp [dayB, w2_len, w4_len]
  have hcl : (clockB hh mi sec []).length = 8 := by simp [clockB, w2_len]
  have hgl : (gapB n).length ≤ 4 := by simp [gapB]; omega
  have hdd : (Lib.decDigits (p / 60).toNat).length ≤ 19 := by rw [Lib.decDigits_length]; exact nDigits_le (by omega)
  obtain ⟨k, hk⟩ : ∃ k, 60 * hh + mi + z = k := ⟨_, rfl⟩
  rw [hk] at k0 k1 ⊢
  have ek1 : 0 ≤ k / 60 ∧ k / 60 < 24 := by omega
  have ek2 : 0 ≤ k % 60 ∧ k % 60 < 60 := by omega
  have ekz : 60 * (k / 60) + k % 60 - z = 60 * hh + mi := by omega
  rw [l3_4_eq _ _ _ _ _ _ hC, tmod_nn ht.1, i64_in (n := tabs % 3) (by omega) (by omega)]
  simp only [hn, decide_false, cond_false]
  rw [tdiv_nn k0, tmod_nn k0, tdiv_nn bp.1, tmod_nn bp.1, tmod_nn hs.1, i64_in (n := k / 60) (by omega) (by omega), i64_in (n := p / 60) (by omega) (by omega), i64_in (n := s % 60) (by omega) (by omega), ← hsec]
  have dayApp : ∀ l l' : B, dayB Y M D l ++ l' = dayB Y M D (l ++ l') := by intro l l'; simp [dayB]
  have clockApp : ∀ (a b c : Int) (l l' : B), clockB a b c l ++ l' = clockB a b c (l ++ l') := by intro a b c l l'; simp [clockB]
  have clockFold : ∀ (a b c : Int) (l : B), w2 a ++ (58 :: (w2 b ++ (58 :: (w2 c ++ l)))) = clockB a b c l := fun a b c l => rfl
  -- the first text
  rw [cat_ok (by omega), Option.bind_some, cat_ok (by rw [List.length_append]; omega), Option.bind_some, A9_ok (by simp only [List.length_append]; omega)]
  have e1 : ofT (dayB Y M D [] ++ gapB n ++ clockB hh mi sec []) = (text (Y, M, D, 60 * hh + mi) sec [], true) := by
    rw [List.append_assoc, dayApp, List.nil_append]
    exact ofT_in (fr := []) (l' := []) (z := 0) hd hh0 hh1 mi0 mi1 bs.1 bs.2 (by simp [gapB]) (gap_blank hh0 (by omega) n []) rfl rfl (by omega) (by omega) (by omega)
  rw [e1]
  -- the second
  rw [cat_ok (by simp; omega), Option.bind_some, cat_ok (by simp; omega), Option.bind_some, cat_ok (by simp; omega), Option.bind_some, cat_ok (by simp; omega), Option.bind_some, A9_ok (by simp; omega)]
  have e2 : ofT (dayB Y M D [] ++ [116] ++ clockB hh mi sec [] ++ gapB n ++ [90]) = (text (Y, M, D, 60 * hh + mi) sec [], true) := by
    simp only [List.append_assoc, dayApp, clockApp, List.cons_append, List.nil_append]
    exact ofT_in (fr := []) (l' := gapB n ++ [90]) (z := 0) hd hh0 hh1 mi0 mi1 bs.1 bs.2 (by simp) (gap_t _) rfl (zoneE_blankZ n) (by omega) (by omega) (by omega)
  rw [e2]
  -- the third
  rw [cat_ok (by simp; omega), Option.bind_some, A10_o ek1.1 (by omega), cat_ok (by simp [w2_len]; omega), Option.bind_some, cat_ok (by simp [w2_len]; omega), Option.bind_some, A10_o ek2.1 (by omega), cat_ok (by simp [w2_len]; omega), Option.bind_some, cat_ok (by simp [w2_len]; omega), Option.bind_some,
    A10_o bs.1 (by omega), cat_ok (by simp [w2_len]; omega), Option.bind_some, cat_ok (by simp [w2_len]; omega), Option.bind_some, A10_o (by omega) (by omega), cat_ok (by simp [w2_len]; omega), Option.bind_some, cat_ok (by simp [w2_len]; omega), Option.bind_some, A10_o (by omega) (by omega), cat_ok (by simp [w2_len]; omega), Option.bind_some,
    A9_ok (by simp [w2_len]; omega)]
  have e3 : ofT (dayB Y M D [] ++ [84] ++ w2 (k / 60) ++ [58] ++ w2 (k % 60) ++ [58] ++ w2 sec ++ [sgB z] ++ w2 (p / 60) ++ [58] ++ w2 (p % 60)) = (text (Y, M, D, 60 * hh + mi) sec [], true) := by
    have ee : dayB Y M D [] ++ [84] ++ w2 (k / 60) ++ [58] ++ w2 (k % 60) ++ [58] ++ w2 sec ++ [sgB z] ++ w2 (p / 60) ++ [58] ++ w2 (p % 60) = dayB Y M D (84 :: clockB (k / 60) (k % 60) sec (sgB z :: (w2 (p / 60) ++ (58 :: (w2 (p % 60) ++ []))))) := by
      simp only [clockB, List.append_assoc, dayApp, List.cons_append, List.nil_append, List.append_nil]
    rw [ee]
    have hf : fracs (sgB z :: (w2 (p / 60) ++ (58 :: (w2 (p % 60) ++ [])))) = ([], sgB z :: (w2 (p / 60) ++ (58 :: (w2 (p % 60) ++ [])))) := by
      rcases sgB_cases z with ⟨_, e⟩ | ⟨_, e⟩ <;> rw [e] <;> rfl
    exact ofT_in hd ek1.1 ek1.2 ek2.1 ek2.2 bs.1 bs.2 (by simp) (gap_T _) hf (zoneE_sign hp 0 false (zone_two bp.1 bp.2)) ekz (by omega) (by omega)
  rw [e3]
  -- the fourth
  rw [Option.bind_some, A10_o ek1.1 (by omega), cat_ok (by simp [w2_len]; omega), Option.bind_some, cat_ok (by simp [w2_len]; omega), Option.bind_some, A10_o ek2.1 (by omega), cat_ok (by simp [w2_len]; omega), Option.bind_some, cat_ok (by simp [w2_len]; omega), Option.bind_some,
    A10_o bs.1 (by omega), cat_ok (by simp [w2_len]; omega), Option.bind_some, cat_ok (by simp [w2_len]; omega), Option.bind_some, cat_ok (by simp [w2_len]; omega), Option.bind_some, A13_ok (by omega) (by omega), cat_ok (by simp [w2_len]; omega), Option.bind_some, cat_ok (by simp [w2_len]; omega), Option.bind_some, A10_o (by omega) (by omega), cat_ok (by simp [w2_len]; omega), Option.bind_some,
    A9_ok (by simp [w2_len]; omega)]
  have e4 : ofT (dayB Y M D [] ++ [84] ++ w2 (k / 60) ++ [58] ++ w2 (k % 60) ++ [58] ++ w2 sec ++ gapB n ++ [sgB z] ++ Lib.decDigits (p / 60).toNat ++ [58] ++ w2 (p % 60)) = (text (Y, M, D, 60 * hh + mi) sec [], true) := by
    have ee : dayB Y M D [] ++ [84] ++ w2 (k / 60) ++ [58] ++ w2 (k % 60) ++ [58] ++ w2 sec ++ gapB n ++ [sgB z] ++ Lib.decDigits (p / 60).toNat ++ [58] ++ w2 (p % 60) = dayB Y M D (84 :: clockB (k / 60) (k % 60) sec (gapB n ++ (sgB z :: (Lib.decDigits (p / 60).toNat ++ (58 :: (w2 (p % 60) ++ [])))))) := by
      simp only [clockB, List.append_assoc, dayApp, List.cons_append, List.nil_append, List.append_nil]
    rw [ee]
    exact ofT_in hd ek1.1 ek1.2 ek2.1 ek2.2 bs.1 bs.2 (by simp) (gap_T _) rfl (zoneE_sign hp n true (zone_dec bp.1 bp.2)) ekz (by omega) (by omega)
  rw [e4]
  simp only [cond_true, beq_self_eq_true]
theorem l3_4_ok (hC : ∀ key e t, C key e t = t e) (kk : Nat) {s tabs Y M D hh mi sec z : Int} (hd : DayOk Y M D) (hh0 : 0 ≤ hh) (hh1 : hh < 24) (mi0 : 0 ≤ mi) (mi1 : mi < 60) (hs : 0 ≤ s ∧ s ≤ 255) (z0 : -1440 < z) (z1 : z < 1440) (k0 : 0 ≤ 60 * hh + mi + z) (k1 : 60 * hh + mi + z < 1440)
    (hsec : sec = s % 60) (ht : 0 ≤ tabs ∧ tabs ≤ 255) (K : Tk4) {p : Int} (hp : p = if z < 0 then -z else z) : ∀ (d n j : Nat), n + d = 3 → d < j → 
    l3_4 C A8 A9 A10 A12 A13 kk j s tabs (dayB Y M D []) (clockB hh mi sec []) (text (Y, M, D, 60 * hh + mi) sec []) (60 * hh + mi + z) [sgB z] p (gapB n) (n : Int) K = K true := by
  intro d
  induction d with
  | zero =>
    intro n j hn hj
    obtain ⟨j, rfl⟩ : ∃ i, j = i + 1 := ⟨j - 1, by omega⟩
    exact l3_4_end hC kk n hd hh0 hh1 mi0 mi1 hs z0 z1 k0 k1 hsec ht (by omega) (by omega) j K hp
  | succ d ih =>
    intro n j hn hj
    obtain ⟨j, rfl⟩ : ∃ i, j = i + 1 := ⟨j - 1, by omega⟩
    by_cases hlt : (n : Int) < tabs % 3
    · rw [l3_4_eq _ _ _ _ _ _ hC, tmod_nn ht.1, i64_in (n := tabs % 3) (by omega) (by omega)]
      simp only [hlt, decide_true, cond_true]
      rw [cat_ok (by simp [gapB]; omega), Option.bind_some, i64_in (n := (n : Int) + 1) (by omega) (by omega)]
      have e1 : gapB n ++ [9] = gapB (n + 1) := by
        unfold gapB
        rw [List.cons_append, ← List.replicate_succ']
      have e2 : (n : Int) + 1 = ((n + 1 : Nat) : Int) := by omega
      rw [e1, e2]
      exact ih (n + 1) j (by omega) (by omega)
    · exact l3_4_end hC kk n hd hh0 hh1 mi0 mi1 hs z0 z1 k0 k1 hsec ht hlt (by omega) j K hp
theorem dayB_of (y m d : Int) (h0 : 0 ≤ y) : w2 (y / 100) ++ w2 y ++ [45] ++ w2 m ++ [45] ++ w2 d = dayB y m d [] := by
  rw [w4_back y h0]
  simp [dayB]
theorem eq4 (hC : ∀ key e t, C key e t = t e) (y m d h n s zone tabs : Int) (K : Tk4) (r : Out) (hA : A4 y m d h n s zone tabs K = some r) : run4 C A8 A9 A10 A12 A13 big y m d h n s zone tabs K = some r := by
  unfold A4 at hA
  split at hA
  · rename_i hc
    obtain ⟨y0, y1, m0, m1, d0, d1, h0, h1, n0, n1, s0, s1, z0, z1, t0, t1⟩ := hc
    rw [run4_eq, ← hA]
    simp only [A8, A12, Bool.not_true, cond_false]
    rw [tmod_nn y0, tmod_nn m0, tmod_nn h0, tmod_nn n0, tmod_nn s0]
    rw [i64_in (n := y % 9998) (by omega) (by omega), i64_in (n := m % 12) (by omega) (by omega), i64_in (n := h % 24) (by omega) (by omega), i64_in (n := n % 60) (by omega) (by omega), i64_in (n := s % 60) (by omega) (by omega), i64_in (n := zone) (by omega) (by omega), i64_in (n := d) (by omega) (by omega),
      i64_in (n := 1 + y % 9998) (by omega) (by omega), i64_in (n := 1 + m % 12) (by omega) (by omega), i64_in (n := 60 * (h % 24)) (by omega) (by omega), i64_in (n := 60 * (h % 24) + n % 60) (by omega) (by omega)]
    obtain ⟨Y, hY⟩ : ∃ Y, 1 + y % 9998 = Y := ⟨_, rfl⟩
    obtain ⟨M, hM⟩ : ∃ M, 1 + m % 12 = M := ⟨_, rfl⟩
    have bY : 1 ≤ Y ∧ Y ≤ 9998 := by omega
    have bM : 1 ≤ M ∧ M ≤ 12 := by omega
    rw [hY, hM]
    have dp := days_pos (y := Y) (m := M) (by omega) bM.1 bM.2
    have db := days_bd Y M
    have e0 : (days Y M == 0) = false := by
      have : ¬ days Y M = 0 := by omega
      simpa using this
    simp only [e0, cond_false]
    rw [tmod_nn d0, i64_in (n := 1 + d % days Y M) (by have := Int.emod_nonneg d (by omega : days Y M ≠ 0); omega) (by have := Int.emod_lt_of_pos d (by omega : 0 < days Y M); omega)]
    have bD0 := Int.emod_nonneg d (by omega : days Y M ≠ 0)
    have bD1 := Int.emod_lt_of_pos d (by omega : 0 < days Y M)
    obtain ⟨D, hD⟩ : ∃ D, 1 + d % days Y M = D := ⟨_, rfl⟩
    rw [hD]
    have hd : DayOk Y M D := ⟨by omega, by omega, bM.1, bM.2, by omega, by omega⟩
    have hd0 := hd.d0
    have hdl31 := hd.le
    obtain ⟨z, hz⟩ : ∃ z, zone.tmod 1440 = z := ⟨_, rfl⟩
    have bz : -1440 < z ∧ z < 1440 := by
      rw [← hz]
      have a1 := Int.tmod_lt_of_pos zone (by omega : (0 : Int) < 1440)
      have a2 := Int.lt_tmod_of_pos zone (by omega : (0 : Int) < 1440)
      omega
    rw [hz]
    obtain ⟨hh, hH⟩ : ∃ hh, h % 24 = hh := ⟨_, rfl⟩
    obtain ⟨mi, hMi⟩ : ∃ mi, n % 60 = mi := ⟨_, rfl⟩
    obtain ⟨sec, hSec⟩ : ∃ sec, s % 60 = sec := ⟨_, rfl⟩
    rw [hH, hMi, hSec]
    have bh : 0 ≤ hh ∧ hh < 24 := by omega
    have bmi : 0 ≤ mi ∧ mi < 60 := by omega
    have bsec : 0 ≤ sec ∧ sec < 60 := by omega
    clear hA hY hM hD hz hH hMi y0 y1 m0 m1 d0 d1 h0 h1 n0 n1 z0 z1
    rw [i64_in (n := 60 * hh + mi + z) (by omega) (by omega), tdiv_nn (by omega), i64_in (n := Y / 100) (by omega) (by omega)]
    rw [A10_o (by omega) (by omega), A10_o (by omega) (by omega), cat_ok (by simp [w2_len]), Option.bind_some, cat_ok (by simp [w2_len]), Option.bind_some, A10_o (by omega) (by omega), cat_ok (by simp [w2_len]), Option.bind_some, cat_ok (by simp [w2_len]), Option.bind_some, A10_o (by omega) (by omega), cat_ok (by simp [w2_len]), Option.bind_some,
      A10_o (by omega) (by omega), cat_ok (by simp [w2_len]), Option.bind_some, A10_o (by omega) (by omega), cat_ok (by simp [w2_len]), Option.bind_some, cat_ok (by simp [w2_len]), Option.bind_some, A10_o (by omega) (by omega), cat_ok (by simp [w2_len]), Option.bind_some]
    rw [dayB_of Y M D (by omega)]
    have ec : w2 hh ++ [58] ++ w2 mi ++ [58] ++ w2 sec = clockB hh mi sec [] := by simp [clockB]
    rw [ec]
    have hdl : (dayB Y M D []).length = 10 := by simp [dayB, w2_len, w4_len]
    have hcl : (clockB hh mi sec []).length = 8 := by simp [clockB, w2_len]
    rw [cat_ok (by simp; omega), Option.bind_some, cat_ok (by simp; omega), Option.bind_some, cat_ok (by simp; omega), Option.bind_some]
    have ew : dayB Y M D [] ++ [84] ++ clockB hh mi sec [] ++ [90] = text (Y, M, D, 60 * hh + mi) sec [] := by
      rw [text_eq]
      have a1 : (60 * hh + mi) / 60 = hh := by omega
      have a2 : (60 * hh + mi) % 60 = mi := by omega
      simp only [a1, a2]
      simp [dayB, clockB, frB]
    rw [ew]
    simp only [p1_4_eq _ _ _ _ _ _ hC, p2_4_eq _ _ _ _ _ _ hC]
    rw [i64_in (n := 0 - z) (by omega) (by omega)]
    have fin : ∀ q, q = (if z < 0 then -z else z) → 0 ≤ 60 * hh + mi + z → 60 * hh + mi + z < 1440 → l3_4 C A8 A9 A10 A12 A13 big big s tabs (dayB Y M D []) (clockB hh mi sec []) (text (Y, M, D, 60 * hh + mi) sec []) (60 * hh + mi + z) [sgB z] q [32] 0 K = K true := by
      intro q hq k0 k1
      exact l3_4_ok hC big hd bh.1 bh.2 bmi.1 bmi.2 ⟨s0, s1⟩ bz.1 bz.2 k0 k1 hSec.symm ⟨t0, t1⟩ K hq 3 0 big (by omega) (big_gt (by omega))
    by_cases c1 : 60 * hh + mi + z < 0
    · simp only [c1, decide_true, cond_true]
    · by_cases c2 : 60 * hh + mi + z ≥ 1440
      · simp only [c1, c2, decide_true, decide_false, cond_true, cond_false]
      · simp only [c1, c2, decide_false, cond_false]
        by_cases c3 : z < 0
        · have e1 : ([45] : B) = [sgB z] := by unfold sgB; rw [if_pos c3]
          simp only [c3, decide_true, cond_true]
          rw [e1]
          exact fin _ (by rw [if_pos c3]; omega) (by omega) (by omega)
        · have e1 : ([43] : B) = [sgB z] := by unfold sgB; rw [if_neg c3]
          simp only [c3, decide_false, cond_false]
          rw [e1]
          exact fin _ (by rw [if_neg c3]) (by omega) (by omega)
  · cases hA
end Go.Proofs.YtnfjggagenmkjaaDoor
