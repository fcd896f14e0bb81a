/- The laws of layer 13, as plain functions: what is told stays, and turns. -/
import Derived.Test.YtffmgholjdfcnaaGreatDoorVNuQ
import Derived.Test.YtffmgholjdfcnaaGreatDoorVStT
import Derived.Test.YtffmgholjdfcnaaGreatDoorG9
set_option linter.unusedSimpArgs false
set_option linter.unusedVariables false
namespace Go.Proofs.YtffmgholjdfcnaaGreatDoor
open Go AM St Nu

variable {C : Nat → Env → (Env → Option Out) → Option Out}

/-! A moment's own text -/
theorem ofT_form {t : B} (h : (ofT t).2 = true) : ∃ a b c d r, t = a :: b :: c :: d :: 45 :: r ∧ dg a = true ∧ dg b = true ∧ dg c = true ∧ dg d = true := by
  unfold ofT at h
  cases hp : parse t with
  | none => rw [hp] at h; cases h
  | some p =>
    unfold parse at hp
    cases hn : num 4 4 t with
    | none => rw [hn] at hp; cases hp
    | some q =>
      obtain ⟨y, s1⟩ := q
      rw [hn] at hp
      simp only at hp
      have hn' := hn
      unfold num at hn'
      cases hs : sg [45] s1 with
      | none => rw [hs] at hp; cases hp
      | some z =>
        have h45 : ∃ r, s1 = 45 :: r := by
          cases s1 with
          | nil => cases hs
          | cons x r =>
            have hx : (match ([45] : B).contains x with | true => some (x, r) | false => none) = some z := hs
            cases hc : ([45] : B).contains x with
            | false => rw [hc] at hx; cases hx
            | true => exact ⟨r, by have : x = 45 := by simpa using hc
                                   rw [this]⟩
        obtain ⟨r, rfl⟩ := h45
        clear hs hp hn h
        match t with
        | [] => cases hn'
        | [a] => cases ha : dg a <;> simp [digs, ha] at hn'
        | [a, b] => cases ha : dg a <;> cases hb : dg b <;> simp [digs, ha, hb] at hn'
        | [a, b, c] => cases ha : dg a <;> cases hb : dg b <;> cases hc : dg c <;> simp [digs, ha, hb, hc] at hn'
        | a :: b :: c :: d :: l =>
          cases ha : dg a <;> cases hb : dg b <;> cases hc : dg c <;> cases hd : dg d <;> simp [digs, ha, hb, hc, hd] at hn'
          exact ⟨a, b, c, d, r, by rw [hn'.2], ha, hb, hc, hd⟩
theorem hexD_45 : decide (hexD 45 < 8) = false := by decide
theorem plain_time {t : B} (h : ofT t = (t, true)) : plainV 11 t = (tTime, t) := by
  obtain ⟨a, b, c, d, r, e, ha, hb, hc, hd⟩ := ofT_form (by rw [h])
  have h45 : dgU 45 = false := by decide
  have ht : tailU (b :: c :: d :: 45 :: r) = 45 :: r := by rw [tailU_yes (dg_dgU hb), tailU_yes (dg_dgU hc), tailU_yes (dg_dgU hd), tailU_no h45]
  have hu : unsign t = (false, t) := by rw [e]; exact unsign_dg ha _
  have h11 : (int11 t).2 = 0 := by
    rw [int11_form, hu, e]
    unfold form11
    cases h48 : a == 48 with
    | true =>
      have h8 : rowB 8 (b :: c :: d :: 45 :: r) = false := by
        unfold rowB
        have h1 : ((45 : UInt8) == 95 || decide (hexD 45 < 8)) = false := by decide
        simp only [List.all_cons, h1, Bool.false_and, Bool.and_false]
      simp only [h48, dg_not hb (x := 98) (by decide), dg_not hb (x := 120) (by decide), h8]
    | false =>
      simp only [h48, ha, ht]
      rw [sixties_no (by decide)]
  have hf : (fl11 t).2 = 0 := by
    unfold fl11
    have ho : odd (unsign t).2 (unsign t).1 (signed t) = none := by
      rw [hu, e]
      exact odd_dg (fun h => by rw [h] at ha; exact absurd ha (by decide)) _ _ _
    rw [ho, hu]
    simp only
    cases dw 46 t with
    | nil => rfl
    | cons y rest =>
      simp only
      cases tailE false (tailU rest) with
      | none => rfl
      | some exp =>
        have htw : tw 46 t = a :: b :: c :: d :: 45 :: tw 46 r := by rw [e, tw_miss (dg_46 ha), tw_miss (dg_46 hb), tw_miss (dg_46 hc), tw_miss (dg_46 hd), tw_miss (by decide)]
        rw [htw]
        have ht2 : tailU (b :: c :: d :: 45 :: tw 46 r) = 45 :: tw 46 r := by rw [tailU_yes (dg_dgU hb), tailU_yes (dg_dgU hc), tailU_yes (dg_dgU hd), tailU_no h45]
        simp only
        rw [ht2, sixties_no (by decide), Bool.and_false]
  have h1 : nulls.contains t = false := by rw [e]; exact noNull (dg_lt ha) _
  have h2 : boolW 11 t = (false, false) := by rw [e]; exact noWord (dg_lt ha) _ 11
  have h3 : numV 11 t = ((tTime, t), true) := by
    unfold numV intV flV
    have e11 : ((11 : Int) == 11) = true := rfl
    rw [e11]
    simp only
    rw [h11, hf, h]
    rfl
  unfold plainV
  rw [h1, h2, h3]

/-! What is told stays -/
theorem fl11_good {s : B} (hs : s.length ≤ 10000) (h : ((fl11 s).2 == 0) = false) : goodD (fl11 s).1 = true := by
  have hul := unsign_len s
  have hok := read11_ok (unsign s).1 (signed s) (unsign s).2
  rw [fl11_read] at h ⊢
  generalize read11 (unsign s).1 (signed s) (unsign s).2 = f at hok h
  obtain ⟨k, fneg, w, fr, ex⟩ := f
  simp only at hok
  unfold toFl at h ⊢
  rcases hok with h0 | h0 | h0 | ⟨h0, h1, hf⟩
  · subst h0; cases h
  · subst h0; cases (unsign s).1 <;> rfl
  · subst h0; rfl
  · obtain ⟨-, q2, q3, q4, q5, -⟩ := hf
    simp only at q2 q3 q4 q5
    have hwl := noU_len w
    have hfl := noU_len fr
    have hvl := valueF_len (noU w)
    have hk : (k == 0) = false ∧ (k == 4) = false ∧ (k == 5) = false := by rcases h0 with rfl | rfl | rfl <;> exact ⟨rfl, rfl, rfl⟩
    have hm : (makeD (unsign s).1 (valueF (noU w)) (noU fr) ex).2 = true := by
      unfold makeD
      rw [q2, q3]
      simp only [Bool.and_self]
      cases dropZ (Lib.trimRightB (valueF (noU w) ++ noU fr) 48) <;> rfl
    simp only [hk.1, hk.2.1, hk.2.2]
    exact (makeD_good (by omega) hm).1
theorem odd_good {t : B} {neg sgn : Bool} {d : De} (h : odd t neg sgn = some d) : goodD d = true := by
  unfold odd at h
  cases h1 : isInf t with
  | true => rw [h1] at h; simp only at h; cases h; cases neg <;> rfl
  | false =>
    rw [h1] at h
    simp only at h
    cases h2 : isNan t && !sgn with
    | true => rw [h2] at h; simp only at h; cases h; rfl
    | false => rw [h2] at h; cases h
theorem afterD_good {neg : Bool} {w f t : B} (hl : w.length + f.length ≤ 1000000) (h : (afterD neg w f t).2 = true) : goodD (afterD neg w f t).1 = true := by
  unfold afterD at h ⊢
  cases hte : tailE true t with
  | none => rw [hte] at h; cases h
  | some exp => rw [hte] at h; exact (makeD_good hl h).1
theorem fl12_good {s : B} (hs : s.length ≤ 10000) (h : (fl12 s).2 = true) : goodD (fl12 s).1 = true := by
  have hul := unsign_len s
  have htl := tD_le (unsign s).2
  have hdl := dD_le (unsign s).2
  rw [fl12_eq] at h ⊢
  cases ho : odd (unsign s).2 (unsign s).1 (signed s) with
  | some d => exact odd_good ho
  | none =>
    rw [ho] at h
    simp only at h ⊢
    cases hi : int12 s with
    | cons a b => rw [hi] at h; cases h
    | nil =>
      rw [hi] at h
      simp only at h ⊢
      cases hd : dD (unsign s).2 with
      | nil => rw [hd] at h; exact (makeD_good (by simp; omega) h).1
      | cons c l =>
        rw [hd] at h hdl
        simp only [List.length_cons] at hdl
        have h1 := tD_le l
        simp only at h ⊢
        cases hc : c == 46 with
        | true => rw [hc] at h; exact afterD_good (by omega) h
        | false => rw [hc] at h; exact afterD_good (by simp; omega) h
theorem plain_bool (b : Bool) (w : Int) : plainV w (boolT b) = (tBool, boolT b) := by cases b <;> rfl
/-- What a text is told as: of which kind it is, and that it is told so again. -/
theorem plain_cases (v : Int) {s : B} (hs : s.length ≤ 10000) : (plainV v s = (tStr, s) ∧ s ≠ []) ∨ (plainV v s = (tNull, []) ∧ s.length ≤ 4) ∨
    (∃ t x, plainV v s = (t, x) ∧ (t = tBool ∨ t = tInt ∨ t = tFloat) ∧ ∀ w, plainV w x = (t, x)) ∨ (∃ x, plainV v s = (tTime, x) ∧ v = 11 ∧ plainV 11 x = (tTime, x)) := by
  unfold plainV
  cases hn : nulls.contains s with
  | true =>
    refine .inr (.inl ⟨rfl, ?_⟩)
    have : ∀ x ∈ nulls, x.length ≤ 4 := by decide
    exact this s (List.contains_iff_mem.1 hn)
  | false =>
    cases hb : (boolW v s).2 with
    | true => exact .inr (.inr (.inl ⟨tBool, boolT (boolW v s).1, rfl, .inl rfl, fun w => plain_bool _ w⟩))
    | false =>
      cases hm : (numV v s).2 with
      | false =>
        refine .inl ⟨rfl, fun e => ?_⟩
        subst e
        cases hn
      | true =>
        simp only
        unfold numV at hm ⊢
        cases hi : (intV v s).2 with
        | true =>
          have hg : good (intV v s).1 = true := by
            unfold intV at hi ⊢
            cases hv : v == 11 with
            | true =>
              rw [hv] at hi
              simp only at hi ⊢
              exact int11_isgood (by simpa using hi)
            | false =>
              rw [hv] at hi
              simp only at hi ⊢
              exact int12_isgood (by simpa using hi)
          exact .inr (.inr (.inl ⟨tInt, _, rfl, .inr (.inl rfl), fun w => plain_good hg w⟩))
        | false =>
          rw [hi] at hm
          simp only at hm ⊢
          cases hf : (flV v s).2 with
          | true =>
            have hg : goodD (flV v s).1 = true := by
              unfold flV at hf ⊢
              cases hv : v == 11 with
              | true =>
                rw [hv] at hf
                simp only at hf ⊢
                exact fl11_good hs (by simpa using hf)
              | false =>
                rw [hv] at hf
                simp only at hf ⊢
                exact fl12_good hs hf
            exact .inr (.inr (.inl ⟨tFloat, _, rfl, .inr (.inr rfl), fun w => plain_goodD hg w⟩))
          | false =>
            rw [hf] at hm
            simp only at hm ⊢
            cases ht : v == 11 && (ofT s).2 with
            | false => rw [ht] at hm; cases hm
            | true =>
              rw [Bool.and_eq_true] at ht
              exact .inr (.inr (.inr ⟨_, rfl, eq_of_beq ht.1, plain_time (ofT_idem ht.2)⟩))
/-! How long what is told is -/
theorem value_len (s : B) : (value s).length ≤ 16 * s.length + 15 := by
  have hpl := parts_len s
  have hpe := parts_eq s
  have htw := tw_le 58 s
  unfold value
  cases hp : parts s with
  | nil => exact Nat.zero_le _
  | cons p ps =>
    rw [hp] at hpl hpe
    injection hpe with hpe _
    rw [← hpe] at htw
    have h1 := foldM_len ps (norm false p)
    have h2 := norm_len false p
    simp only [List.length_cons] at hpl
    unfold foldM at h1
    simp only
    omega
theorem rowN_len (neg : Bool) (b f : Int) (l : B) : (rowN neg b f l).1.length ≤ 14 * l.length + 2 := by
  unfold rowN
  cases rowB b l with
  | false => exact Nat.zero_le _
  | true =>
    have h1 := norm_len neg (baseN (noU l) b)
    have h2 := baseN_len (noU l) b
    have h3 := noU_len l
    simp only
    omega
theorem int11_len (s : B) : (int11 s).1.length ≤ 16 * s.length + 40 := by
  have hul := unsign_len s
  unfold int11
  cases ht : (unsign s).2 with
  | nil => exact Nat.zero_le _
  | cons c l =>
    rw [ht] at hul
    simp only [List.length_cons] at hul
    simp only
    cases c == 48 with
    | true =>
      cases l with
      | nil => simp
      | cons d l =>
        simp only [List.length_cons] at hul
        simp only
        cases d == 98 with
        | true => have := rowN_len (unsign s).1 2 1 l; simp only; omega
        | false =>
          cases d == 120 with
          | true => have := rowN_len (unsign s).1 16 2 l; simp only; omega
          | false => have := rowN_len (unsign s).1 8 3 (d :: l); simp only [List.length_cons] at this ⊢; omega
    | false =>
      have hn := noU_len (c :: l)
      simp only [List.length_cons] at hn
      simp only
      cases dg c with
      | false => exact Nat.zero_le _
      | true =>
        simp only
        cases tailU l with
        | nil => have := norm_len (unsign s).1 (noU (c :: l)); simp only; omega
        | cons x l' =>
          simp only
          cases sixties (x :: l') with
          | false => exact Nat.zero_le _
          | true =>
            have := norm_len (unsign s).1 (value (noU (c :: l)))
            have := value_len (noU (c :: l))
            simp only
            omega
theorem int12_len (s : B) : (int12 s).length ≤ 14 * s.length + 2 := by
  have hul := unsign_len s
  have hn := norm_len (unsign s).1 (unsign s).2
  unfold int12
  split
  · rename_i c d l
    have h8 := baseN_len l 8
    have h16 := baseN_len l 16
    simp only [List.length_cons] at hul ⊢
    cases c == 48 && d == 111 with
    | true => simp only; omega
    | false =>
      cases c == 48 && d == 120 with
      | true => simp only; omega
      | false => simp only; omega
  · omega
theorem fl11_len2 (s : B) : DeLen (17 * s.length + 60) (fl11 s).1 := by
  have hul := unsign_len s
  have hok := read11_ok (unsign s).1 (signed s) (unsign s).2
  rw [fl11_read]
  generalize read11 (unsign s).1 (signed s) (unsign s).2 = f at hok
  obtain ⟨k, fneg, w, fr, ex⟩ := f
  simp only at hok
  unfold toFl
  rcases hok with h0 | h0 | h0 | ⟨h0, h1, hf⟩
  · subst h0; exact ⟨Nat.zero_le _, Nat.zero_le _⟩
  · subst h0; exact ⟨Nat.zero_le _, Nat.zero_le _⟩
  · subst h0; exact ⟨Nat.zero_le _, Nat.zero_le _⟩
  · obtain ⟨-, -, -, q4, q5, q6⟩ := hf
    simp only at q4 q5 q6
    have hwl := noU_len w
    have hfl := noU_len fr
    have hvl := valueF_len (noU w)
    have hk : (k == 0) = false ∧ (k == 4) = false ∧ (k == 5) = false := by rcases h0 with rfl | rfl | rfl <;> exact ⟨rfl, rfl, rfl⟩
    have hm := makeD_len (unsign s).1 (w := valueF (noU w)) (f := noU fr) (e := ex)
    simp only [hk.1, hk.2.1, hk.2.2]
    exact ⟨by omega, by omega⟩
theorem fl12_len2 (s : B) : DeLen (17 * s.length + 60) (fl12 s).1 := by
  have hul := unsign_len s
  have htl := tD_le (unsign s).2
  have hdl := dD_le (unsign s).2
  rw [fl12_eq]
  cases ho : odd (unsign s).2 (unsign s).1 (signed s) with
  | some d => have := odd_len ho; exact ⟨Nat.le_trans this.1 (Nat.zero_le _), Nat.le_trans this.2 (Nat.zero_le _)⟩
  | none =>
    simp only
    cases int12 s with
    | cons a b => exact ⟨Nat.zero_le _, Nat.zero_le _⟩
    | nil =>
      simp only
      cases hd : dD (unsign s).2 with
      | nil =>
        have hm := makeD_len (unsign s).1 (w := tD (unsign s).2) (f := []) (e := [48])
        simp only [List.length_cons, List.length_nil] at hm
        exact ⟨Nat.le_trans hm.1 (by omega), Nat.le_trans hm.2 (by omega)⟩
      | cons c l =>
        rw [hd] at hdl
        simp only [List.length_cons] at hdl
        have h1 := tD_le l
        have h2 := dD_le l
        simp only
        cases c == 46 with
        | true =>
          have := afterD_len (unsign s).1 (w := tD (unsign s).2) (f := tD l) (t := dD l)
          exact ⟨Nat.le_trans this.1 (by omega), Nat.le_trans this.2 (by omega)⟩
        | false =>
          have := afterD_len (unsign s).1 (w := tD (unsign s).2) (f := []) (t := c :: l)
          simp only [List.length_cons, List.length_nil] at this
          exact ⟨Nat.le_trans this.1 (by omega), Nat.le_trans this.2 (by omega)⟩
theorem printD_len (d : De) : (printD d).length ≤ d.d.length + d.e.length + 8 := by
  have hs := sgB_len d.neg
  unfold printD
  split
  · exact Nat.zero_le _
  · split
    · simp <;> omega
    · split
      · simp <;> omega
      · split <;> (simp only [List.length_append, List.length_cons, List.length_nil]; omega)
theorem plainV_len (v : Int) (s : B) : (plainV v s).2.length ≤ 40 * s.length + 200 := by
  unfold plainV
  cases nulls.contains s with
  | true => exact Nat.zero_le _
  | false =>
    cases (boolW v s).2 with
    | true =>
      have : ∀ b, (boolT b).length ≤ 5 := by intro b; cases b <;> decide
      have := this (boolW v s).1
      simp only
      omega
    | false =>
      simp only
      cases hm : (numV v s).2 with
      | false => simp only; omega
      | true =>
        simp only
        unfold numV at hm ⊢
        have hi : (intV v s).1.length ≤ 16 * s.length + 40 := by
          unfold intV
          cases v == 11 with
          | true => exact int11_len s
          | false => have := int12_len s; simp only; omega
        have hf : DeLen (17 * s.length + 60) (flV v s).1 := by
          unfold flV
          cases v == 11 with
          | true => exact fl11_len2 s
          | false => exact fl12_len2 s
        cases (intV v s).2 with
        | true => simp only; omega
        | false =>
          simp only
          cases (flV v s).2 with
          | true =>
            have := printD_len (flV v s).1
            have h1 := hf.1
            have h2 := hf.2
            simp only
            omega
          | false =>
            simp only
            have := ofT_len s
            cases v == 11 && (ofT s).2 with
            | true => simp only; omega
            | false => exact Nat.zero_le _

/-! known, some, Version, one -/
theorem A16_ok {v : Int} {s : B} (h : s.length ≤ 10000) (K : Tk16) : A16 v s K = K (plainV v s).1 (plainV v s).2 := if_pos h
theorem A17_ok {v : Int} {s : B} (h : s.length ≤ 10000) (K : Tk17) : A17 v s K = K (plainV v s).1 (plainV v s).2 := if_pos h
theorem A18_ok {s : B} (h : s.length ≤ 10000) (K : Tk18) : A18 s K = K (plainV 11 s == plainV 12 s) := if_pos h
def A14 : Ty14 := fun K => K true
theorem eq14 (K : Tk14) : run14 C A16 A18 big K = K true := by
  have k1 : plainV 11 [121, 101, 115] = (tBool, [116, 114, 117, 101]) := by decide +kernel
  have k2 : plainV 12 [48, 111, 49, 55] = (tInt, [49, 53]) := by decide +kernel
  have k3 : plainV 12 [121, 101, 115] = (tStr, [121, 101, 115]) := by decide +kernel
  have k4 : plainV 11 [50, 48, 48, 49, 45, 48, 49, 45, 48, 49] = (tTime, [50, 48, 48, 49, 45, 48, 49, 45, 48, 49]) := by decide +kernel
  have k5 : plainV 11 [] = (tNull, []) := by decide +kernel
  have k6 : (plainV 11 [48, 49, 48] == plainV 12 [48, 49, 48]) = false := by decide +kernel
  have k7 : (plainV 11 [60, 60] == plainV 12 [60, 60]) = true := by decide +kernel
  rw [run14_eq, A16_ok (by decide), A16_ok (by decide), A16_ok (by decide), A16_ok (by decide), A16_ok (by decide), A18_ok (by decide), A18_ok (by decide), k1, k2, k3, k4, k5, k6, k7]
  rfl
def words24 : List B := [[121, 101, 115], [110, 111], [48], [49], [56], [48, 120], [48, 111], [48, 98], [95], [58], [46], [101], [69], [43], [45], [105, 110, 102], [110, 97, 110], [50, 48, 48, 49, 45, 48, 49, 45, 48, 49], [32], [84], [116, 114, 117, 101], [126], [60, 60], [120]]
def someT (l : List Int) : B := l.flatMap fun x => words24.getD (x.toNat % 24) []
theorem words24_len (n : Nat) : (words24.getD n []).length ≤ 10 := by
  rcases Nat.lt_or_ge n words24.length with h | h
  · have : ∀ x ∈ words24, x.length ≤ 10 := by decide
    rw [List.getD_eq_getElem?_getD, List.getElem?_eq_getElem h]
    exact this _ (List.getElem_mem h)
  · rw [List.getD_eq_getElem?_getD, List.getElem?_eq_none h]; simp
theorem someT_len (l : List Int) : (someT l).length ≤ 10 * l.length := by
  induction l with
  | nil => simp [someT]
  | cons x l ih =>
    unfold someT at ih ⊢
    rw [List.flatMap_cons, List.length_append, List.length_cons]
    have := words24_len (x.toNat % 24)
    omega
def A15 : Ty15 := fun l K => if (∀ x, x ∈ l → 0 ≤ x ∧ x ≤ 255) ∧ l.length ≤ 1000000 then K (someT l) else none
theorem loop15R (hC : ∀ key e t, C key e t = t e) (kk : Nat) (l : List Int) (hl : ∀ x, x ∈ l → 0 ≤ x ∧ x ≤ 255) (hn : l.length ≤ 1000000) (K : Tk15) : ∀ (m j p : Nat) (acc : B), l.length - p = m → m < j → p ≤ l.length → acc.length ≤ 10 * p →
    l1_15 C kk j l words24 acc (p : Int) K = K (acc ++ someT (l.drop p)) := by
  intro m
  induction m with
  | zero =>
    intro j p acc hm hj hp ha
    obtain ⟨j, rfl⟩ : ∃ i, j = i + 1 := ⟨j - 1, by omega⟩
    have h2 : l.drop p = [] := List.drop_eq_nil_of_le (by omega)
    rw [l1_15_eq _ hC, h2, decide_eq_false (by omega), cond_false]
    simp [someT]
  | succ m ih =>
    intro j p acc hm hj hp ha
    obtain ⟨j, rfl⟩ : ∃ i, j = i + 1 := ⟨j - 1, by omega⟩
    have hp' : p < l.length := by omega
    have hg : l[(p : Int).toNat]? = some l[p] := by rw [Int.toNat_natCast]; exact List.getElem?_eq_getElem hp'
    obtain ⟨x0, x1⟩ := hl l[p] (List.getElem_mem hp')
    have hb : (decide (0 ≤ (p : Int)) && decide ((p : Int) < (l.length : Int))) = true := by rw [decide_eq_true (by omega), decide_eq_true (by omega)]; rfl
    have hb2 : (decide (0 ≤ l[p] % 24) && decide (l[p] % 24 < 24)) = true := by rw [decide_eq_true (by omega), decide_eq_true (by omega)]; rfl
    have hw : words24[0 + (l[p] % 24).toNat]? = some (words24.getD (l[p].toNat % 24) []) := by
      have e : 0 + (l[p] % 24).toNat = l[p].toNat % 24 := by omega
      have hlt : l[p].toNat % 24 < words24.length := by show _ < 24; omega
      rw [e, List.getD_eq_getElem?_getD, List.getElem?_eq_getElem hlt]
      rfl
    have hwl := words24_len (l[p].toNat % 24)
    have e4 : IntKind.i64.wrap ((p : Int) + 1) = ((p + 1 : Nat) : Int) := by rw [i64_in (by omega) (by omega)]; omega
    rw [l1_15_eq _ hC, hb, decide_eq_true (by omega), cond_true, cond_true, hg, Option.bind_some, tmod_nn x0, hb2, cond_true, hw, Option.bind_some, cat_ok (by omega), Option.bind_some, e4, ih j (p + 1) _ (by omega) (by omega) (by omega) (by rw [List.length_append]; omega), List.append_assoc]
    have e5 : l.drop p = l[p] :: l.drop (p + 1) := List.drop_eq_getElem_cons hp'
    rw [e5]
    rfl
theorem eq15 (hC : ∀ key e t, C key e t = t e) (l : List Int) (K : Tk15) (r : Out) (h : A15 l K = some r) : run15 C big l K = some r := by
  unfold A15 at h
  split at h
  · rename_i hc
    have := loop15R hC big l hc.1 hc.2 K l.length big 0 [] rfl (by unfold big; omega) (by omega) (by simp)
    rw [run15_eq, ← h]
    exact this
  · cases h
def A19 : Ty19 := fun b K => K (if b then 11 else 12)
theorem eq19 (b : Bool) (K : Tk19) : run19 C big b K = A19 b K := by rw [run19_eq]; cases b <;> rfl
def A21 : Ty21 := fun s a x b y K => if s.length ≤ 10000 then K ((plainV 11 s == (a, x)) && (plainV 12 s == (b, y))) else none
theorem eq21 (s a x b y : B) (K : Tk21) (r : Out) (h : A21 s a x b y K = some r) : run21 C A16 big s a x b y K = some r := by
  unfold A21 at h
  split at h
  · rename_i hs
    rw [← h, run21_eq, A16_ok hs, A16_ok hs, Bool.and_true, Bool.and_true]
    have e1 : ∀ (p : B × B) (q r : B), (p == (q, r)) = ((p.1 == q) && (p.2 == r)) := fun p q r => rfl
    rw [e1, e1]
    cases ((plainV 11 s).1 == a) && ((plainV 11 s).2 == x) <;> rfl
  · cases h

/-! ResolveTells -/
def A3 : Ty3 := fun v s seed K => if (∀ x, x ∈ seed → 0 ≤ x ∧ x ≤ 255) then K true else none
theorem two_at (s t : B) : ([s, t] : List B)[(0 : Int).toNat]? = some s ∧ ([s, t] : List B)[(1 : Int).toNat]? = some t := ⟨rfl, rfl⟩
theorem step3 (hC : ∀ key e t, C key e t = t e) (kk j : Nat) {i' : Int} (v : Int) (l : List B) {i : Int} {x : B} (hi : 0 ≤ i ∧ i < 2) (hi' : i' = i + 1) (hl : l.length = 2) (hx : l[i.toNat]? = some x) (hxl : x.length ≤ 1000) (K : Tk3) :
    l2_3 C A14 A15 A16 A17 A18 kk (j + 1) v l 2 i K = l2_3 C A14 A15 A16 A17 A18 kk j v l 2 i' K := by
  subst hi'
  have hb : (decide (0 ≤ i) && decide (i < (l.length : Int))) = true := by rw [hl, decide_eq_true hi.1, decide_eq_true (show i < ((2 : Nat) : Int) by omega)]; rfl
  have e18 : ∀ k, A18 x k = k ((plainV 11 x).1 == (plainV 12 x).1 && (plainV 11 x).2 == (plainV 12 x).2) := fun k => A18_ok (by omega) k
  rw [l2_3_eq _ _ _ _ _ _ hC, decide_eq_true hi.2, cond_true, hb, cond_true, hx, Option.bind_some]
  simp only [A16_ok (show x.length ≤ 10000 by omega), A17_ok (show x.length ≤ 10000 by omega), e18, beq_self_eq_true, Bool.and_self, Bool.not_true, cond_false, Bool.and_true]
  rw [i64_in (by omega) (by omega)]
theorem eq3 (hC : ∀ key e t, C key e t = t e) (v : Int) (s : B) (seed : List Int) (K : Tk3) (r : Out) (h : A3 v s seed K = some r) : run3 C A14 A15 A16 A17 A18 big v s seed K = some r := by
  unfold A3 at h
  split at h
  · rename_i hb
    have e14 : ∀ k, A14 k = k true := fun k => rfl
    have hend : ∀ kk j l, l2_3 C A14 A15 A16 A17 A18 kk (j + 1) v l 2 2 K = K true := by
      intro kk j l
      rw [l2_3_eq _ _ _ _ _ _ hC, decide_eq_false (by decide), cond_false]
    rw [← h, run3_eq, e14]
    simp only [p1_3_eq _ _ _ _ _ _ hC, Bool.not_true, cond_false]
    by_cases h1 : (s.length : Int) > 60
    · rw [decide_eq_true h1]; rfl
    · by_cases h2 : (seed.length : Int) > 8
      · rw [decide_eq_false h1, decide_eq_true h2]; rfl
      · have hsl := someT_len seed
        have e15 : ∀ k, A15 seed k = k (someT seed) := fun k => if_pos ⟨hb, by omega⟩
        obtain ⟨m, hm⟩ : ∃ m, big = m + 3 := ⟨big - 3, by unfold big; omega⟩
        rw [decide_eq_false h1, decide_eq_false h2, cond_false, cond_false, e15]
        have key : ∀ kk, l2_3 C A14 A15 A16 A17 A18 kk (m + 3) v [s, someT seed] 2 0 K = K true := by
          intro kk
          rw [step3 hC kk (m + 2) (i' := 1) v _ (by decide) rfl rfl (two_at s _).1 (by omega), step3 hC kk (m + 1) (i' := 2) v _ (by decide) rfl rfl (two_at s _).2 (by omega), hend]
        rw [← hm] at key
        exact key big
  · cases h

/-! ResolveStays -/
def A4 : Ty4 := fun old s seed K => if (∀ x, x ∈ seed → 0 ≤ x ∧ x ≤ 255) then K true else none
theorem step4 (hC : ∀ key e t, C key e t = t e) (kk j : Nat) {i' : Int} (old : Bool) (l : List B) {i : Int} {x : B} (hi : 0 ≤ i ∧ i < 2) (hi' : i' = i + 1) (hl : l.length = 2) (hx : l[i.toNat]? = some x) (hxl : x.length ≤ 100) (K : Tk4) :
    l2_4 C A14 A15 A16 A18 A19 kk (j + 1) old (if old then 11 else 12) l 2 i K = l2_4 C A14 A15 A16 A18 A19 kk j old (if old then 11 else 12) l 2 i' K := by
  subst hi'
  have hVo : (if old then (11 : Int) else 12) = 11 → old = true := by cases old <;> decide
  generalize (if old then (11 : Int) else 12) = V at *
  have hb : (decide (0 ≤ i) && decide (i < (l.length : Int))) = true := by rw [hl, decide_eq_true hi.1, decide_eq_true (show i < ((2 : Nat) : Int) by omega)]; rfl
  have hp3 : p3_4 C A14 A15 A16 A18 A19 kk j old V l 2 i K = l2_4 C A14 A15 A16 A18 A19 kk j old V l 2 (i + 1) K := by
    rw [p3_4_eq _ _ _ _ _ _ hC, i64_in (by omega) (by omega)]
  have hlen := plainV_len V x
  rw [l2_4_eq _ _ _ _ _ _ hC, decide_eq_true hi.2, cond_true, hb, cond_true, hx, Option.bind_some, A16_ok (by omega)]
  simp only [p4_4_eq _ _ _ _ _ _ hC]
  rw [hp3]
  rcases plain_cases V (s := x) (by omega) with ⟨e, hne⟩ | ⟨e, hle⟩ | ⟨t, y, e, ht, hw⟩ | ⟨y, e, hv, hw⟩
  · have h1 : (tStr == ([116, 97, 103, 58, 121, 97, 109, 108, 46, 111, 114, 103, 44, 50, 48, 48, 50, 58, 115, 116, 114] : B)) = true := rfl
    have h2 : (x == ([] : B)) = false := by simpa using hne
    rw [e]
    simp only [h1, h2, cond_true, cond_false, beq_self_eq_true, Bool.not_true]
  · have h1 : (tNull == ([116, 97, 103, 58, 121, 97, 109, 108, 46, 111, 114, 103, 44, 50, 48, 48, 50, 58, 115, 116, 114] : B)) = false := rfl
    have h2 : (tNull == ([116, 97, 103, 58, 121, 97, 109, 108, 46, 111, 114, 103, 44, 50, 48, 48, 50, 58, 110, 117, 108, 108] : B)) = true := rfl
    have h3 : decide ((x.length : Int) > 4) = false := decide_eq_false (by omega)
    rw [e]
    simp only [h1, h2, h3, cond_true, cond_false, beq_self_eq_true, Bool.not_true]
  · rw [e] at hlen
    simp only at hlen
    have hy : y.length ≤ 10000 := by omega
    have h18 : ∀ k, A18 y k = k true := by
      intro k
      rw [A18_ok hy, hw, hw, beq_self_eq_true]
    rw [e]
    simp only [A16_ok hy, hw, h18, beq_self_eq_true, Bool.and_self, Bool.and_true, Bool.not_true, cond_true, cond_false]
    rcases ht with rfl | rfl | rfl <;> rfl
  · have ho := hVo hv
    subst ho
    subst hv
    rw [e] at hlen
    simp only at hlen
    have hy : y.length ≤ 10000 := by omega
    rw [e]
    simp only [A16_ok hy, hw, beq_self_eq_true, Bool.and_self, Bool.and_true, Bool.not_true, cond_true, cond_false]
    rfl
theorem eq4 (hC : ∀ key e t, C key e t = t e) (old : Bool) (s : B) (seed : List Int) (K : Tk4) (r : Out) (h : A4 old s seed K = some r) : run4 C A14 A15 A16 A18 A19 big old s seed K = some r := by
  unfold A4 at h
  split at h
  · rename_i hb
    have e14 : ∀ k, A14 k = k true := fun k => rfl
    have e19 : ∀ k, A19 old k = k (if old then 11 else 12) := fun k => rfl
    have hend : ∀ kk j l, l2_4 C A14 A15 A16 A18 A19 kk (j + 1) old (if old then 11 else 12) l 2 2 K = K true := by
      intro kk j l
      rw [l2_4_eq _ _ _ _ _ _ hC, decide_eq_false (by decide), cond_false]
    rw [← h, run4_eq, e14]
    simp only [p1_4_eq _ _ _ _ _ _ hC, Bool.not_true, cond_false]
    by_cases h1 : (s.length : Int) > 60
    · rw [decide_eq_true h1]; rfl
    · by_cases h2 : (seed.length : Int) > 8
      · rw [decide_eq_false h1, decide_eq_true h2]; rfl
      · have hsl := someT_len seed
        have e15 : ∀ k, A15 seed k = k (someT seed) := fun k => if_pos ⟨hb, by omega⟩
        obtain ⟨m, hm⟩ : ∃ m, big = m + 3 := ⟨big - 3, by unfold big; omega⟩
        rw [decide_eq_false h1, decide_eq_false h2, cond_false, cond_false, e19, e15]
        have key : ∀ kk, l2_4 C A14 A15 A16 A18 A19 kk (m + 3) old (if old then 11 else 12) [s, someT seed] 2 0 K = K true := by
          intro kk
          rw [step4 hC kk (m + 2) (i' := 1) old _ (by decide) rfl rfl (two_at s _).1 (by omega), step4 hC kk (m + 1) (i' := 2) old _ (by decide) rfl rfl (two_at s _).2 (by omega), hend]
        rw [← hm] at key
        exact key big
  · cases h
end Go.Proofs.YtffmgholjdfcnaaGreatDoor
