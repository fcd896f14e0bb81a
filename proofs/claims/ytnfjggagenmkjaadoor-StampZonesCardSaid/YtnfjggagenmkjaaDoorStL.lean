/- What the laws of moments tell: known, StampTells, StampBack. -/
import Derived.Test.YtnfjggagenmkjaaDoorStT
import Derived.Test.YtnfjggagenmkjaaDoorStH
import Derived.Test.YtnfjggagenmkjaaDoorFE
set_option linter.unusedSimpArgs false
set_option linter.unusedVariables false
namespace Go.Proofs.YtnfjggagenmkjaaDoor
open Go AM St

variable {C : Nat → Env → (Env → Option Out) → Option Out}
theorem A9_ok {s : B} {K : Tk9} (h : s.length ≤ 1099511627776) : A9 s K = K (ofT s).1 (ofT s).2 := if_pos h
theorem A15_ok {s : B} {K : Tk15} (h : s.length ≤ 1099511627776) : A15 s K = K (ofT s).1 (ofT s).2 := if_pos h
theorem A16_ok {s : B} {K : Tk16} (h : s.length ≤ 1099511627776) : A16 s K = K (ofT s).2 := if_pos h
def A8 : Ty8 := fun K => K true
theorem k1 : ofT [50, 48, 48, 49, 45, 49, 45, 49] = ([], false) := by decide +kernel
theorem k2 : ofT [50, 48, 48, 49, 45, 48, 49, 45, 48, 49] = ([50, 48, 48, 49, 45, 48, 49, 45, 48, 49], true) := by decide +kernel
theorem k3 : ofT [50, 48, 48, 49, 45, 49, 45, 49, 32, 48, 58, 48, 48, 58, 48, 48, 32, 43, 49] = ([50, 48, 48, 48, 45, 49, 50, 45, 51, 49, 84, 50, 51, 58, 48, 48, 58, 48, 48, 90], true) := by decide +kernel
theorem k4 : ofT [50, 48, 48, 48, 45, 48, 50, 45, 50, 57, 116, 50, 51, 58, 53, 57, 58, 53, 57, 46, 49, 50, 48, 48, 45, 48, 58, 51, 48] = ([50, 48, 48, 48, 45, 48, 51, 45, 48, 49, 84, 48, 48, 58, 50, 57, 58, 53, 57, 46, 49, 50, 90], true) := by decide +kernel
theorem k5 : ofT [49, 57, 48, 48, 45, 48, 50, 45, 50, 57] = ([], false) := by decide +kernel
theorem k6 : ofT [48, 48, 48, 48, 45, 48, 49, 45, 48, 49, 32, 48, 58, 48, 48, 58, 48, 48, 32, 43, 48, 58, 48, 49] = ([], false) := by decide +kernel
theorem eq8 (K : Tk8) : run8 C A9 A11 big K = K true := by
  rw [run8_eq, A9_ok (by decide), A9_ok (by decide), A9_ok (by decide), A9_ok (by decide), A9_ok (by decide), A9_ok (by decide), k1, k2, k3, k4, k5, k6]
  have d1 : days 2000 2 = 29 := by decide
  have d2 : days 1 13 = 0 := by decide
  simp only [A11, d1, d2]
  rfl

/-! StampTells -/
def signs : B := [48, 49, 50, 51, 52, 53, 54, 55, 56, 57, 45, 58, 84, 32, 116, 90, 43, 46, 9]
def Bytes (l : List Int) : Prop := ∀ x, x ∈ l → 0 ≤ x ∧ x ≤ 255
def momT (l : List Int) : B := l.flatMap fun x => (signs.drop (x.toNat % 19)).take 1
theorem momT_len (l : List Int) : (momT l).length ≤ l.length := by
  induction l with
  | nil => simp [momT]
  | cons x l ih =>
    unfold momT at ih ⊢
    rw [List.flatMap_cons, List.length_append, List.length_cons]
    have : ((signs.drop (x.toNat % 19)).take 1).length ≤ 1 := by simp; omega
    omega
def A14 : Ty14 := fun l K => if (∀ x, x ∈ l → 0 ≤ x ∧ x ≤ 255) ∧ l.length ≤ 1000000 then K (momT l) else none
theorem loop14 (hC : ∀ key e t, C key e t = t e) (kk : Nat) (l : List Int) (hl : ∀ x, x ∈ l → 0 ≤ x ∧ x ≤ 255) (hn : l.length ≤ 1000000) (K : Tk14) : ∀ (m j p : Nat) (acc : B), l.length - p = m → m < j → p ≤ l.length → acc.length ≤ p →
    l1_14 C kk j l acc (p : Int) K = K (acc ++ momT (l.drop p)) := by
  intro m
  induction m with
  | zero =>
    intro j p acc hm hj hp ha
    obtain ⟨j, rfl⟩ : ∃ i, j = i + 1 := ⟨j - 1, by omega⟩
    have h1 : ¬ (p : Int) < (l.length : Int) := by omega
    have h2 : l.drop p = [] := List.drop_eq_nil_of_le (by omega)
    rw [l1_14_eq _ hC, h2]
    simp only [h1, decide_false, cond_false]
    simp [momT]
  | succ m ih =>
    intro j p acc hm hj hp ha
    obtain ⟨j, rfl⟩ : ∃ i, j = i + 1 := ⟨j - 1, by omega⟩
    have h1 : (p : Int) < (l.length : Int) := by omega
    have h0 : (0 : Int) ≤ (p : Int) := by omega
    have hp' : p < l.length := by omega
    have hg : l[(p : Int).toNat]? = some l[p] := by rw [Int.toNat_natCast]; exact List.getElem?_eq_getElem hp'
    obtain ⟨x0, x1⟩ := hl l[p] (List.getElem_mem hp')
    rw [l1_14_eq _ hC]
    simp only [h1, h0, decide_true, cond_true, Bool.and_self, hg, Option.bind_some]
    rw [i64_in (n := l[p]) (by omega) (by omega), tmod_nn x0, i64_in (n := l[p] % 19 + 1) (by omega) (by omega), i64_in (n := (p : Int) + 1) (by omega) (by omega)]
    have e1 : l[p] % 19 = ((l[p].toNat % 19 : Nat) : Int) := by omega
    have e2 : l[p] % 19 + 1 = ((l[p].toNat % 19 + 1 : Nat) : Int) := by omega
    have hc := cut_both signs (l[p].toNat % 19) (l[p].toNat % 19 + 1) (by omega) (by simp [signs]; omega)
    unfold signs at hc
    rw [e2, e1, hc, Option.bind_some]
    have e3 : ((([48, 49, 50, 51, 52, 53, 54, 55, 56, 57, 45, 58, 84, 32, 116, 90, 43, 46, 9] : B).take (l[p].toNat % 19 + 1)).drop (l[p].toNat % 19)) = (signs.drop (l[p].toNat % 19)).take 1 := by
      rw [List.drop_take]
      congr 1
      omega
    rw [e3]
    have hlen : ((signs.drop (l[p].toNat % 19)).take 1).length ≤ 1 := by simp; omega
    rw [cat_ok (by omega), Option.bind_some]
    have e4 : (p : Int) + 1 = ((p + 1 : Nat) : Int) := by omega
    rw [e4, ih j (p + 1) _ (by omega) (by omega) (by omega) (by rw [List.length_append]; omega), List.append_assoc]
    have e5 : l.drop p = l[p] :: l.drop (p + 1) := List.drop_eq_getElem_cons hp'
    rw [e5]
    rfl
theorem eq14 (hC : ∀ key e t, C key e t = t e) (l : List Int) (K : Tk14) (r : Out) (h : A14 l K = some r) : run14 C big l K = some r := by
  unfold A14 at h
  split at h
  · rename_i hc
    have := loop14 hC big l hc.1 hc.2 K l.length big 0 [] rfl (big_gt (by omega)) (by omega) (by simp)
    rw [run14_eq]
    have e0 : ((0 : Nat) : Int) = 0 := rfl
    rw [e0] at this
    rw [this, ← h]
    simp
  · cases h
def A6 : Ty6 := fun s seed y m K => if (∀ x, x ∈ seed → 0 ≤ x ∧ x ≤ 255) then K true else none
theorem loop6 (hC : ∀ key e t, C key e t = t e) (kk : Nat) (y m : Int) (l : List B) (hl : ∀ x, x ∈ l → x.length ≤ 1000000) (hn : l.length ≤ 1000000) (K : Tk6) : ∀ (n j p : Nat), l.length - p = n → n < j → p ≤ l.length →
    l2_6 C A8 A9 A11 A12 A14 A15 A16 kk j y m l (l.length : Int) (p : Int) K = K true := by
  intro n
  induction n with
  | zero =>
    intro j p hm hj hp
    obtain ⟨j, rfl⟩ : ∃ i, j = i + 1 := ⟨j - 1, by omega⟩
    have h1 : ¬ (p : Int) < (l.length : Int) := by omega
    rw [l2_6_eq _ _ _ _ _ _ _ _ hC]
    simp only [h1, decide_false, cond_false, A11, A12, beq_self_eq_true, cond_true]
  | succ n ih =>
    intro j p hm hj hp
    obtain ⟨j, rfl⟩ : ∃ i, j = i + 1 := ⟨j - 1, by omega⟩
    have h1 : (p : Int) < (l.length : Int) := by omega
    have h0 : (0 : Int) ≤ (p : Int) := by omega
    have hp' : p < l.length := by omega
    have hg : l[(p : Int).toNat]? = some l[p] := by rw [Int.toNat_natCast]; exact List.getElem?_eq_getElem hp'
    have hx := hl l[p] (List.getElem_mem hp')
    rw [l2_6_eq _ _ _ _ _ _ _ _ hC]
    simp only [h1, h0, decide_true, cond_true, Bool.and_self, hg, Option.bind_some]
    rw [A9_ok (by omega), A15_ok (by omega)]
    simp only [beq_self_eq_true, Bool.not_true, cond_false]
    rw [A16_ok (by omega)]
    simp only [beq_self_eq_true, Bool.not_true, cond_false]
    rw [i64_in (by omega) (by omega)]
    have e4 : (p : Int) + 1 = ((p + 1 : Nat) : Int) := by omega
    rw [e4]
    exact ih j (p + 1) (by omega) (by omega) (by omega)
theorem eq6 (hC : ∀ key e t, C key e t = t e) (s : B) (seed : List Int) (y m : Int) (K : Tk6) (r : Out) (h : A6 s seed y m K = some r) : run6 C A8 A9 A11 A12 A14 A15 A16 big s seed y m K = some r := by
  unfold A6 at h
  split at h
  · rename_i hb
    rw [run6_eq, ← h]
    simp only [A8, Bool.not_true, cond_false]
    simp only [p1_6_eq _ _ _ _ _ _ _ _ hC]
    by_cases h1 : (s.length : Int) > 60
    · simp only [h1, decide_true, cond_true]
    · simp only [h1, decide_false, cond_false]
      by_cases h2 : (seed.length : Int) > 40
      · simp only [h2, decide_true, cond_true]
      · simp only [h2, decide_false, cond_false]
        have hm := momT_len seed
        have e14 : ∀ K : Tk14, A14 seed K = K (momT seed) := fun K => if_pos ⟨hb, by omega⟩
        rw [e14]
        rw [cat_ok (by simp; omega), Option.bind_some, cat_ok (by simp; omega), Option.bind_some, cat_ok (by simp; omega), Option.bind_some, cat_ok (by simp; omega), Option.bind_some, cat_ok (by simp; omega), Option.bind_some]
        refine loop6 hC big y m _ ?_ (by simp) K 7 big 0 rfl (big_gt (by omega)) (by omega)
        intro x hx
        simp only [List.mem_cons, List.not_mem_nil, or_false] at hx
        rcases hx with rfl | rfl | rfl | rfl | rfl | rfl | rfl <;> (try simp) <;> omega
  · cases h

/-! StampBack -/
theorem A10_ok {n : Int} {K : Tk10} (h0 : 0 ≤ n) (h1 : n ≤ 9223372036854775807) : A10 n K = K (w2 n) := if_pos ⟨h0, h1⟩
theorem w4_back (y : Int) (h0 : 0 ≤ y) : w2 (y / 100) ++ w2 y = w4 y := by
  unfold w2 w4
  have a1 : y / 100 / 10 % 10 = y / 1000 % 10 := by omega
  rw [a1]
  rfl
def A3 : Ty3 := fun s y m d K => if 0 ≤ y ∧ y ≤ 65535 ∧ 0 ≤ m ∧ m ≤ 255 ∧ 0 ≤ d ∧ d ≤ 255 then K true else none
theorem p2_3_ok (hC : ∀ key e t, C key e t = t e) (kk : Nat) {y m d : Int} (y0 : 0 ≤ y) (y1 : y ≤ 65535) (m0 : 0 ≤ m) (m1 : m ≤ 255) (d0 : 0 ≤ d) (d1 : d ≤ 255) (K : Tk3) : p2_3 C A8 A9 A10 A11 kk y m d K = K true := by
  rw [p2_3_eq _ _ _ _ _ hC, tmod_nn y0, tmod_nn m0, tmod_nn d0]
  rw [i64_in (n := y % 10000) (by omega) (by omega), i64_in (n := m % 14) (by omega) (by omega), i64_in (n := d % 34) (by omega) (by omega), tdiv_nn (by omega), i64_in (n := y % 10000 / 100) (by omega) (by omega)]
  obtain ⟨Y, hY⟩ : ∃ Y, y % 10000 = Y := ⟨_, rfl⟩
  obtain ⟨M, hM⟩ : ∃ M, m % 14 = M := ⟨_, rfl⟩
  obtain ⟨D, hD⟩ : ∃ D, d % 34 = D := ⟨_, rfl⟩
  have bY : 0 ≤ Y ∧ Y ≤ 9999 := by omega
  have bM : 0 ≤ M ∧ M ≤ 13 := by omega
  have bD : 0 ≤ D ∧ D ≤ 33 := by omega
  rw [hY, hM, hD]
  clear hY hM hD y0 y1 m0 m1 d0 d1
  rw [A10_ok (by omega) (by omega), A10_ok (by omega) (by omega), cat_ok (by simp [w2_len]), Option.bind_some, w4_back Y bY.1, cat_ok (by simp [w4_len]), Option.bind_some, A10_ok (by omega) (by omega), cat_ok (by simp [w4_len, w2_len]), Option.bind_some,
    cat_ok (by simp [w4_len, w2_len]), Option.bind_some, A10_ok (by omega) (by omega), cat_ok (by simp [w4_len, w2_len]), Option.bind_some]
  have et : w4 Y ++ [45] ++ w2 M ++ [45] ++ w2 D = dayB Y M D [] := by simp [dayB]
  rw [et]
  have hlen : (dayB Y M D []).length = 10 := by simp [dayB, w4_len, w2_len]
  rw [A9_ok (by omega), cut_to (dayB Y M D []) 9 9 rfl (by omega), Option.bind_some, A9_ok (by simp; omega), ofT_short bY.1 bY.2 bM.1 (by omega), ofT_day bY.1 bY.2 bM.1 (by omega) bD.1 (by omega)]
  simp only [A11, ge_iff_le]
  by_cases c1 : 1 ≤ D
  · by_cases c2 : D ≤ days Y M
    · simp [c1, c2]
    · simp [c1, c2]
  · simp [c1]
theorem eq3 (hC : ∀ key e t, C key e t = t e) (s : B) (y m d : Int) (K : Tk3) (r : Out) (h : A3 s y m d K = some r) : run3 C A8 A9 A10 A11 big s y m d K = some r := by
  unfold A3 at h
  split at h
  · rename_i hc
    obtain ⟨y0, y1, m0, m1, d0, d1⟩ := hc
    rw [run3_eq, ← h]
    simp only [A8, Bool.not_true, cond_false, p1_3_eq _ _ _ _ _ hC, p2_3_ok hC big y0 y1 m0 m1 d0 d1 K]
    by_cases h1 : (s.length : Int) > 60
    · simp only [h1, decide_true, cond_true]
    · simp only [h1, decide_false, cond_false]
      rw [A9_ok (by omega)]
      cases h2 : (ofT s).2 with
      | false => rfl
      | true =>
        have := ofT_len s
        simp only [cond_true]
        rw [A9_ok (by omega), ofT_idem h2]
        simp
  · cases h
end Go.Proofs.YtnfjggagenmkjaaDoor
