/- What the laws of moments tell: StampDays, StampParts. -/
import Derived.Test.YtnfjggagenmkjaaDoorStM
set_option linter.unusedSimpArgs false
set_option linter.unusedVariables false
namespace Go.Proofs.YtnfjggagenmkjaaDoor
open Go AM St

variable {C : Nat → Env → (Env → Option Out) → Option Out}
theorem days_400 {y i : Int} (hy : 0 ≤ y) : days (y + 400) i = days y i := by
  unfold days
  have e1 : (y + 400) % 4 = y % 4 := by omega
  have e2 : (y + 400) % 100 = y % 100 := by omega
  have e3 : (y + 400) % 400 = y % 400 := by omega
  rw [e1, e2, e3]
  by_cases h : i < 1 ∨ i > 12
  · have h1 : y + 400 < 0 ∨ i < 1 ∨ i > 12 := .inr h
    have h2 : y < 0 ∨ i < 1 ∨ i > 12 := .inr h
    rw [if_pos h1, if_pos h2]
  · have h1 : ¬ (y + 400 < 0 ∨ i < 1 ∨ i > 12) := by omega
    have h2 : ¬ (y < 0 ∨ i < 1 ∨ i > 12) := by omega
    rw [if_neg h1, if_neg h2]
def lp (y : Int) : Int := days y 2 - 28
theorem days_list {y : Int} (hy : 0 ≤ y) : days y 1 = 31 ∧ days y 2 = 28 + lp y ∧ days y 3 = 31 ∧ days y 4 = 30 ∧ days y 5 = 31 ∧ days y 6 = 30 ∧ days y 7 = 31 ∧ days y 8 = 31 ∧ days y 9 = 30 ∧ days y 10 = 31 ∧ days y 11 = 30 ∧ days y 12 = 31 := by
  have h : ¬ y < 0 := by omega
  refine ⟨?_, by unfold lp; omega, ?_⟩
  · simp [days, h]
  · simp [days, h]
theorem lp_bd {y : Int} (hy : 0 ≤ y) : lp y = 0 ∨ lp y = 1 := by
  have h : ¬ y < 0 := by omega
  have e : days y 2 = if y % 4 = 0 ∧ (y % 100 ≠ 0 ∨ y % 400 = 0) then 29 else 28 := by
    unfold days
    rw [if_neg (by omega), if_pos rfl]
  unfold lp
  rw [e]
  split <;> omega

/-! StampDays -/
def A5 : Ty5 := fun y m t K => if 0 ≤ y ∧ y ≤ 65535 ∧ 0 ≤ m ∧ m ≤ 255 ∧ 0 ≤ t ∧ t ≤ 255 then K true else none
theorem l1_5_step (hC : ∀ key e t, C key e t = t e) (kk j : Nat) (t Y M n i : Int) (K : Tk5) (hY : 0 ≤ Y ∧ Y ≤ 9998) (hn : 0 ≤ n ∧ n ≤ 1000) (hi : 1 ≤ i ∧ i ≤ 12) :
    l1_5 C A8 A9 A10 A11 kk (j + 1) t Y M n i K = l1_5 C A8 A9 A10 A11 kk j t Y M (n + days Y i) (i + 1) K := by
  have b1 := days_bd Y i
  have b2 := days_pos hY.1 hi.1 hi.2
  have c1 : i ≤ 12 := hi.2
  have c2 : ¬ days Y i < 28 := by omega
  have c3 : ¬ days Y i > 31 := by omega
  rw [l1_5_eq _ _ _ _ _ hC, i64_in (n := Y + 400) (by omega) (by omega)]
  simp only [c1, decide_true, cond_true, A11, c2, c3, decide_false, cond_false, days_400 hY.1]
  have c4 : (days Y i != days Y i) = false := by simp
  rw [c4, cond_false, i64_in (by omega) (by omega), i64_in (by omega) (by omega)]
theorem p2_5_ok (hC : ∀ key e t, C key e t = t e) (kk : Nat) {t Y M : Int} (ht : 0 ≤ t ∧ t ≤ 255) (hY : 0 ≤ Y ∧ Y ≤ 9998) (hM : 1 ≤ M ∧ M ≤ 12) (K : Tk5) : p2_5 C A8 A9 A10 A11 kk t Y M false K = K true := by
  rw [p2_5_eq _ _ _ _ _ hC]
  simp only [cond_false, A11]
  rw [tdiv_nn hY.1, tdiv_nn (by omega : 0 ≤ M), tmod_nn (by omega : 0 ≤ M), tmod_nn ht.1, i64_in (n := Y / 100) (by omega) (by omega), i64_in (n := M / 12) (by omega) (by omega), i64_in (n := Y + M / 12) (by omega) (by omega), tdiv_nn (by omega), i64_in (n := (Y + M / 12) / 100) (by omega) (by omega),
    i64_in (n := M % 12 + 1) (by omega) (by omega), i64_in (n := t % 59) (by omega) (by omega), i64_in (n := 1 + t % 59) (by omega) (by omega), i64_in (n := 1 + t % 59 - 1) (by omega) (by omega), i64_in (n := 60 - (1 + t % 59)) (by omega) (by omega)]
  obtain ⟨L, hL⟩ : ∃ L, 1 + t % 59 = L := ⟨_, rfl⟩
  obtain ⟨Y2, hY2⟩ : ∃ Y2, Y + M / 12 = Y2 := ⟨_, rfl⟩
  obtain ⟨M2, hM2⟩ : ∃ M2, M % 12 + 1 = M2 := ⟨_, rfl⟩
  rw [hL, hY2, hM2]
  have bL : 1 ≤ L ∧ L ≤ 59 := by omega
  have db := days_bd Y M
  have dp := days_pos hY.1 hM.1 hM.2
  have bY2 : 0 ≤ Y2 ∧ Y2 ≤ 9999 := by omega
  have bM2 : 1 ≤ M2 ∧ M2 ≤ 12 := by omega
  have dp2 := days_pos bY2.1 bM2.1 bM2.2
  have hd : DayOk Y M (days Y M) := ⟨by omega, by omega, hM.1, hM.2, by omega, by omega⟩
  have hd2 : DayOk Y2 M2 1 := ⟨bY2.1, bY2.2, bM2.1, bM2.2, by omega, by omega⟩
  have a1 : adj Y M (days Y M + 1) (L - 1) = (Y2, M2, 1, L - 1) := by
    unfold adj
    rw [if_pos (by omega)]
    by_cases h : M + 1 > 12
    · rw [if_pos h]
      have e1 : Y + 1 = Y2 := by omega
      have e2 : (1 : Int) = M2 := by omega
      rw [e1, ← e2]
    · rw [if_neg h]
      have e1 : Y = Y2 := by omega
      have e2 : M + 1 = M2 := by omega
      rw [← e1, e2]
  have a2 : adj Y2 M2 0 (1440 - L) = (Y, M, days Y M, 1440 - L) := by
    unfold adj
    rw [if_neg (by omega), if_pos (by omega)]
    by_cases h : M2 - 1 < 1
    · rw [if_pos h]
      have e1 : Y2 - 1 = Y := by omega
      have e2 : (12 : Int) = M := by omega
      rw [e1, ← e2]
    · rw [if_neg h]
      have e1 : Y2 = Y := by omega
      have e2 : M2 - 1 = M := by omega
      rw [e1, e2]
  have dayApp : ∀ (y m d : Int) (l l' : B), dayB y m d l ++ l' = dayB y m d (l ++ l') := by intro y m d l l'; simp [dayB]
  have hdl : ∀ (y m d : Int), (dayB y m d []).length = 10 := by intro y m d; simp [dayB, w2_len, w4_len]
  clear hL hY2 hM2
  -- last
  rw [A10_o (by omega) (by omega), A10_o (by omega) (by omega), cat_ok (by simp [w2_len]), Option.bind_some, cat_ok (by simp [w2_len]), Option.bind_some, A10_o (by omega) (by omega), cat_ok (by simp [w2_len]), Option.bind_some, cat_ok (by simp [w2_len]), Option.bind_some, A10_o (by omega) (by omega), cat_ok (by simp [w2_len]), Option.bind_some, dayB_of Y M (days Y M) hY.1]
  -- next
  rw [A10_o (by omega) (by omega), A10_o (by omega) (by omega), cat_ok (by simp [w2_len]), Option.bind_some, cat_ok (by simp [w2_len]), Option.bind_some, A10_o (by omega) (by omega), cat_ok (by simp [w2_len]), Option.bind_some, cat_ok (by simp [w2_len]), Option.bind_some, A10_o (by omega) (by omega), cat_ok (by simp [w2_len]), Option.bind_some, cat_ok (by simp [w2_len]), Option.bind_some]
  have en : w2 (Y2 / 100) ++ w2 Y2 ++ [45] ++ w2 M2 ++ [45, 48, 49, 84, 48, 48, 58] ++ w2 (L - 1) ++ [58, 48, 48, 90] = text (Y2, M2, 1, L - 1) 0 [] := by
    rw [w4_back Y2 bY2.1, text_eq]
    have e1 : (L - 1) / 60 = 0 := by omega
    have e2 : (L - 1) % 60 = L - 1 := by omega
    simp only [e1, e2]
    have w0 : w2 0 = [48, 48] := rfl
    have w1 : w2 1 = [48, 49] := rfl
    simp [dayB, clockB, frB, w0, w1]
  rw [en]
  have hnl : (text (Y2, M2, 1, L - 1) 0 []).length ≤ 21 := text_len _ _ _
  -- the first text
  rw [cat_ok (by rw [hdl]; simp), Option.bind_some, A10_o (by omega) (by omega), cat_ok (by simp [hdl, w2_len]), Option.bind_some, A9_ok (by simp [hdl, w2_len])]
  have e1 : ofT (dayB Y M (days Y M) [] ++ [32, 50, 51, 58, 53, 57, 58, 48, 48, 32, 45, 48, 58] ++ w2 L) = (text (Y2, M2, 1, L - 1) 0 [], true) := by
    have ee : dayB Y M (days Y M) [] ++ [32, 50, 51, 58, 53, 57, 58, 48, 48, 32, 45, 48, 58] ++ w2 L = dayB Y M (days Y M) (gapB 0 ++ clockB 23 59 0 (32 :: 45 :: 48 :: 58 :: (w2 L ++ []))) := by
      have w0 : w2 0 = [48, 48] := rfl
      have w1 : w2 23 = [50, 51] := rfl
      have w2' : w2 59 = [53, 57] := rfl
      simp [dayApp, clockB, gapB, w0, w1, w2']
    have hz : zoneE (32 :: 45 :: 48 :: 58 :: (w2 L ++ [])) = some (-L) := by
      have hn : num 1 2 (48 :: 58 :: (w2 L ++ [])) = some (0, 58 :: (w2 L ++ [])) := rfl
      have hzz : zone (48 :: 58 :: (w2 L ++ [])) = some (L, []) := by
        unfold zone
        rw [hn]
        simp only [sg_one]
        rw [num_w2 (by omega) (by omega) (by omega)]
        have e : (decide ((0 : Int) ≤ 23) && decide (L ≤ 59)) = true := by rw [decide_eq_true (by omega : L ≤ 59)]; rfl
        simp only [e]
        congr 2
        omega
      have h1 : behind [32, 9] (32 :: 45 :: 48 :: 58 :: (w2 L ++ [])) = 45 :: 48 :: 58 :: (w2 L ++ []) := rfl
      unfold zoneE
      simp only
      rw [h1]
      have h2 : sg [90] (45 :: 48 :: 58 :: (w2 L ++ [])) = none := rfl
      have h3 : sg [43, 45] (45 :: 48 :: 58 :: (w2 L ++ [])) = some (45, 48 :: 58 :: (w2 L ++ [])) := rfl
      rw [h2, h3]
      simp only
      rw [hzz]
      rfl
    rw [ee, ofT_time (fr := []) (l' := 32 :: 45 :: 48 :: 58 :: (w2 L ++ [])) hd (by omega) (by omega) (by omega) (by omega) (by omega) (by omega) (by simp [gapB]) (gap_blank (by omega) (by omega) 0 _) rfl hz]
    have ep : putM ⟨Y, M, days Y M, 23, 59, 0, [], -L⟩ = (Y2, M2, 1, L - 1) := by
      unfold putM
      simp only
      rw [if_neg (by omega), if_pos (by omega), show (60 * 23 + 59 - -L - 1440 : Int) = L - 1 by omega]
      exact a1
    rw [ep, okY_of hd2]
  rw [e1, A9_ok (by omega), ofT_text hd2 (by omega) (by omega) (by omega) (by omega) ⟨fun c h => (by cases h), rfl⟩]
  -- the third text
  have ec : cut (text (Y2, M2, 1, L - 1) 0 []) none (some 10) = some (dayB Y2 M2 1 []) := by
    have hl : 10 ≤ (text (Y2, M2, 1, L - 1) 0 []).length := by
      rw [text_eq]; simp [dayB, w2_len, w4_len]; omega
    rw [cut_to _ 10 10 rfl hl, text_eq]
    have : dayB Y2 M2 1 (84 :: clockB ((L - 1) / 60) ((L - 1) % 60) 0 (frB [] [90])) = dayB Y2 M2 1 [] ++ (84 :: clockB ((L - 1) / 60) ((L - 1) % 60) 0 (frB [] [90])) := by rw [dayApp]; rfl
    simp only
    rw [this]
    exact congrArg some (List.take_left' (hdl _ _ _))
  rw [ec, Option.bind_some, cat_ok (by rw [hdl]; simp), Option.bind_some, A10_o (by omega) (by omega), cat_ok (by simp [hdl, w2_len]), Option.bind_some, A9_ok (by simp [hdl, w2_len])]
  have e3 : ofT (dayB Y2 M2 1 [] ++ [84, 48, 48, 58, 48, 48, 58, 48, 48, 43, 48, 48, 58] ++ w2 L) = (text (Y, M, days Y M, 1440 - L) 0 [], true) := by
    have ee : dayB Y2 M2 1 [] ++ [84, 48, 48, 58, 48, 48, 58, 48, 48, 43, 48, 48, 58] ++ w2 L = dayB Y2 M2 1 (84 :: clockB 0 0 0 (43 :: 48 :: 48 :: 58 :: (w2 L ++ []))) := by
      have w0 : w2 0 = [48, 48] := rfl
      simp [dayApp, clockB, w0]
    have hz : zoneE (43 :: 48 :: 48 :: 58 :: (w2 L ++ [])) = some L := by
      have hn : num 1 2 (48 :: 48 :: 58 :: (w2 L ++ [])) = some (0, 58 :: (w2 L ++ [])) := rfl
      have hzz : zone (48 :: 48 :: 58 :: (w2 L ++ [])) = some (L, []) := by
        unfold zone
        rw [hn]
        simp only [sg_one]
        rw [num_w2 (by omega) (by omega) (by omega)]
        have e : (decide ((0 : Int) ≤ 23) && decide (L ≤ 59)) = true := by rw [decide_eq_true (by omega : L ≤ 59)]; rfl
        simp only [e]
        congr 2
        omega
      have h1 : behind [32, 9] (43 :: 48 :: 48 :: 58 :: (w2 L ++ [])) = 43 :: 48 :: 48 :: 58 :: (w2 L ++ []) := rfl
      unfold zoneE
      simp only
      rw [h1]
      have h2 : sg [90] (43 :: 48 :: 48 :: 58 :: (w2 L ++ [])) = none := rfl
      have h3 : sg [43, 45] (43 :: 48 :: 48 :: 58 :: (w2 L ++ [])) = some (43, 48 :: 48 :: 58 :: (w2 L ++ [])) := rfl
      rw [h2, h3]
      simp only
      rw [hzz]
      rfl
    rw [ee, ofT_time (fr := []) (l' := 43 :: 48 :: 48 :: 58 :: (w2 L ++ [])) hd2 (by omega) (by omega) (by omega) (by omega) (by omega) (by omega) (by simp) (gap_T _) rfl hz]
    have ep : putM ⟨Y2, M2, 1, 0, 0, 0, [], L⟩ = (Y, M, days Y M, 1440 - L) := by
      unfold putM
      simp only
      rw [if_pos (by omega), show (60 * 0 + 0 - L + 1440 : Int) = 1440 - L by omega]
      exact a2
    rw [ep, okY_of hd]
  rw [e3]
  simp only [cond_true, beq_self_eq_true]
  rw [cat_ok (by rw [hdl]; simp), Option.bind_some, A10_o (by omega) (by omega), cat_ok (by simp [hdl, w2_len]), Option.bind_some, cat_ok (by simp [hdl, w2_len]), Option.bind_some]
  have ef : dayB Y M (days Y M) [] ++ [84, 50, 51, 58] ++ w2 (60 - L) ++ [58, 48, 48, 90] = text (Y, M, days Y M, 1440 - L) 0 [] := by
    rw [text_eq]
    have e1 : (1440 - L) / 60 = 23 := by omega
    have e2 : (1440 - L) % 60 = 60 - L := by omega
    simp only [e1, e2]
    have w0 : w2 0 = [48, 48] := rfl
    have w1 : w2 23 = [50, 51] := rfl
    simp [dayApp, clockB, frB, w0, w1]
  rw [ef]
  simp
theorem eq5 (hC : ∀ key e t, C key e t = t e) (y m t : Int) (K : Tk5) (r : Out) (hA : A5 y m t K = some r) : run5 C A8 A9 A10 A11 big y m t K = some r := by
  unfold A5 at hA
  split at hA
  · rename_i hc
    obtain ⟨y0, y1, m0, m1, t0, t1⟩ := hc
    rw [run5_eq, ← hA]
    simp only [A8, Bool.not_true, cond_false]
    rw [tmod_nn y0, tmod_nn m0, i64_in (n := y % 9999) (by omega) (by omega), i64_in (n := m % 12) (by omega) (by omega), i64_in (n := 1 + m % 12) (by omega) (by omega)]
    obtain ⟨Y, hY⟩ : ∃ Y, y % 9999 = Y := ⟨_, rfl⟩
    obtain ⟨M, hM⟩ : ∃ M, 1 + m % 12 = M := ⟨_, rfl⟩
    have bY : 0 ≤ Y ∧ Y ≤ 9998 := by omega
    have bM : 1 ≤ M ∧ M ≤ 12 := by omega
    rw [hY, hM]
    obtain ⟨j, hj⟩ : ∃ j, big = j + 13 := ⟨big - 13, by have := big_gt (n := 13) (by omega); omega⟩
    have hfin := fun kk => p2_5_ok hC kk (t := t) ⟨t0, t1⟩ bY bM K
    obtain ⟨g1, g2, g3, g4, g5, g6, g7, g8, g9, g10, g11, g12⟩ := days_list bY.1
    have hlp := lp_bd bY.1
    have st := fun (j : Nat) (n i : Int) => l1_5_step hC big j t Y M n i K bY
    have e : l1_5 C A8 A9 A10 A11 big (j + 13) t Y M 0 1 K = l1_5 C A8 A9 A10 A11 big (j + 1) t Y M (365 + lp Y) 13 K := by
      rw [st (j + 12) 0 1 (by omega) (by omega), g1, st (j + 11) _ _ (by omega) (by omega)]
      have c2 : (1 : Int) + 1 = 2 := rfl
      rw [c2, g2, st (j + 10) _ _ (by omega) (by omega)]
      have c3 : (2 : Int) + 1 = 3 := rfl
      rw [c3, g3, st (j + 9) _ _ (by omega) (by omega)]
      have c4 : (3 : Int) + 1 = 4 := rfl
      rw [c4, g4, st (j + 8) _ _ (by omega) (by omega)]
      have c5 : (4 : Int) + 1 = 5 := rfl
      rw [c5, g5, st (j + 7) _ _ (by omega) (by omega)]
      have c6 : (5 : Int) + 1 = 6 := rfl
      rw [c6, g6, st (j + 6) _ _ (by omega) (by omega)]
      have c7 : (6 : Int) + 1 = 7 := rfl
      rw [c7, g7, st (j + 5) _ _ (by omega) (by omega)]
      have c8 : (7 : Int) + 1 = 8 := rfl
      rw [c8, g8, st (j + 4) _ _ (by omega) (by omega)]
      have c9 : (8 : Int) + 1 = 9 := rfl
      rw [c9, g9, st (j + 3) _ _ (by omega) (by omega)]
      have c10 : (9 : Int) + 1 = 10 := rfl
      rw [c10, g10, st (j + 2) _ _ (by omega) (by omega)]
      have c11 : (10 : Int) + 1 = 11 := rfl
      rw [c11, g11, st (j + 1) _ _ (by omega) (by omega)]
      have c12 : (11 : Int) + 1 = 12 := rfl
      rw [c12, g12]
      have c13 : (12 : Int) + 1 = 13 := rfl
      rw [c13]
      congr 1
      omega
    have e2 : l1_5 C A8 A9 A10 A11 big big t Y M 0 1 K = l1_5 C A8 A9 A10 A11 big (j + 13) t Y M 0 1 K := by rw [← hj]
    rw [e2, e, l1_5_eq _ _ _ _ _ hC]
    have n1 : ¬ (13 : Int) ≤ 12 := by omega
    have d0 : days Y 0 = 0 := by simp [days]
    have dm : days (-1) 1 = 0 := by decide
    simp only [n1, decide_false, cond_false, A11, g2, d0, dm]
    rcases hlp with h | h
    · rw [h]
      exact hfin big
    · rw [h]
      exact hfin big
  · cases hA

/-! StampParts -/
def A7 : Ty7 := fun f w o K => if 0 ≤ w ∧ w ≤ 255 ∧ 0 ≤ o ∧ o ≤ 255 then K true else none
def digF (f : B) : B := f.map fun b => dc ((b.toNat : Int) % 10)
theorem digF_dg {f : B} {c : UInt8} (h : c ∈ digF f) : dg c = true := by
  obtain ⟨b, -, rfl⟩ := List.mem_map.1 h
  exact dg_dc (by omega) (by omega)
/-- A date and a time of day behind a blank, whatever the parts. -/
theorem ofT_parts {y m d h mi sec : Int} (y0 : 0 ≤ y) (y1 : y ≤ 9999) (m0 : 0 ≤ m) (m1 : m ≤ 99) (d0 : 0 ≤ d) (d1 : d ≤ 99) (h0 : 0 ≤ h) (h1 : h ≤ 99) (i0 : 0 ≤ mi) (i1 : mi ≤ 99) (s0 : 0 ≤ sec) (s1 : sec ≤ 99) (l : B)
    (hbad : zoneE (fracs l).2 = none ∨ ¬ (1 ≤ d ∧ d ≤ days y m ∧ h < 24 ∧ mi < 60 ∧ sec < 60)) : (ofT (dayB y m d (gapB 0 ++ clockB h mi sec l))).2 = false := by
  unfold ofT
  rw [parse_day y0 y1 m0 m1 d0 d1]
  have e1 : gapB 0 ++ clockB h mi sec l = 32 :: clockB h mi sec l := rfl
  rw [e1]
  simp only
  have e2 := gap_blank (mi := mi) (sec := sec) h0 h1 0 l
  rw [e1] at e2
  rw [e2]
  simp only
  rw [clock_text h0 h1 i0 i1 s0 s1]
  cases hz : zoneE (fracs l).2 with
  | none => rfl
  | some z =>
    simp only
    rcases hbad with hb | hb
    · rw [hz] at hb; cases hb
    · have : okMo ⟨y, m, d, h, mi, sec, (fracs l).1, z⟩ = false := by
        cases ho : okMo ⟨y, m, d, h, mi, sec, (fracs l).1, z⟩ with
        | false => rfl
        | true =>
          obtain ⟨a0, a, b, c, e, -⟩ := ok_bd ho
          exact absurd ⟨a0, a, b, c, e⟩ hb
      simp only [this]
theorem digF_digits {f : B} : ∀ c, c ∈ digF f → DD.contains c = true := fun c h => by rw [digits_contains]; exact digF_dg h
theorem fracs_dig {f : B} (l : B) (hl : behind DD l = l) : fracs (46 :: (digF f ++ l)) = (Lib.trimRightB (digF f) 48, l) := by
  unfold fracs
  simp only [sg_one]
  have e1 : behind DD (digF f ++ l) = l := by rw [behind_app digF_digits, hl]
  rw [e1]
  have e2 : (digF f ++ l).length - l.length = (digF f).length := by simp
  rw [e2, List.take_left]
theorem loop7 (hC : ∀ key e t, C key e t = t e) (kk : Nat) (f : B) (w o : Int) (hf : f.length ≤ 30) (K : Tk7) : ∀ (m j p : Nat), f.length - p = m → m < j → p ≤ f.length →
    l1_7 C A8 A9 A10 A13 A16 kk j f w o (digF (f.take p)) (p : Int) K = l2_7 C A8 A9 A10 A13 A16 kk kk w o (digF f) (digF f) K := by
  intro m
  induction m with
  | zero =>
    intro j p hm hj hp
    obtain ⟨j, rfl⟩ : ∃ i, j = i + 1 := ⟨j - 1, by omega⟩
    have h1 : ¬ (p : Int) < (f.length : Int) := by omega
    have h2 : f.take p = f := List.take_of_length_le (by omega)
    rw [l1_7_eq _ _ _ _ _ _ hC, h2]
    simp only [h1, decide_false, cond_false]
  | succ m ih =>
    intro j p hm hj hp
    obtain ⟨j, rfl⟩ : ∃ i, j = i + 1 := ⟨j - 1, by omega⟩
    have hp' : p < f.length := by omega
    have h1 : (p : Int) < (f.length : Int) := by omega
    rw [l1_7_eq _ _ _ _ _ _ hC]
    simp only [h1, decide_true, cond_true]
    rw [at_ok rfl hp', Option.bind_some, tmod_nn (by omega), i64_in (by omega) (by omega), A13_1 (by omega) (by omega), cat_ok (by simp [digF]; omega), Option.bind_some, i64_in (by omega) (by omega)]
    have e1 : digF (f.take p) ++ [dc ((f[p].toNat : Int) % 10)] = digF (f.take (p + 1)) := by
      rw [List.take_succ_eq_append_getElem hp']
      unfold digF
      rw [List.map_append]
      rfl
    have e2 : (p : Int) + 1 = ((p + 1 : Nat) : Int) := by omega
    rw [e1, e2]
    exact ih j (p + 1) (by omega) (by omega) (by omega)
def wantB : B := [50, 48, 48, 49, 45, 49, 50, 45, 49, 52, 84, 50, 49, 58, 53, 57, 58, 52, 51]
def want7 (fr : B) : B := match fr with
  | [] => wantB
  | c :: l => wantB ++ [46] ++ (c :: l)
theorem strip7 (hC : ∀ key e t, C key e t = t e) (kk : Nat) (w o : Int) (D : B) (K : Tk7) : ∀ (n j : Nat) (fr : B), fr.length = n → n < j → n ≤ 1000 →
    l2_7 C A8 A9 A10 A13 A16 kk j w o D fr K = p3_7 C A8 A9 A10 A13 A16 kk w o D (want7 (Lib.trimRightB fr 48)) K
  | 0, j, fr, hn, hj, _ => by
    obtain ⟨j, rfl⟩ : ∃ i, j = i + 1 := ⟨j - 1, by omega⟩
    have : fr = [] := List.length_eq_zero_iff.1 hn
    subst this
    rw [l2_7_eq _ _ _ _ _ _ hC]
    rfl
  | n + 1, j, fr, hn, hj, hN => by
    obtain ⟨j, rfl⟩ : ∃ i, j = i + 1 := ⟨j - 1, by omega⟩
    obtain ⟨l, x, rfl⟩ : ∃ l x, fr = l ++ [x] := by
      rcases List.eq_nil_or_concat fr with e | ⟨l, x, e⟩
      · subst e; simp at hn
      · exact ⟨l, x, e.trans (List.concat_eq_append)⟩
    simp at hn
    rw [l2_7_eq _ _ _ _ _ _ hC]
    have e1 : ((l ++ [x]).length : Int) > 0 := by simp only [List.length_append, List.length_singleton]; omega
    have e2 : IntKind.i64.wrap (((l ++ [x]).length : Int) - 1) = (l.length : Int) := by rw [List.length_append, List.length_singleton, i64_in (by omega) (by omega)]; omega
    have e3 : at? (l ++ [x]) (l.length : Int) = some x := by
      rw [at_ok rfl (by simp)]; simp
    have e4 : cut (l ++ [x]) none (some (l.length : Int)) = some l := by rw [cut_to _ _ l.length rfl (by simp)]; simp
    simp only [e1, e2, e3, e4, decide_true, cond_true, Option.bind_some]
    have f : ((x.toNat : Int) == 48) = (x == 48) := byte_eq x 48
    rw [f, trim_snoc]
    cases x == 48 with
    | true => exact strip7 hC kk w o D K n j l hn (by omega) (by omega)
    | false =>
      have e5 : (!((l ++ [x]) == ([] : B))) = true := by cases l <;> rfl
      simp only [cond_false, e5, cond_true]
      have hw : wantB.length = 19 := rfl
      have c1 := cat_ok (a := wantB) (b := [46]) (by simp [hw])
      unfold wantB at c1
      rw [c1, Option.bind_some, cat_ok (by simp; omega), Option.bind_some]
      have e6 : want7 (l ++ [x]) = wantB ++ [46] ++ (l ++ [x]) := by cases l <;> rfl
      rw [e6]
      rfl
theorem A16_o {s : B} {K : Tk16} (h : s.length ≤ 1000) : A16 s K = K (ofT s).2 := A16_ok (by omega)
theorem p3_7_ok (hC : ∀ key e t, C key e t = t e) (kk : Nat) {w o : Int} (hw : 0 ≤ w ∧ w ≤ 255) (ho : 0 ≤ o ∧ o ≤ 255) (f : B) (hf : f.length ≤ 30) (K : Tk7) :
    p3_7 C A8 A9 A10 A13 A16 kk w o (digF f) (want7 (Lib.trimRightB (digF f) 48)) K = K true := by
  have hdl : (digF f).length = f.length := by simp [digF]
  have htl := trim_le (digF f) 48
  have hd : DayOk 2001 12 14 := ⟨by decide, by decide, by decide, by decide, by decide, by decide⟩
  have e1 : ofT ([50, 48, 48, 49, 45, 49, 50, 45, 49, 52, 32, 50, 49, 58, 53, 57, 58, 52, 51, 46] ++ digF f) = (text (2001, 12, 14, 1319) 43 (Lib.trimRightB (digF f) 48), true) := by
    have ee : [50, 48, 48, 49, 45, 49, 50, 45, 49, 52, 32, 50, 49, 58, 53, 57, 58, 52, 51, 46] ++ digF f = dayB 2001 12 14 (gapB 0 ++ clockB 21 59 43 (46 :: (digF f ++ []))) := by
      rw [List.append_nil]; rfl
    rw [ee]
    exact ofT_in hd (by omega) (by omega) (by omega) (by omega) (by omega) (by omega) (by simp [gapB]) (gap_blank (by omega) (by omega) 0 _) (fracs_dig [] rfl) rfl (by omega) (by omega) (by omega)
  have e2 : text (2001, 12, 14, 1319) 43 (Lib.trimRightB (digF f) 48) = want7 (Lib.trimRightB (digF f) 48) ++ [90] := by
    rw [text_eq]
    generalize Lib.trimRightB (digF f) 48 = fr
    cases fr <;> rfl
  have hwl : (want7 (Lib.trimRightB (digF f) 48)).length ≤ 50 := by
    generalize Lib.trimRightB (digF f) 48 = fr at htl ⊢
    cases fr with
    | nil => simp [want7, wantB]
    | cons a b => simp [want7, wantB] at htl ⊢; omega
  have e3 : (ofT ([50, 48, 48, 49, 45, 49, 50, 45, 49, 52, 32, 50, 49, 58, 53, 57, 58, 52, 51, 46] ++ digF f ++ [120])).2 = false := by
    have ee : [50, 48, 48, 49, 45, 49, 50, 45, 49, 52, 32, 50, 49, 58, 53, 57, 58, 52, 51, 46] ++ digF f ++ [120] = dayB 2001 12 14 (gapB 0 ++ clockB 21 59 43 (46 :: (digF f ++ [120]))) := by
      rw [List.append_assoc]; rfl
    rw [ee]
    refine ofT_parts (by omega) (by omega) (by omega) (by omega) (by omega) (by omega) (by omega) (by omega) (by omega) (by omega) (by omega) (by omega) _ (.inl ?_)
    rw [fracs_dig [120] (by decide)]
    show zoneE [120] = none
    decide
  have e4 : (ofT [50, 48, 48, 49, 45, 49, 50, 45, 49, 52, 32, 50, 49, 58, 53, 57]).2 = false := by decide +kernel
  have key : ∀ (F : B → Option Out), (∀ x, F x = (A16 x fun r40 => bif (!r40) then K true else K false)) → ∀ p0 p1 p2 p3 p4 p5 : Int, 0 ≤ p0 → p0 ≤ 99 → 0 ≤ p1 → p1 ≤ 99 → 0 ≤ p2 → p2 ≤ 99 → 0 ≤ p3 → p3 ≤ 99 → 0 ≤ p4 → p4 ≤ 99 → 0 ≤ p5 → p5 ≤ 99 → (p0 > 12 ∨ p1 > 31 ∨ p2 > 23 ∨ p3 > 59 ∨ p4 > 59 ∨ p5 > 23) →
      (A10 p0 fun r22 => ((cat ([50, 48, 48, 49, 45] : List UInt8) r22).bind fun s23 => ((cat s23 ([45] : List UInt8)).bind fun s24 => (A10 p1 fun r25 => ((cat s24 r25).bind fun s26 => ((cat s26 ([32] : List UInt8)).bind fun s27 => (A10 p2 fun r28 => ((cat s27 r28).bind fun s29 => ((cat s29 ([58] : List UInt8)).bind fun s30 => (A10 p3 fun r31 => ((cat s30 r31).bind fun s32 => ((cat s32 ([58] : List UInt8)).bind fun s33 => (A10 p4 fun r34 => ((cat s33 r34).bind fun s35 => ((cat s35 ([32, 43] : List UInt8)).bind fun s36 => (A10 p5 fun r37 => ((cat s36 r37).bind fun s38 => F s38))))))))))))))))) = K true := by
    intro F hF p0 p1 p2 p3 p4 p5 a0 b0 a1 b1 a2 b2 a3 b3 a4 b4 a5 b5 hbad
    rw [A10_o a0 (by omega), cat_ok (by simp [w2_len]), Option.bind_some, cat_ok (by simp [w2_len]), Option.bind_some, A10_o a1 (by omega), cat_ok (by simp [w2_len]), Option.bind_some, cat_ok (by simp [w2_len]), Option.bind_some, A10_o a2 (by omega), cat_ok (by simp [w2_len]), Option.bind_some, cat_ok (by simp [w2_len]), Option.bind_some,
      A10_o a3 (by omega), cat_ok (by simp [w2_len]), Option.bind_some, cat_ok (by simp [w2_len]), Option.bind_some, A10_o a4 (by omega), cat_ok (by simp [w2_len]), Option.bind_some, cat_ok (by simp [w2_len]), Option.bind_some, A10_o a5 (by omega), cat_ok (by simp [w2_len]), Option.bind_some, hF, A16_o (by simp [w2_len])]
    have ee : [50, 48, 48, 49, 45] ++ w2 p0 ++ [45] ++ w2 p1 ++ [32] ++ w2 p2 ++ [58] ++ w2 p3 ++ [58] ++ w2 p4 ++ [32, 43] ++ w2 p5 = dayB 2001 p0 p1 (gapB 0 ++ clockB p2 p3 p4 (32 :: 43 :: (w2 p5 ++ []))) := by
      have w0 : w4 2001 = [50, 48, 48, 49] := rfl
      simp [dayB, clockB, gapB, w0]
    rw [ee]
    have := ofT_parts (y := 2001) (by omega) (by omega) a0 b0 a1 b1 a2 b2 a3 b3 a4 b4 (32 :: 43 :: (w2 p5 ++ [])) (by
      by_cases h5 : p5 > 23
      · left
        have hf : fracs (32 :: 43 :: (w2 p5 ++ [])) = ([], 32 :: 43 :: (w2 p5 ++ [])) := rfl
        rw [hf]
        have hb1 : behind [32, 9] (32 :: 43 :: (w2 p5 ++ [])) = 43 :: (w2 p5 ++ []) := rfl
        unfold zoneE
        simp only
        rw [hb1]
        have h2 : sg [90] (43 :: (w2 p5 ++ [])) = none := rfl
        have h3 : sg [43, 45] (43 :: (w2 p5 ++ [])) = some (43, w2 p5 ++ []) := rfl
        rw [h2, h3]
        simp only
        have hzz : zone (w2 p5 ++ []) = none := by
          unfold zone
          rw [num_w2 a5 b5 (by omega)]
          have h4 : sg [58] ([] : B) = none := rfl
          have h6 : decide (p5 ≤ 23) = false := decide_eq_false (by omega)
          simp only [h4, h6]
        rw [hzz]
      · right
        rintro ⟨g0, g1, g2, g3, g4⟩
        have hdb := days_bd 2001 p0
        have : p0 > 12 ∨ p1 > 31 := by omega
        rcases this with h | h
        · have : days 2001 p0 = 0 := by unfold days; rw [if_pos (by omega)]
          omega
        · omega)
    rw [this]
    rfl
  rw [p3_7_eq _ _ _ _ _ _ hC, tmod_nn hw.1, i64_in (n := w % 6) (by omega) (by omega), i64_in (n := o) (by omega) (by omega), cat_ok (by simp [hdl]; omega), Option.bind_some, A9_ok (by simp [hdl]; omega), e1]
  have hk0 : (0 : Int) ≤ w % 6 := by omega
  have hk1 : w % 6 < 6 := by omega
  have hk2 : 0 + (w % 6).toNat < 6 := by omega
  simp only [hk0, hk1, hk2, decide_true, Bool.and_self, cond_true]
  have tail : ∀ x : B, (cat (want7 (Lib.trimRightB (digF f) 48)) [90]).bind (fun s39 => bif (text (2001, 12, 14, 1319) 43 (Lib.trimRightB (digF f) 48) == s39) then (A16 x fun r40 => (bif (!r40) then ((some (([50, 48, 48, 49, 45, 49, 50, 45, 49, 52, 32, 50, 49, 58, 53, 57, 58, 52, 51, 46] : List UInt8) ++ digF f)).bind fun s41 => ((cat s41 ([120] : List UInt8)).bind fun s42 => (A16 s42 fun r43 => (bif (!r43) then (A16 ([50, 48, 48, 49, 45, 49, 50, 45, 49, 52, 32, 50, 49, 58, 53, 57] : List UInt8) fun r44 => (K (!r44))) else (K false))))) else (K false))) else (K false)) =
      (A16 x fun r40 => bif (!r40) then K true else K false) := by
    intro x
    rw [cat_ok (by simp; omega), Option.bind_some, e2, beq_self_eq_true, cond_true]
    rw [Option.bind_some, cat_ok (by simp [hdl]; omega), Option.bind_some, A16_o (s := [50, 48, 48, 49, 45, 49, 50, 45, 49, 52, 32, 50, 49, 58, 53, 57, 58, 52, 51, 46] ++ digF f ++ [120]) (by simp [hdl]; omega), e3, A16_o (s := [50, 48, 48, 49, 45, 49, 50, 45, 49, 52, 32, 50, 49, 58, 53, 57]) (by simp), e4]
    rfl
  have hk : w % 6 = 0 ∨ w % 6 = 1 ∨ w % 6 = 2 ∨ w % 6 = 3 ∨ w % 6 = 4 ∨ w % 6 = 5 := by omega
  rcases hk with h | h | h | h | h | h
  all_goals
    rw [h]
    have t0 : (0 : Int).toNat = 0 := rfl
    have t1 : (1 : Int).toNat = 1 := rfl
    have t2 : (2 : Int).toNat = 2 := rfl
    have t3 : (3 : Int).toNat = 3 := rfl
    have t4 : (4 : Int).toNat = 4 := rfl
    have t5 : (5 : Int).toNat = 5 := rfl
    simp -implicitDefEqProofs only [t0, t1, t2, t3, t4, t5, Nat.zero_add, List.getElem?_cons_zero, List.getElem?_cons_succ, Option.bind_some]
  · have q : IntKind.i64.wrap ((100 : Int) - 13) = 87 := by decide
    have q0 : ((87 : Int) == 0) = false := rfl
    simp -implicitDefEqProofs only [q, q0, cond_false, List.set_cons_zero, List.set_cons_succ, List.getElem?_cons_zero, List.getElem?_cons_succ, Option.bind_some]
    rw [tmod_nn ho.1, i64_in (by omega) (by omega)]
    refine key _ ?_ (13 + o % 87) 14 21 59 43 0 (by omega) (by omega) (by omega) (by omega) (by omega) (by omega) (by omega) (by omega) (by omega) (by omega) (by omega) (by omega) (by omega)
    intro x
    show (bif true then _ else K false) = _
    rw [cond_true]
    exact tail x
  · have q : IntKind.i64.wrap ((100 : Int) - 32) = 68 := by decide
    have q0 : ((68 : Int) == 0) = false := rfl
    simp -implicitDefEqProofs only [q, q0, cond_false, List.set_cons_zero, List.set_cons_succ, List.getElem?_cons_zero, List.getElem?_cons_succ, Option.bind_some]
    rw [tmod_nn ho.1, i64_in (by omega) (by omega)]
    refine key _ ?_ 12 (32 + o % 68) 21 59 43 0 (by omega) (by omega) (by omega) (by omega) (by omega) (by omega) (by omega) (by omega) (by omega) (by omega) (by omega) (by omega) (by omega)
    intro x
    show (bif true then _ else K false) = _
    rw [cond_true]
    exact tail x
  · have q : IntKind.i64.wrap ((100 : Int) - 24) = 76 := by decide
    have q0 : ((76 : Int) == 0) = false := rfl
    simp -implicitDefEqProofs only [q, q0, cond_false, List.set_cons_zero, List.set_cons_succ, List.getElem?_cons_zero, List.getElem?_cons_succ, Option.bind_some]
    rw [tmod_nn ho.1, i64_in (by omega) (by omega)]
    refine key _ ?_ 12 14 (24 + o % 76) 59 43 0 (by omega) (by omega) (by omega) (by omega) (by omega) (by omega) (by omega) (by omega) (by omega) (by omega) (by omega) (by omega) (by omega)
    intro x
    show (bif true then _ else K false) = _
    rw [cond_true]
    exact tail x
  · have q : IntKind.i64.wrap ((100 : Int) - 60) = 40 := by decide
    have q0 : ((40 : Int) == 0) = false := rfl
    simp -implicitDefEqProofs only [q, q0, cond_false, List.set_cons_zero, List.set_cons_succ, List.getElem?_cons_zero, List.getElem?_cons_succ, Option.bind_some]
    rw [tmod_nn ho.1, i64_in (by omega) (by omega)]
    refine key _ ?_ 12 14 21 (60 + o % 40) 43 0 (by omega) (by omega) (by omega) (by omega) (by omega) (by omega) (by omega) (by omega) (by omega) (by omega) (by omega) (by omega) (by omega)
    intro x
    show (bif true then _ else K false) = _
    rw [cond_true]
    exact tail x
  · have q : IntKind.i64.wrap ((100 : Int) - 60) = 40 := by decide
    have q0 : ((40 : Int) == 0) = false := rfl
    simp -implicitDefEqProofs only [q, q0, cond_false, List.set_cons_zero, List.set_cons_succ, List.getElem?_cons_zero, List.getElem?_cons_succ, Option.bind_some]
    rw [tmod_nn ho.1, i64_in (by omega) (by omega)]
    refine key _ ?_ 12 14 21 59 (60 + o % 40) 0 (by omega) (by omega) (by omega) (by omega) (by omega) (by omega) (by omega) (by omega) (by omega) (by omega) (by omega) (by omega) (by omega)
    intro x
    show (bif true then _ else K false) = _
    rw [cond_true]
    exact tail x
  · have q : IntKind.i64.wrap ((100 : Int) - 24) = 76 := by decide
    have q0 : ((76 : Int) == 0) = false := rfl
    simp -implicitDefEqProofs only [q, q0, cond_false, List.set_cons_zero, List.set_cons_succ, List.getElem?_cons_zero, List.getElem?_cons_succ, Option.bind_some]
    rw [tmod_nn ho.1, i64_in (by omega) (by omega)]
    refine key _ ?_ 12 14 21 59 43 (24 + o % 76) (by omega) (by omega) (by omega) (by omega) (by omega) (by omega) (by omega) (by omega) (by omega) (by omega) (by omega) (by omega) (by omega)
    intro x
    show (bif true then _ else K false) = _
    rw [cond_true]
    exact tail x
theorem eq7 (hC : ∀ key e t, C key e t = t e) (f : B) (w o : Int) (K : Tk7) (r : Out) (hA : A7 f w o K = some r) : run7 C A8 A9 A10 A13 A16 big f w o K = some r := by
  unfold A7 at hA
  split at hA
  · rename_i hc
    obtain ⟨w0, w1, o0, o1⟩ := hc
    rw [run7_eq, ← hA]
    simp only [A8, Bool.not_true, cond_false]
    by_cases h1 : (f.length : Int) > 30
    · simp only [h1, decide_true, cond_true]
    · simp only [h1, decide_false, cond_false]
      have e := loop7 hC big f w o (by omega) K f.length big 0 rfl (big_gt (by omega)) (by omega)
      have e0 : ((0 : Nat) : Int) = 0 := rfl
      rw [e0, List.take_zero] at e
      have e1 : digF ([] : B) = [] := rfl
      rw [e1] at e
      rw [e, strip7 hC big w o (digF f) K (digF f).length big (digF f) rfl (big_gt (by simp [digF]; omega)) (by simp [digF]; omega)]
      exact p3_7_ok hC big ⟨w0, w1⟩ ⟨o0, o1⟩ f (by omega) K
  · cases hA
end Go.Proofs.YtnfjggagenmkjaaDoor
