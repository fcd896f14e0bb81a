/- Texts of this session, joined. -/
import Derived.Test.YtffmgholjdfcnaaGreatDoorXNvF
set_option linter.unusedSimpArgs false
set_option linter.unusedVariables false
namespace Go.Proofs.YtffmgholjdfcnaaGreatDoor
open Go AM St Nu
theorem buildV_needs {w : Int} {t z : B} {p : Bool} (h : needs t = true) : buildV w t z p = (bif (typedB w t z).2 then ((t, (typedB w t z).1), true) else (([], []), false)) := by
 rcases needs_cases h with e | e | e | e | e | e <;> subst e <;> rfl
theorem buildV_yes {w : Int} {t z y : B} {p : Bool} (h : needs t = true) (hz : typedB w t z = (y, true)) : buildV w t z p = ((t, y), true) := by
 rw [buildV_needs h, hz]; rfl
theorem int_good {v : Int} {s : B} (hi : (intV v s).2 = true) : good (intV v s).1 = true := by
 unfold intV at hi ⊢
 cases hv : v == 11 with
 | true =>
  rw [hv] at hi
  simp only at hi ⊢
  exact int11_isgood (by simpa using hi)
 | false =>
  rw [hv] at hi
  simp only at hi ⊢
  exact int12_isgood (by simpa using hi)
theorem fl_good {v : Int} {s : B} (hs : s.length ≤ 10000) (hf : (flV v s).2 = true) : goodD (flV v s).1 = true := by
 unfold flV at hf ⊢
 cases hv : v == 11 with
 | true =>
  rw [hv] at hf
  simp only at hf ⊢
  exact fl11_good hs (by simpa using hf)
 | false =>
  rw [hv] at hf
  simp only at hf ⊢
  exact fl12_good hs hf
theorem int_again {a : B} (h : good a = true) (w : Int) : intV w a = (a, true) := by
 unfold intV
 cases w == 11 with
 | true =>
  obtain ⟨k, h1, h2⟩ := int11_good h
  simp only [h1, h2]; rfl
 | false =>
  simp only [int12_good h, good_ne h]; rfl
theorem plain_null {v : Int} {s : B} (h : nulls.contains s = true) : plainV v s = (tNull, []) := by unfold plainV; rw [h]
theorem plain_isBool {v : Int} {s : B} (h0 : nulls.contains s = false) (h : (boolW v s).2 = true) : plainV v s = (tBool, boolT (boolW v s).1) := by unfold plainV; rw [h0, h]
theorem plain_isInt {v : Int} {s : B} (h0 : nulls.contains s = false) (h1 : (boolW v s).2 = false) (h : (intV v s).2 = true) : plainV v s = (tInt, (intV v s).1) := by unfold plainV numV; rw [h0, h1, h]
theorem plain_isFloat {v : Int} {s : B} (h0 : nulls.contains s = false) (h1 : (boolW v s).2 = false) (h2 : (intV v s).2 = false) (h : (flV v s).2 = true) : plainV v s = (tFloat, printD (flV v s).1) := by unfold plainV numV; rw [h0, h1, h2, h]
theorem plain_isTime {v : Int} {s : B} (h0 : nulls.contains s = false) (h1 : (boolW v s).2 = false) (h2 : (intV v s).2 = false) (h3 : (flV v s).2 = false) (hv : (v == 11 && (ofT s).2) = true) : plainV v s = (tTime, (ofT s).1) := by unfold plainV numV; rw [h0, h1, h2, h3, hv]
theorem plain_isStr {v : Int} {s : B} (h0 : nulls.contains s = false) (h1 : (boolW v s).2 = false) (h2 : (intV v s).2 = false) (h3 : (flV v s).2 = false) (hv : (v == 11 && (ofT s).2) = false) : plainV v s = (tStr, s) := by unfold plainV numV; rw [h0, h1, h2, h3, hv]
theorem plain_typed (v : Int) (s : B) : plainV v s = (tStr, s) ∨ (needs (plainV v s).1 = true ∧ typedB v (plainV v s).1 s = ((plainV v s).2, true)) := by
 cases h0 : nulls.contains s with
 | true => rw [plain_null h0]; exact .inr ⟨rfl, by rw [ty_null, h0]⟩
 | false =>
  cases h1 : (boolW v s).2 with
  | true => rw [plain_isBool h0 h1]; exact .inr ⟨rfl, by rw [ty_bool, h1]; rfl⟩
  | false =>
   cases h2 : (intV v s).2 with
   | true => rw [plain_isInt h0 h1 h2]; exact .inr ⟨rfl, by rw [ty_int, ← h2]⟩
   | false =>
    cases h3 : (flV v s).2 with
    | true => rw [plain_isFloat h0 h1 h2 h3]; exact .inr ⟨rfl, by rw [ty_float, h3]; rfl⟩
    | false =>
     cases h4 : v == 11 && (ofT s).2 with
     | true =>
      rw [plain_isTime h0 h1 h2 h3 h4]
      rw [Bool.and_eq_true] at h4
      exact .inr ⟨rfl, by rw [ty_time, ← h4.2]⟩
     | false => exact .inl (plain_isStr h0 h1 h2 h3 h4)
theorem plain_build (v : Int) (s : B) : buildV v (plainV v s).1 s true = (plainV v s, true) := by
 rcases plain_typed v s with h | ⟨h1, h2⟩
 ·rw [h]; rfl
 ·exact buildV_yes h1 h2
theorem typed_own {v : Int} {t s : B} (hs : s.length ≤ 10000) (hn : needs t = true) (h : (typedB v t s).2 = true) (w : Int) : typedB w t (typedB v t s).1 = ((typedB v t s).1, true) := by
 rcases needs_cases hn with e | e | e | e | e | e <;> subst e
 ·rw [ty_null, ty_null]; rfl
 ·rw [ty_bool v s] at h ⊢
  cases hb : (boolW v s).2 with
  | false => rw [hb] at h; cases h
  | true =>
   show typedB w tBool (boolT (boolW v s).1) = (boolT (boolW v s).1, true)
   rw [ty_bool]
   cases (boolW v s).1 <;> rfl
 ·rw [ty_int] at h ⊢
  rw [ty_int]
  exact int_again (int_good h) w
 ·rw [ty_float v s] at h ⊢
  cases hf : (flV v s).2 with
  | false => rw [hf] at h; cases h
  | true =>
   show typedB w tFloat (printD (flV v s).1) = (printD (flV v s).1, true)
   have hp := plain_goodD (fl_good hs hf) w
   rcases plain_typed w (printD (flV v s).1) with h1 | ⟨-, h2⟩
   ·rw [hp] at h1
    have := congrArg Prod.fst h1
    exact absurd this (show ¬ tFloat = tStr by decide)
   ·rw [hp] at h2
    exact h2
 ·rw [ty_time] at h ⊢
  rw [ty_time]
  exact ofT_idem h
 ·rw [ty_bin] at h ⊢
  rw [ty_bin, binT_again h]
  cases hb : binT s with
  | mk a b => rw [hb] at h; simp only at h; rw [h]
theorem build_str (w : Int) (x : B) (p : Bool) : buildV w tStr x p = ((tStr, x), true) := by cases p <;> rfl
theorem build_own {v : Int} {t x : B} {p : Bool} (hx : x.length ≤ 10000) (ht : t ∈ names16) (h : (buildV v t x p).2 = true) (w : Int) (q : Bool) : buildV w (buildV v t x p).1.1 (buildV v t x p).1.2 q = ((buildV v t x p).1, true) := by
 have hneed : needs t = true → buildV w (buildV v t x p).1.1 (buildV v t x p).1.2 q = ((buildV v t x p).1, true) := by
  intro hn
  rw [buildV_needs hn] at h ⊢
  cases hy : (typedB v t x).2 with
  | false => rw [hy] at h; cases h
  | true =>
   simp only [cond_true]
   exact buildV_yes hn (typed_own hx hn hy w)
 simp only [names16, List.mem_cons, List.not_mem_nil, or_false] at ht
 rcases ht with e | e | e | e | e | e | e | e | e | e | e | e | e | e | e | e
 ·subst e
  cases p with
  | false => exact build_str w x q
  | true =>
   show buildV w (plainV v x).1 (plainV v x).2 q = (plainV v x, true)
   rcases plain_typed v x with h1 | ⟨h1, h2⟩
   ·rw [h1]; exact build_str w x q
   ·refine buildV_yes h1 ?_
    have := typed_own hx h1 (by rw [h2]) w
    rw [h2] at this
    exact this
 ·subst e; cases p <;> exact build_str w x q
 ·subst e; cases p <;> exact build_str w x q
 ·subst e; exact hneed rfl
 ·subst e; exact hneed rfl
 ·subst e; exact hneed rfl
 ·subst e; exact hneed rfl
 ·subst e; exact hneed rfl
 ·subst e; exact hneed rfl
 ·subst e; cases h
 ·subst e; cases h
 ·subst e; cases h
 ·subst e; cases h
 ·subst e; cases h
 ·subst e; cases q <;> rfl
 ·subst e; cases q <;> rfl
def forms5 : List B := [tNull, tBool, tInt, tFloat, tTime]
theorem only_one {v : Int} {s t : B} (hv : v = 11 ∨ v = 12) (ht : t ∈ forms5) (hx : ¬ (t = tTime ∧ v = 12)) : (typedB v t s).2 = (t == (plainV v s).1) := by
 cases h0 : nulls.contains s with
 | true =>
  have key : ∀ s ∈ nulls, ∀ t ∈ forms5, (typedB 11 t s).2 = (t == (plainV 11 s).1) ∧ (typedB 12 t s).2 = (t == (plainV 12 s).1) := by decide +kernel
  have := key s (List.contains_iff_mem.1 h0) t ht
  rcases hv with e | e <;> subst e
  ·exact this.1
  ·exact this.2
 | false =>
  cases h1 : (boolW v s).2 with
  | true =>
   have hm : s ∈ yes12 ++ no12 ∨ (v = 11 ∧ s ∈ yes11 ++ no11) := by
    unfold boolW at h1
    cases hy : yes12.contains s with
    | true => exact .inl (List.mem_append.2 (.inl (List.contains_iff_mem.1 hy)))
    | false =>
     cases hn : no12.contains s with
     | true => exact .inl (List.mem_append.2 (.inr (List.contains_iff_mem.1 hn)))
     | false =>
      rw [hy, hn] at h1
      simp only at h1
      cases h11 : v == 11 with
      | false => rw [h11] at h1; cases h1
      | true =>
       rw [h11] at h1
       simp only [Bool.or_eq_true] at h1
       refine .inr ⟨eq_of_beq h11, ?_⟩
       rcases h1 with h | h
       ·exact List.mem_append.2 (.inl (List.contains_iff_mem.1 h))
       ·exact List.mem_append.2 (.inr (List.contains_iff_mem.1 h))
   have k1 : ∀ s ∈ yes12 ++ no12, ∀ t ∈ forms5, (typedB 11 t s).2 = (t == (plainV 11 s).1) ∧ (typedB 12 t s).2 = (t == (plainV 12 s).1) := by decide +kernel
   have k2 : ∀ s ∈ yes11 ++ no11, ∀ t ∈ forms5, (typedB 11 t s).2 = (t == (plainV 11 s).1) := by decide +kernel
   rcases hm with hm | ⟨e, hm⟩
   ·have := k1 s hm t ht
    rcases hv with e | e <;> subst e
    ·exact this.1
    ·exact this.2
   ·subst e; exact k2 s hm t ht
  | false =>
   have tm : (v == 11 && (ofT s).2) = true → (intV v s).2 = false ∧ (flV v s).2 = false := by
    intro h
    rw [Bool.and_eq_true] at h
    obtain ⟨-, -, h3, h4⟩ := time_no h.2
    unfold intV flV
    rw [h.1]
    simp only [h3, h4]
    exact ⟨rfl, rfl⟩
   simp only [forms5, List.mem_cons, List.not_mem_nil, or_false] at ht
   cases h2 : (intV v s).2 with
   | true =>
    have hf := int_no_float h2
    rw [plain_isInt h0 h1 h2]
    rcases ht with e | e | e | e | e <;> subst e
    ·rw [ty_null]; exact h0
    ·rw [ty_bool, h1]; rfl
    ·rw [ty_int]; exact h2
    ·rw [ty_float, hf]; rfl
    ·rw [ty_time]
     have h11 : v = 11 := by rcases hv with e | e; exact e; exact absurd ⟨rfl, e⟩ hx
     cases ho : (ofT s).2 with
     | false => rfl
     | true =>
      have := (tm (by rw [h11, ho]; rfl)).1
      rw [h2] at this; cases this
   | false =>
    cases h3 : (flV v s).2 with
    | true =>
     rw [plain_isFloat h0 h1 h2 h3]
     rcases ht with e | e | e | e | e <;> subst e
     ·rw [ty_null]; exact h0
     ·rw [ty_bool, h1]; rfl
     ·rw [ty_int]; exact h2
     ·rw [ty_float, h3]; rfl
     ·rw [ty_time]
      have h11 : v = 11 := by rcases hv with e | e; exact e; exact absurd ⟨rfl, e⟩ hx
      cases ho : (ofT s).2 with
      | false => rfl
      | true =>
       have := (tm (by rw [h11, ho]; rfl)).2
       rw [h3] at this; cases this
    | false =>
     cases h4 : v == 11 && (ofT s).2 with
     | true =>
      rw [plain_isTime h0 h1 h2 h3 h4]
      rw [Bool.and_eq_true] at h4
      rcases ht with e | e | e | e | e <;> subst e
      ·rw [ty_null]; exact h0
      ·rw [ty_bool, h1]; rfl
      ·rw [ty_int]; exact h2
      ·rw [ty_float, h3]; rfl
      ·rw [ty_time]; exact h4.2
     | false =>
      rw [plain_isStr h0 h1 h2 h3 h4]
      rcases ht with e | e | e | e | e <;> subst e
      ·rw [ty_null]; exact h0
      ·rw [ty_bool, h1]; rfl
      ·rw [ty_int]; exact h2
      ·rw [ty_float, h3]; rfl
      ·rw [ty_time]
       have h11 : v = 11 := by rcases hv with e | e; exact e; exact absurd ⟨rfl, e⟩ hx
       rw [h11] at h4
       have h5 : (ofT s).2 = false := by simpa using h4
       rw [h5]; rfl
theorem plain_tag_len (v : Int) (s : B) : (plainV v s).1.length ≤ 40 := by
 rcases plain_typed v s with h | ⟨h1, -⟩
 ·rw [h]; show tStr.length ≤ 40; decide
 ·rcases needs_cases h1 with e | e | e | e | e | e <;> rw [e] <;> decide
theorem typed_len {v : Int} {t s : B} (hn : needs t = true) : (typedB v t s).1.length ≤ 40 * s.length + 200 := by
 rcases needs_cases hn with e | e | e | e | e | e <;> subst e
 ·rw [ty_null]; simp
 ·rw [ty_bool]; cases (boolW v s).2 <;> simp; cases (boolW v s).1 <;> simp [boolT] <;> omega
 ·rw [ty_int]
  unfold intV
  have := int11_len s
  have := int12_len s
  cases v == 11 <;> simp only <;> omega
 ·rw [ty_float]
  have hf : DeLen (17 * s.length + 60) (flV v s).1 := by
   unfold flV
   cases v == 11 with
   | true => exact fl11_len2 s
   | false => exact fl12_len2 s
  have := printD_len (flV v s).1
  have h1 := hf.1
  have h2 := hf.2
  cases (flV v s).2 <;> simp; omega
 ·rw [ty_time]
  have := ofT_len s
  omega
 ·rw [ty_bin]
  unfold binT
  have := clean_len s
  cases dec64 (clean s) <;> simp; omega
theorem build_len {v : Int} {t s : B} {p : Bool} (ht : t.length ≤ 100) (hs : s.length ≤ 100) : (buildV v t s p).1.1.length ≤ 10000 ∧ (buildV v t s p).1.2.length ≤ 10000 := by
 have h1 := plain_tag_len v s
 have h2 := plainV_len v s
 have hstr : tStr.length ≤ 40 := by decide
 unfold buildV
 cases t == [] && p with
 | true => simp only [cond_true]; omega
 | false =>
  simp only [cond_false]
  cases t == [] || t == [33] || t == tStr with
  | true => simp only [cond_true]; omega
  | false =>
   simp only [cond_false]
   cases isColl t with
   | true => simp
   | false =>
    simp only [cond_false]
    cases hn : needs t with
    | false => simp only [cond_false]; omega
    | true =>
     have := typed_len (v := v) (s := s) hn
     simp only [cond_true]
     cases (typedB v t s).2 with
     | true => simp only [cond_true]; omega
     | false => simp
end Go.Proofs.YtffmgholjdfcnaaGreatDoor
