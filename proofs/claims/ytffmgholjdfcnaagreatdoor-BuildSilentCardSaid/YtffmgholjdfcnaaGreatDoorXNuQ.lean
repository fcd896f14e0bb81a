/- Texts of this session, joined. -/
import Derived.Test.YtffmgholjdfcnaaGreatDoorXNuP
import Derived.Test.YtffmgholjdfcnaaGreatDoorXStH
set_option linter.unusedSimpArgs false
set_option linter.unusedVariables false
namespace Go.Proofs.YtffmgholjdfcnaaGreatDoor
open Go AM St Nu
variable {C : Nat → Env → (Env → Option Out) → Option Out}
section
variable {K : Tk73}
end
def A42 : Ty42 := fun s K => K (nulls.contains s)
theorem nulls_eq (s : B) : nulls.contains s = (s == [] || (s == [126] || (s == [110, 117, 108, 108] || (s == [78, 117, 108, 108] || (s == [78, 85, 76, 76] || false))))) := by
 rw [List.contains_eq_any_beq]
 rfl
theorem eq42 (hC : Cv C) (s : B) (K : Tk42) : run42 C big s K = A42 s K := by
 rw [run42_eq]
 simp only [p1_42_eq _ hC]
 unfold A42
 rw [nulls_eq]
 cases s == ([] : B) <;> cases s == ([126] : B) <;> cases s == ([110, 117, 108, 108] : B) <;> cases s == ([78, 117, 108, 108] : B) <;> cases s == ([78, 85, 76, 76] : B) <;> rfl
theorem yes11_eq (s : B) : yes11.contains s = (s == [121] || (s == [89] || (s == [121, 101, 115] || (s == [89, 101, 115] || (s == [89, 69, 83] || (s == [111, 110] || (s == [79, 110] || (s == [79, 78] || false)))))))) := by
 rw [List.contains_eq_any_beq]
 rfl
theorem no11_eq (s : B) : no11.contains s = (s == [110] || (s == [78] || (s == [110, 111] || (s == [78, 111] || (s == [78, 79] || (s == [111, 102, 102] || (s == [79, 102, 102] || (s == [79, 70, 70] || false)))))))) := by
 rw [List.contains_eq_any_beq]
 rfl
theorem yes12_eq (s : B) : yes12.contains s = (s == [116, 114, 117, 101] || (s == [84, 114, 117, 101] || (s == [84, 82, 85, 69] || false))) := by
 rw [List.contains_eq_any_beq]
 rfl
theorem no12_eq (s : B) : no12.contains s = (s == [102, 97, 108, 115, 101] || (s == [70, 97, 108, 115, 101] || (s == [70, 65, 76, 83, 69] || false))) := by
 rw [List.contains_eq_any_beq]
 rfl
theorem words_apart : (∀ x ∈ yes11 ++ no11, yes12.contains x = false ∧ no12.contains x = false) ∧ (∀ x ∈ no11, yes11.contains x = false) := by decide
theorem boolW_old {s : B} (h : yes11.contains s = true ∨ no11.contains s = true) (v : Int) : boolW v s = (match v == 11 with | false => (false, false) | true => (yes11.contains s, true)) := by
 have hm : s ∈ yes11 ++ no11 := by
  rw [List.mem_append]
  rcases h with h | h
  ·exact .inl (List.contains_iff_mem.1 h)
  ·exact .inr (List.contains_iff_mem.1 h)
 obtain ⟨h1, h2⟩ := words_apart.1 s hm
 unfold boolW
 rw [h1, h2]
 have : (yes11.contains s || no11.contains s) = true := by rcases h with h | h <;> rw [h] <;> simp
 rw [this]
 rfl
def A40 : Ty40 := fun v s K => K (boolW v s).1 (boolW v s).2
theorem eq40 (hC : Cv C) (v : Int) (s : B) (K : Tk40) : run40 C big v s K = A40 v s K := by
 have hrun : run40 C big v s K = p1_40 C big v false s (yes11.contains s) K := by
  rw [run40_eq, yes11_eq]
  simp only [Bool.or_false]
  cases s == ([121] : B) <;> cases s == ([89] : B) <;> cases s == ([121, 101, 115] : B) <;> cases s == ([89, 101, 115] : B) <;> cases s == ([89, 69, 83] : B) <;> cases s == ([111, 110] : B) <;> cases s == ([79, 110] : B) <;> rfl
 have hp1 : p1_40 C big v false s false K = p3_40 C big v false s (no11.contains s) K := by
  rw [p1_40_eq _ hC, no11_eq]
  simp only [Bool.or_false, cond_false]
  cases s == ([110] : B) <;> cases s == ([78] : B) <;> cases s == ([110, 111] : B) <;> cases s == ([78, 111] : B) <;> cases s == ([78, 79] : B) <;> cases s == ([111, 102, 102] : B) <;> cases s == ([79, 102, 102] : B) <;> rfl
 have hp3 : p3_40 C big v false s false K = p4_40 C big false s (yes12.contains s) K := by
  rw [p3_40_eq _ hC, yes12_eq]
  simp only [Bool.or_false, cond_false]
  cases s == ([116, 114, 117, 101] : B) <;> cases s == ([84, 114, 117, 101] : B) <;> rfl
 have hp4 : p4_40 C big false s false K = p6_40 C big false (no12.contains s) K := by
  rw [p4_40_eq _ hC, no12_eq]
  simp only [Bool.or_false, cond_false]
  cases s == ([102, 97, 108, 115, 101] : B) <;> cases s == ([70, 97, 108, 115, 101] : B) <;> rfl
 rw [hrun]
 unfold A40
 cases hy : yes11.contains s with
 | true =>
  rw [boolW_old (.inl hy), p1_40_eq _ hC, cond_true, p2_40_eq _ hC, hy]
  cases v == 11 <;> rfl
 | false =>
  rw [hp1]
  cases hn : no11.contains s with
  | true =>
   rw [boolW_old (.inr hn), p3_40_eq _ hC, cond_true, p2_40_eq _ hC, hy]
   cases v == 11 <;> rfl
  | false =>
   rw [hp3]
   unfold boolW
   rw [hy, hn]
   cases h1 : yes12.contains s with
   | true => rw [p4_40_eq _ hC, cond_true, p5_40_eq _ hC]
   | false =>
    rw [hp4, p6_40_eq _ hC, p5_40_eq _ hC, p7_40_eq _ hC]
    cases no12.contains s with
    | true => rfl
    | false => cases v == 11 <;> rfl
def A70 : Ty70 := fun b K => K (boolT b)
theorem eq70 (b : Bool) (K : Tk70) : run70 C big b K = A70 b K := by rw [run70_eq]; cases b <;> rfl
theorem makeD_len (neg : Bool) {w f e : B} : (makeD neg w f e).1.d.length ≤ w.length + f.length + 1 ∧ (makeD neg w f e).1.e.length ≤ e.length + 30 := by
 unfold makeD
 cases isD (w ++ f) && good e with
 | false => exact ⟨Nat.zero_le _, Nat.zero_le _⟩
 | true =>
  have h1 := dropZ_len (Lib.trimRightB (w ++ f) 48)
  have h2 := trimR_len (w ++ f)
  rw [List.length_append] at h2
  simp only
  cases hz : dropZ (Lib.trimRightB (w ++ f) 48) with
  | nil => exact ⟨by simp, by simp⟩
  | cons c l =>
   rw [hz] at h1
   refine ⟨by simp only at h1 ⊢; omega, ?_⟩
   simp only
   unfold addN
   split
   ·exact Nat.zero_le _
   ·rename_i hg
    simp only [Bool.and_eq_true, decide_eq_true_eq] at hg
    obtain ⟨⟨hg1, hg2⟩, hg3⟩ := hg
    obtain ⟨hd, hdl, -⟩ := good_parts hg1
    unfold stepMax at hg2 hg3
    have hm : -1099511627776 ≤ negIf (bare e).1 (((w ++ f).length : Int) - ((Lib.trimRightB (w ++ f) 48).length : Int) - (f.length : Int)) ∧ negIf (bare e).1 (((w ++ f).length : Int) - ((Lib.trimRightB (w ++ f) 48).length : Int) - (f.length : Int)) ≤ 1099511627776 := by
     unfold negIf
     cases (bare e).1 <;> exact ⟨by simp only; omega, by simp only; omega⟩
    generalize negIf (bare e).1 (((w ++ f).length : Int) - ((Lib.trimRightB (w ++ f) 48).length : Int) - (f.length : Int)) = m at hm
    unfold addS
    by_cases h0 : 0 ≤ m
    ·have hml := mulAdd_len hd (m := 1) (k := m) (by decide) ⟨h0, hm.2⟩
     have := norm_len (bare e).1 (mulAdd (bare e).2 1 m)
     rw [decide_eq_true h0]
     simp only
     omega
    ·have hil := itoa_len (n := -m) (by omega) (by omega)
     rw [decide_eq_false h0]
     simp only
     split
     ·have := norm_len (!(bare e).1) (lessD (Lib.itoa (-m)) (bare e).2)
      have := lessD_len (a := Lib.itoa (-m)) (b := (bare e).2)
      omega
     ·have := norm_len (bare e).1 (lessD (bare e).2 (Lib.itoa (-m)))
      have := lessD_len (a := (bare e).2) (b := Lib.itoa (-m))
      omega
def DeLen (n : Nat) (d : De) : Prop := d.d.length ≤ n ∧ d.e.length ≤ n
theorem odd_len {t : B} {neg sgn : Bool} {d : De} (h : odd t neg sgn = some d) : DeLen 0 d := by
 unfold odd at h
 cases h1 : isInf t with
 | true => rw [h1] at h; simp only at h; cases h; exact ⟨Nat.le_refl _, Nat.le_refl _⟩
 | false =>
  rw [h1] at h
  simp only at h
  cases h2 : isNan t && !sgn with
  | true => rw [h2] at h; simp only at h; cases h; exact ⟨Nat.le_refl _, Nat.le_refl _⟩
  | false => rw [h2] at h; cases h
theorem fl11_len {s : B} (hs : s.length ≤ 10000) : DeLen 1000000 (fl11 s).1 := by
 have hul := unsign_len s
 have hok := read11_ok (unsign s).1 (signed s) (unsign s).2
 rw [fl11_read]
 generalize read11 (unsign s).1 (signed s) (unsign s).2 = f at hok
 obtain ⟨k, fneg, w, fr, ex⟩ := f
 simp only at hok
 unfold toFl
 rcases hok with h0 | h0 | h0 | ⟨h0, h1, hf⟩
 ·subst h0; exact ⟨Nat.zero_le _, Nat.zero_le _⟩
 ·subst h0; exact ⟨Nat.zero_le _, Nat.zero_le _⟩
 ·subst h0; exact ⟨Nat.zero_le _, Nat.zero_le _⟩
 ·obtain ⟨-, -, -, q4, q5, q6⟩ := hf
  simp only at q4 q5 q6
  have hwl := noU_len w
  have hfl := noU_len fr
  have hvl := valueF_len (noU w)
  have hk : (k == 0) = false ∧ (k == 4) = false ∧ (k == 5) = false := by rcases h0 with rfl | rfl | rfl <;> exact ⟨rfl, rfl, rfl⟩
  have hm := makeD_len (unsign s).1 (w := valueF (noU w)) (f := noU fr) (e := ex)
  simp only [hk.1, hk.2.1, hk.2.2]
  exact ⟨by omega, by omega⟩
theorem afterD_len (neg : Bool) {w f t : B} : DeLen (w.length + f.length + t.length + 40) (afterD neg w f t).1 := by
 unfold afterD
 cases h : tailE true t with
 | none => exact ⟨Nat.zero_le _, Nat.zero_le _⟩
 | some exp =>
  have := (tailE_good h).2
  have hm := makeD_len neg (w := w) (f := f) (e := exp)
  exact ⟨by simp only; omega, by simp only; omega⟩
theorem fl12_len {s : B} (hs : s.length ≤ 10000) : DeLen 1000000 (fl12 s).1 := by
 have hul := unsign_len s
 have htl := tD_le (unsign s).2
 have hdl := dD_le (unsign s).2
 rw [fl12_eq]
 cases ho : odd (unsign s).2 (unsign s).1 (signed s) with
 | some d => have := odd_len ho; exact ⟨Nat.le_trans this.1 (Nat.zero_le _), Nat.le_trans this.2 (Nat.zero_le _)⟩
 | none =>
  simp only
  cases int12 s with
  | cons a b => exact ⟨Nat.zero_le _, Nat.zero_le _⟩
  | nil =>
   simp only
   cases hd : dD (unsign s).2 with
   | nil =>
    have hm := makeD_len (unsign s).1 (w := tD (unsign s).2) (f := []) (e := [48])
    simp only [List.length_cons, List.length_nil] at hm
    exact ⟨Nat.le_trans hm.1 (by omega), Nat.le_trans hm.2 (by omega)⟩
   | cons c l =>
    rw [hd] at hdl
    simp only [List.length_cons] at hdl
    have h1 := tD_le l
    have h2 := dD_le l
    simp only
    cases c == 46 with
    | true =>
     have := afterD_len (unsign s).1 (w := tD (unsign s).2) (f := tD l) (t := dD l)
     exact ⟨Nat.le_trans this.1 (by omega), Nat.le_trans this.2 (by omega)⟩
    | false =>
     have := afterD_len (unsign s).1 (w := tD (unsign s).2) (f := []) (t := c :: l)
     simp only [List.length_cons, List.length_nil] at this
     exact ⟨Nat.le_trans this.1 (by omega), Nat.le_trans this.2 (by omega)⟩
theorem A66_ok {d : De} (h : DeLen 1000000 d) (K : Tk66) : A66 d.kind d.neg d.d d.e K = K (printD d) := if_pos ⟨by have := h.1; omega, by have := h.2; omega⟩
def A41 : Ty41 := fun v s K => if s.length ≤ 10000 then K (numV v s).1.1 (numV v s).1.2 (numV v s).2 else none
theorem eq41 (hC : Cv C) (v : Int) (s : B) (K : Tk41) (r : Out) (h : A41 v s K = some r) : run41 C A62 A63 A64 A65 A66 A67 big v s K = some r := by
 unfold A41 at h
 split at h
 ·rename_i hs
  have e62 : ∀ k, A62 s k = k (int12 s) (!(int12 s == [])) := fun k => if_pos (by omega)
  have e63 : ∀ k, A63 s k = k (fl12 s).1.kind (fl12 s).1.neg (fl12 s).1.d (fl12 s).1.e (fl12 s).2 := fun k => if_pos hs
  have e64 : ∀ k, A64 s k = k (int11 s).1 (!((int11 s).2 == 0)) := fun k => if_pos (by omega)
  have e65 : ∀ k, A65 s k = k (fl11 s).1.kind (fl11 s).1.neg (fl11 s).1.d (fl11 s).1.e (!((fl11 s).2 == 0)) := fun k => if_pos hs
  have e67 : ∀ k, A67 s k = k (ofT s).1 (ofT s).2 := fun k => if_pos (by omega)
  rw [← h, run41_eq]
  simp only [p1_41_eq _ _ _ _ _ _ _ hC, e62, e63, e64, e65, e67, A66_ok (fl11_len hs), A66_ok (fl12_len hs)]
  unfold numV intV flV
  cases hv : v == 11 with
  | true =>
   simp only [cond_true]
   cases !((int11 s).2 == 0) with
   | true => rfl
   | false =>
    simp only [cond_false]
    cases !((fl11 s).2 == 0) with
    | true => rfl
    | false => cases (ofT s).2 <;> rfl
  | false =>
   simp only [cond_false]
   cases !(int12 s == []) with
   | true => rfl
   | false =>
    simp only [cond_false]
    cases (fl12 s).2 <;> rfl
 ·cases h
def A16 : Ty16 := fun v s K => if s.length ≤ 10000 then K (plainV v s).1 (plainV v s).2 else none
theorem eq16 (hC : Cv C) (v : Int) (s : B) (K : Tk16) (r : Out) (h : A16 v s K = some r) : run16 C A40 A41 A42 A43 big v s K = some r := by
 unfold A16 at h
 split at h
 ·rename_i hs
  have e40 : ∀ k, A40 v s k = k (boolW v s).1 (boolW v s).2 := fun k => rfl
  have e41 : ∀ k, A41 v s k = k (numV v s).1.1 (numV v s).1.2 (numV v s).2 := fun k => if_pos hs
  have e42 : ∀ k, A42 s k = k (nulls.contains s) := fun k => rfl
  have e43 : ∀ k, A43 s k = k s := fun k => if_pos (by omega)
  rw [← h, run16_eq, e40, e41, e42]
  simp only [p1_16_eq _ _ _ _ _ hC, e43]
  unfold plainV
  cases nulls.contains s with
  | true => rfl
  | false =>
   cases (boolW v s).2 with
   | true => cases (boolW v s).1 <;> rfl
   | false => cases (numV v s).2 <;> rfl
 ·cases h
def typedV (v : Int) (tag s : B) : B × Bool :=
 if tag = tNull then ([], nulls.contains s)
 else if tag = tBool then (match (boolW v s).2 with | true => (boolT (boolW v s).1, true) | false => ([], false))
 else if tag = tInt then intV v s
 else if tag = tFloat then (match (flV v s).2 with | true => (printD (flV v s).1, true) | false => ([], false))
 else if tag = tTime then ofT s
 else ([], false)
def tBin : B := [116, 97, 103, 58, 121, 97, 109, 108, 46, 111, 114, 103, 44, 50, 48, 48, 50, 58, 98, 105, 110, 97, 114, 121]
end Go.Proofs.YtffmgholjdfcnaaGreatDoor
