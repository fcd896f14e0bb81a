/- Texts of this session, joined. -/
import Derived.Test.YtffmgholjdfcnaaGreatDoorWNvD
set_option linter.unusedSimpArgs false
set_option linter.unusedVariables false
namespace Go.Proofs.YtffmgholjdfcnaaGreatDoor
open Go AM St Nu
open Go.IntKind (i64 u8)
variable {C : Nat → Env → (Env → Option Out) → Option Out}
def A6 : Ty6 := fun v tag s k plain seed K => if (0 ≤ k ∧ k ≤ 255) ∧ (∀ x, x ∈ seed → 0 ≤ x ∧ x ≤ 255) then K true else none
noncomputable abbrev L2 (C : Nat → Env → (Env → Option Out) → Option Out) := l2_6 C A22 A23 A24 A25 A26 A27 A28
noncomputable abbrev L3 (C : Nat → Env → (Env → Option Out) → Option Out) := l3_6 C A22 A23 A24 A25 A26 A27 A28
noncomputable abbrev L4 (C : Nat → Env → (Env → Option Out) → Option Out) := l4_6 C A22 A23 A24 A25 A26 A27 A28
theorem step6 (hC : Cv C) {v : Int} {s t x : B} {plain : Bool} {seed : List Int} {T : List B} {n i : Int} {X : List B} {n' i' : Int} {K : Tk6} (kk j0 j1 j2 : Nat) {W : List Int} {w p p' : Int}
  (ht : t.length ≤ 10000) (hx : x.length ≤ 10000) (hW : W.length = 3) (hp : 0 ≤ p ∧ p < 3) (hw : W[p.toNat]? = some w) (hp' : p' = p + 1) :
  L4 C kk j0 j1 (j2 + 1) v s plain seed t x T n i X n' i' W 3 p K = L4 C kk j0 j1 j2 v s plain seed t x T n i X n' i' W 3 p' K := by
 subst hp'
 have hb : (decide (0 ≤ p) && decide (p < (W.length : Int))) = true := by rw [hW, decide_eq_true hp.1, decide_eq_true (show p < ((3 : Nat) : Int) by omega)]; rfl
 show l4_6 C A22 A23 A24 A25 A26 A27 A28 kk j0 j1 (j2 + 1) v s plain seed t x T n i X n' i' W 3 p K = _
 rw [l4_6_eq _ _ _ _ _ _ _ _ hC, decide_eq_true hp.2, cond_true, hb, cond_true, hw, Option.bind_some, A25_ok hx ht, A26_ok hx ht]
 simp only [beq_self_eq_true, Bool.and_self, Bool.not_true, cond_false, Bool.and_true]
 rw [i64_in (by omega) (by omega)]
theorem runL4 (hC : Cv C) {v : Int} {s t x : B} {plain : Bool} {seed : List Int} {T : List B} {n i : Int} {X : List B} {n' i' : Int} {K : Tk6} (kk j0 j1 m : Nat)
  (ht : t.length ≤ 10000) (hx : x.length ≤ 10000) :
  L4 C kk j0 j1 (m + 4) v s plain seed t x T n i X n' i' [11, 12, v] 3 0 K = L3 C kk j0 j1 v s plain seed t T n i X n' (i64.wrap (i' + 1)) K := by
 rw [step6 hC kk j0 j1 (m + 3) ht hx rfl ⟨by omega, by omega⟩ (w := 11) rfl (p' := 1) rfl, step6 hC kk j0 j1 (m + 2) ht hx rfl ⟨by omega, by omega⟩ (w := 12) rfl (p' := 2) rfl, step6 hC kk j0 j1 (m + 1) ht hx rfl ⟨by omega, by omega⟩ (w := v) rfl (p' := 3) rfl]
 show l4_6 C A22 A23 A24 A25 A26 A27 A28 kk j0 j1 (m + 1) v s plain seed t x T n i X n' i' [11, 12, v] 3 3 K = _
 rw [l4_6_eq _ _ _ _ _ _ _ _ hC, decide_eq_false (by decide), cond_false]
theorem step3L (hC : Cv C) {v : Int} {s t x : B} {plain : Bool} {seed : List Int} {T : List B} {n i : Int} {X : List B} {p p' : Int} {K : Tk6} (kk j0 j1 m : Nat) (hm : kk = m + 4)
  (ht : t.length ≤ 10000) (hx : x.length ≤ 10000) (hX : X.length = 2) (hp : 0 ≤ p ∧ p < 2) (hw : X[p.toNat]? = some x) (hp' : p' = p + 1) :
  L3 C kk j0 (j1 + 1) v s plain seed t T n i X 2 p K = L3 C kk j0 j1 v s plain seed t T n i X 2 p' K := by
 subst hp'
 have hb : (decide (0 ≤ p) && decide (p < (X.length : Int))) = true := by rw [hX, decide_eq_true hp.1, decide_eq_true (show p < ((2 : Nat) : Int) by omega)]; rfl
 have r4 := runL4 hC (v := v) (s := s) (t := t) (x := x) (plain := plain) (seed := seed) (T := T) (n := n) (i := i) (X := X) (n' := 2) (i' := p) (K := K) kk j0 j1 m ht hx
 rw [← hm] at r4
 show l3_6 C A22 A23 A24 A25 A26 A27 A28 kk j0 (j1 + 1) v s plain seed t T n i X 2 p K = _
 rw [l3_6_eq _ _ _ _ _ _ _ _ hC, decide_eq_true hp.2, cond_true, hb, cond_true, hw, Option.bind_some]
 refine r4.trans ?_
 rw [i64_in (by omega) (by omega)]
theorem run3L (hC : Cv C) {v : Int} {s t a b : B} {plain : Bool} {seed : List Int} {T : List B} {n i : Int} {K : Tk6} (kk j0 q m : Nat) (hm : kk = m + 4)
  (ht : t.length ≤ 10000) (ha : a.length ≤ 10000) (hb : b.length ≤ 10000) :
  L3 C kk j0 (q + 3) v s plain seed t T n i [a, b] 2 0 K = L2 C kk j0 v s plain seed T n (i64.wrap (i + 1)) K := by
 rw [step3L hC kk j0 (q + 2) m hm ht ha rfl ⟨by omega, by omega⟩ rfl (p' := 1) rfl, step3L hC kk j0 (q + 1) m hm ht hb rfl ⟨by omega, by omega⟩ rfl (p' := 2) rfl]
 show l3_6 C A22 A23 A24 A25 A26 A27 A28 kk j0 (q + 1) v s plain seed t T n i [a, b] 2 2 K = _
 have e27 : ∀ k, A27 t k = k (needs t) := fun k => rfl
 have e28 : ∀ k, A28 t k = k (needs t) := fun k => rfl
 rw [l3_6_eq _ _ _ _ _ _ _ _ hC, decide_eq_false (by decide), cond_false, e27, e28, beq_self_eq_true]
 rfl
theorem step2L (hC : Cv C) {v : Int} {s t : B} {plain : Bool} {seed : List Int} {T : List B} {p p' : Int} {K : Tk6} (kk j0 m : Nat) (hm : kk = m + 4)
  (hs : s.length ≤ 10000) (hseed : (∀ x, x ∈ seed → 0 ≤ x ∧ x ≤ 255) ∧ seed.length ≤ 100) (ht : t.length ≤ 10000) (hT : T.length = 2) (hp : 0 ≤ p ∧ p < 2) (hw : T[p.toNat]? = some t) (hp' : p' = p + 1) :
  L2 C kk (j0 + 1) v s plain seed T 2 p K = L2 C kk j0 v s plain seed T 2 p' K := by
 subst hp'
 have hsl := someB_len seed
 have hb : (decide (0 ≤ p) && decide (p < (T.length : Int))) = true := by rw [hT, decide_eq_true hp.1, decide_eq_true (show p < ((2 : Nat) : Int) by omega)]; rfl
 have e24 : ∀ k, A24 seed k = k (someB seed) := fun k => if_pos ⟨hseed.1, by omega⟩
 have r3 := run3L hC (v := v) (s := s) (t := t) (a := s) (b := someB seed) (plain := plain) (seed := seed) (T := T) (n := 2) (i := p) (K := K) kk j0 (m + 1) m hm ht hs (by omega)
 have e : m + 1 + 3 = kk := by omega
 rw [e] at r3
 show l2_6 C A22 A23 A24 A25 A26 A27 A28 kk (j0 + 1) v s plain seed T 2 p K = _
 rw [l2_6_eq _ _ _ _ _ _ _ _ hC, decide_eq_true hp.2, cond_true, hb, cond_true, hw, Option.bind_some, e24]
 refine r3.trans ?_
 rw [i64_in (by omega) (by omega)]
theorem eq6 (hC : Cv C) (v : Int) (tag s : B) (k : Int) (plain : Bool) (seed : List Int) (K : Tk6) (r : Out) (h : A6 v tag s k plain seed K = some r) : run6 C A22 A23 A24 A25 A26 A27 A28 big v tag s k plain seed K = some r := by
 unfold A6 at h
 split at h
 ·rename_i hc
  obtain ⟨hk, hb⟩ := hc
  have e22 : ∀ k, A22 k = k true := fun k => rfl
  rw [← h, run6_eq, e22]
  simp only [p1_6_eq _ _ _ _ _ _ _ _ hC, Bool.not_true, cond_false]
  by_cases h1 : (s.length : Int) > 60
  ·rw [decide_eq_true h1]; rfl
  ·by_cases h2 : (tag.length : Int) > 60
   ·rw [decide_eq_false h1, decide_eq_true h2]; rfl
   ·by_cases h3 : (seed.length : Int) > 8
    ·rw [decide_eq_false h1, decide_eq_false h2, decide_eq_true h3]; rfl
    ·have e23 : ∀ k', A23 k k' = k' (nameT k) := fun k' => if_pos hk
     have hnl := nameT_len k
     rw [decide_eq_false h1, decide_eq_false h2, decide_eq_false h3, cond_false, cond_false, cond_false, e23]
     obtain ⟨m, hm⟩ : ∃ m, big = m + 4 := ⟨big - 4, by unfold big; omega⟩
     have key : ∀ kk, kk = m + 4 → L2 C kk (m + 4) v s plain seed [tag, nameT k] 2 0 K = K true := by
      intro kk hkk
      rw [step2L hC kk (m + 3) m hkk (t := tag) (by omega) ⟨hb, by omega⟩ (by omega) rfl ⟨by omega, by omega⟩ rfl (p' := 1) rfl, step2L hC kk (m + 2) m hkk (t := nameT k) (by omega) ⟨hb, by omega⟩ (by omega) rfl ⟨by omega, by omega⟩ rfl (p' := 2) rfl]
      show l2_6 C A22 A23 A24 A25 A26 A27 A28 kk (m + 2) v s plain seed [tag, nameT k] 2 2 K = _
      rw [l2_6_eq _ _ _ _ _ _ _ _ hC, decide_eq_false (by decide), cond_false]
     have := key (m + 4) rfl
     rw [← hm] at this
     exact this
 ·cases h
end Go.Proofs.YtffmgholjdfcnaaGreatDoor
