/- Texts of this session, joined. -/
import Derived.Test.YtffmgholjdfcnaaGreatDoorXNvG
import Derived.Test.YtffmgholjdfcnaaGreatDoorXNvD
set_option linter.unusedSimpArgs false
set_option linter.unusedVariables false
namespace Go.Proofs.YtffmgholjdfcnaaGreatDoor
open Go AM St Nu
variable {C : Nat → Env → (Env → Option Out) → Option Out}
theorem nameT_mem (k : Int) : nameT k ∈ names16 := by
 unfold nameT
 have hlt : k.toNat % 16 < names16.length := by show _ < 16; omega
 rw [List.getD_eq_getElem?_getD, List.getElem?_eq_getElem hlt]
 exact List.getElem_mem hlt
def A7 : Ty7 := fun old s k plain again seed K => if (0 ≤ k ∧ k ≤ 255) ∧ (∀ x, x ∈ seed → 0 ≤ x ∧ x ≤ 255) then K true else none
theorem step7 (hC : Cv C) (kk j : Nat) {k V i i' : Int} {plain again : Bool} {X : List B} {x : B} {K : Tk7} (hk : 0 ≤ k ∧ k ≤ 255) (hx : x.length ≤ 100) (hX : X.length = 2) (hi : 0 ≤ i ∧ i < 2) (hw : X[i.toNat]? = some x) (hi' : i' = i + 1) :
  l2_7 C A19 A22 A23 A24 A25 kk (j + 1) k plain again V X 2 i K = l2_7 C A19 A22 A23 A24 A25 kk j k plain again V X 2 i' K := by
 subst hi'
 have hb : (decide (0 ≤ i) && decide (i < (X.length : Int))) = true := by rw [hX, decide_eq_true hi.1, decide_eq_true (show i < ((2 : Nat) : Int) by omega)]; rfl
 have e23 : ∀ k', A23 k k' = k' (nameT k) := fun k' => if_pos hk
 have hnl := nameT_len k
 have hp3 : p3_7 C A19 A22 A23 A24 A25 kk j k plain again V X 2 i K = l2_7 C A19 A22 A23 A24 A25 kk j k plain again V X 2 (i + 1) K := by rw [p3_7_eq _ _ _ _ _ _ hC, i64_in (by omega) (by omega)]
 rw [l2_7_eq _ _ _ _ _ _ hC, decide_eq_true hi.2, cond_true, hb, cond_true, hw, Option.bind_some, e23, A25_ok (by omega) (by omega), hp3]
 cases ho : (buildV V (nameT k) x plain).2 with
 | false => rfl
 | true =>
  have h11 := build_own (by omega) (nameT_mem k) ho 11 again
  have h12 := build_own (by omega) (nameT_mem k) ho 12 again
  obtain ⟨l1, l2⟩ := build_len (v := V) (t := nameT k) (s := x) (p := plain) (by omega) hx
  have e11 : ∀ k', A25 11 (buildV V (nameT k) x plain).1.1 (buildV V (nameT k) x plain).1.2 again k' = k' (buildV V (nameT k) x plain).1.1 (buildV V (nameT k) x plain).1.2 true := by
   intro k'
   rw [A25_ok l2 l1, h11]
  have e12 : ∀ k', A25 12 (buildV V (nameT k) x plain).1.1 (buildV V (nameT k) x plain).1.2 again k' = k' (buildV V (nameT k) x plain).1.1 (buildV V (nameT k) x plain).1.2 true := by
   intro k'
   rw [A25_ok l2 l1, h12]
  simp only [e11, e12, beq_self_eq_true, Bool.and_self, Bool.not_true, cond_false, Bool.and_true]
theorem eq7 (hC : Cv C) (old : Bool) (s : B) (k : Int) (plain again : Bool) (seed : List Int) (K : Tk7) (r : Out) (h : A7 old s k plain again seed K = some r) : run7 C A19 A22 A23 A24 A25 big old s k plain again seed K = some r := by
 unfold A7 at h
 split at h
 ·rename_i hc
  obtain ⟨hk, hb⟩ := hc
  have e22 : ∀ k, A22 k = k true := fun k => rfl
  have e19 : ∀ k, A19 old k = k (if old then 11 else 12) := fun k => rfl
  rw [← h, run7_eq, e22]
  simp only [p1_7_eq _ _ _ _ _ _ hC, Bool.not_true, cond_false]
  by_cases h1 : (s.length : Int) > 60
  ·rw [decide_eq_true h1]; rfl
  ·by_cases h3 : (seed.length : Int) > 8
   ·rw [decide_eq_false h1, decide_eq_true h3]; rfl
   ·have hsl := someB_len seed
    have e24 : ∀ k, A24 seed k = k (someB seed) := fun k => if_pos ⟨hb, by omega⟩
    rw [decide_eq_false h1, decide_eq_false h3, cond_false, cond_false, e19, e24]
    obtain ⟨m, hm⟩ : ∃ m, big = m + 3 := ⟨big - 3, by unfold big; omega⟩
    have key : ∀ kk, l2_7 C A19 A22 A23 A24 A25 kk (m + 3) k plain again (if old then 11 else 12) [s, someB seed] 2 0 K = K true := by
     intro kk
     rw [step7 hC kk (m + 2) (i' := 1) (x := s) hk (by omega) rfl ⟨by omega, by omega⟩ rfl rfl, step7 hC kk (m + 1) (i' := 2) (x := someB seed) hk (by omega) rfl ⟨by omega, by omega⟩ rfl rfl, l2_7_eq _ _ _ _ _ _ hC, decide_eq_false (by decide), cond_false]
    rw [← hm] at key
    exact key big
 ·cases h
def A8 : Ty8 := fun old s own plain K => K true
theorem own_tag (own : B) : needs ([33] ++ own ++ [120]) = false ∧ isColl ([33] ++ own ++ [120]) = false ∧ (([33] ++ own ++ [120]) == []) = false ∧ (([33] ++ own ++ [120]) == [33]) = false ∧ (([33] ++ own ++ [120]) == tStr) = false := by
 have h : ∀ (c : UInt8) (l : B), c ≠ 33 → (([33] ++ own ++ [120]) == c :: l) = false := by
  intro c l hc
  cases e : ([33] ++ own ++ [120]) == c :: l with
  | false => rfl
  | true =>
   have := eq_of_beq e
   simp only [List.cons_append, List.nil_append] at this
   injection this with h1 h2
   exact absurd h1.symm hc
 refine ⟨?_, ?_, rfl, ?_, h _ _ (by decide)⟩
 ·unfold needs
  rw [show tNull = 116 :: tNull.tail from rfl, show tBool = 116 :: tBool.tail from rfl, show tInt = 116 :: tInt.tail from rfl, show tFloat = 116 :: tFloat.tail from rfl, show tTime = 116 :: tTime.tail from rfl, show tBin = 116 :: tBin.tail from rfl]
  rw [h _ _ (by decide), h _ _ (by decide), h _ _ (by decide), h _ _ (by decide), h _ _ (by decide), h _ _ (by decide)]
  rfl
 ·unfold isColl
  rw [show tMap = 116 :: tMap.tail from rfl, show tSeq = 116 :: tSeq.tail from rfl, show tSet = 116 :: tSet.tail from rfl, show tOmap = 116 :: tOmap.tail from rfl, show tPairs = 116 :: tPairs.tail from rfl]
  rw [h _ _ (by decide), h _ _ (by decide), h _ _ (by decide), h _ _ (by decide), h _ _ (by decide)]
  rfl
 ·cases e : ([33] ++ own ++ [120]) == [33] with
  | false => rfl
  | true =>
   have := congrArg List.length (eq_of_beq e)
   simp at this
theorem build_tag (v : Int) (own s : B) (p : Bool) : buildV v ([33] ++ own ++ [120]) s p = (([33] ++ own ++ [120], s), true) := by
 obtain ⟨h1, h2, h3, h4, h5⟩ := own_tag own
 unfold buildV
 rw [h1, h2, h3, h4, h5]
 rfl
theorem eq8 (hC : Cv C) (old : Bool) (s own : B) (plain : Bool) (K : Tk8) (r : Out) (h : A8 old s own plain K = some r) : run8 C A16 A19 A22 A25 big old s own plain K = some r := by
 unfold A8 at h
 have e22 : ∀ k, A22 k = k true := fun k => rfl
 have e19 : ∀ k, A19 old k = k (if old then 11 else 12) := fun k => rfl
 rw [← h, run8_eq, e22]
 simp only [p1_8_eq _ _ _ _ _ hC, Bool.not_true, cond_false]
 by_cases h1 : (s.length : Int) > 100
 ·rw [decide_eq_true h1]; rfl
 ·by_cases h3 : (own.length : Int) > 40
  ·rw [decide_eq_false h1, decide_eq_true h3]; rfl
  ·rw [decide_eq_false h1, decide_eq_false h3, cond_false, cond_false, e19]
   generalize (if old then (11 : Int) else 12) = V
   have hs : s.length ≤ 10000 := by omega
   have c1 : cat ([33] : B) own = some ([33] ++ own) := cat_ok (by simp; omega)
   have c2 : cat ([33] ++ own) ([120] : B) = some ([33] ++ own ++ [120]) := cat_ok (by simp; omega)
   have b1 : ∀ k, A25 V [] s false k = k tStr s true := fun k => A25_ok hs (by simp) k
   have b2 : ∀ k, A25 V [33] s plain k = k tStr s true := by
    intro k
    rw [A25_ok hs (by simp)]
    cases plain <;> rfl
   have b3 : ∀ k, A25 V tStr s plain k = k tStr s true := by
    intro k
    rw [A25_ok hs tStr_len, build_str]
   have b4 : ∀ k, A25 V ([33] ++ own ++ [120]) s plain k = k ([33] ++ own ++ [120]) s true := by
    intro k
    rw [A25_ok hs (by simp; omega), build_tag]
   have b5 : ∀ k, A25 V [] s true k = k (plainV V s).1 (plainV V s).2 true := fun k => A25_ok hs (by simp) k
   have e16 : ∀ k, A16 V s k = k (plainV V s).1 (plainV V s).2 := fun k => if_pos hs
   rw [b1, b2]
   refine (b3 _).trans ?_
   rw [c1, Option.bind_some, c2, Option.bind_some, b4, b5]
   simp only [c1, c2, Option.bind_some, e16, beq_self_eq_true, Bool.and_self, Bool.and_true, cond_true]
   rfl
def A9 : Ty9 := fun old s seed k K => if (0 ≤ k ∧ k ≤ 255) ∧ (∀ x, x ∈ seed → 0 ≤ x ∧ x ≤ 255) then K true else none
theorem step9 (hC : Cv C) (kk j : Nat) {k i i' : Int} {old : Bool} {X : List B} {x : B} {K : Tk9} (hk : 0 ≤ k ∧ k ≤ 255) (hx : x.length ≤ 100) (hX : X.length = 2) (hi : 0 ≤ i ∧ i < 2) (hw : X[i.toNat]? = some x) (hi' : i' = i + 1) :
  l2_9 C A16 A19 A22 A24 A25 kk (j + 1) old k (if old then 11 else 12) forms5 X 2 i K = l2_9 C A16 A19 A22 A24 A25 kk j old k (if old then 11 else 12) forms5 X 2 i' K := by
 subst hi'
 have hV : (if old then (11 : Int) else 12) = 11 ∨ (if old then (11 : Int) else 12) = 12 := by cases old <;> decide
 have hV12 : (if old then (11 : Int) else 12) = 12 ↔ old = false := by cases old <;> decide
 generalize (if old then (11 : Int) else 12) = V at *
 have hb : (decide (0 ≤ i) && decide (i < (X.length : Int))) = true := by rw [hX, decide_eq_true hi.1, decide_eq_true (show i < ((2 : Nat) : Int) by omega)]; rfl
 have hs : x.length ≤ 10000 := by omega
 have e16 : ∀ k, A16 V x k = k (plainV V x).1 (plainV V x).2 := fun k => if_pos hs
 have htl := plain_tag_len V x
 have e25 : ∀ k', A25 V (plainV V x).1 x true k' = k' (plainV V x).1 (plainV V x).2 true := by
  intro k'
  rw [A25_ok hs (by omega), plain_build]
 have hb5 : (decide (0 ≤ k.tmod 5) && decide (k.tmod 5 < 5)) = true := by rw [tmod_nn hk.1, decide_eq_true (by omega), decide_eq_true (by omega)]; rfl
 obtain ⟨t, ht, htm⟩ : ∃ t, forms5[0 + (k.tmod 5).toNat]? = some t ∧ t ∈ forms5 := by
  have hlt : 0 + (k.tmod 5).toNat < forms5.length := by show _ < 5; rw [tmod_nn hk.1]; omega
  exact ⟨_, List.getElem?_eq_getElem hlt, List.getElem_mem hlt⟩
 have htl2 : t.length ≤ 10000 := by
  have : ∀ x ∈ forms5, x.length ≤ 10000 := by decide
  exact this t htm
 have e25t : ∀ k', A25 V t x true k' = k' (buildV V t x true).1.1 (buildV V t x true).1.2 (typedB V t x).2 := by
  intro k'
  have hnt : needs t = true := by
   have : ∀ x ∈ forms5, needs x = true := by decide
   exact this t htm
  have : (buildV V t x true).2 = (typedB V t x).2 := by
   rw [buildV_needs hnt]
   cases (typedB V t x).2 <;> rfl
  rw [A25_ok hs htl2, this]
 rw [l2_9_eq _ _ _ _ _ _ hC, decide_eq_true hi.2, cond_true, hb, cond_true, hw, Option.bind_some, e16, e25, hb5, cond_true, ht]
 simp only [Option.bind_some, beq_self_eq_true, Bool.and_self, Bool.and_true, Bool.not_true, cond_false, e25t]
 rw [i64_in (by omega) (by omega)]
 by_cases hx2 : t = tTime ∧ V = 12
 ·obtain ⟨h1, h2⟩ := hx2
  have ho := hV12.1 h2
  subst h1 ho
  cases (typedB V tTime x).2 == (tTime == (plainV V x).1) <;> rfl
 ·rw [only_one hV htm hx2, beq_self_eq_true]
  rfl
theorem eq9 (hC : Cv C) (old : Bool) (s : B) (seed : List Int) (k : Int) (K : Tk9) (r : Out) (h : A9 old s seed k K = some r) : run9 C A16 A19 A22 A24 A25 big old s seed k K = some r := by
 unfold A9 at h
 split at h
 ·rename_i hc
  obtain ⟨hk, hb⟩ := hc
  have e22 : ∀ k, A22 k = k true := fun k => rfl
  have e19 : ∀ k, A19 old k = k (if old then 11 else 12) := fun k => rfl
  rw [← h, run9_eq, e22]
  simp only [p1_9_eq _ _ _ _ _ _ hC, Bool.not_true, cond_false]
  by_cases h1 : (s.length : Int) > 60
  ·rw [decide_eq_true h1]; rfl
  ·by_cases h3 : (seed.length : Int) > 8
   ·rw [decide_eq_false h1, decide_eq_true h3]; rfl
   ·have hsl := someB_len seed
    have e24 : ∀ k, A24 seed k = k (someB seed) := fun k => if_pos ⟨hb, by omega⟩
    rw [decide_eq_false h1, decide_eq_false h3, cond_false, cond_false, e19, e24]
    obtain ⟨m, hm⟩ : ∃ m, big = m + 3 := ⟨big - 3, by unfold big; omega⟩
    have key : ∀ kk, l2_9 C A16 A19 A22 A24 A25 kk (m + 3) old k (if old then 11 else 12) forms5 [s, someB seed] 2 0 K = K true := by
     intro kk
     rw [step9 hC kk (m + 2) (i' := 1) (x := s) hk (by omega) rfl ⟨by omega, by omega⟩ rfl rfl, step9 hC kk (m + 1) (i' := 2) (x := someB seed) hk (by omega) rfl ⟨by omega, by omega⟩ rfl rfl, l2_9_eq _ _ _ _ _ _ hC, decide_eq_false (by decide), cond_false]
    rw [← hm] at key
    exact key big
 ·cases h
end Go.Proofs.YtffmgholjdfcnaaGreatDoor
