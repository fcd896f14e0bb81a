/- The interpreter's functions are the machine's. -/
import Derived.Test.YtnfjggagenmkjaaDoorAmS
set_option linter.unusedSimpArgs false
namespace Go.Proofs.YtnfjggagenmkjaaDoor.AM
open Go

variable {P : Program} {G : World → Prop} {ng : Nat} {base : Nat} {pb : Option Nat} {w0 w w' : World} {e : Env} {a : Act} {Γ : Gam} {nn : Nat} {Lv : Nat → Option (List (Nat × Co))} {Cut : Nat → Env → (Env → Option Out) → Option Out}

/-- What stands of the world while the program runs. -/
structure Stays (P : Program) (G : World → Prop) (ng : Nat) : Prop where
  stays : ∀ w w', G w → (∀ b, b < ng → w'.heap[b]? = w.heap[b]?) → w'.os = w.os → w'.tape = w.tape → w'.output = w.output → w.heap.size ≤ w'.heap.size → G w'
  mixed : P.follows .mixedOrders = true

def resF (tmps : Array Value) : ResultVar → Sem Value
  | .tmp t => pure (tmps.getD t undef)
  | .cell a t => do loadVar t (← asAddr (tmps.getD a undef))
theorem outC_rel (h : Sim P base pb w0 w e a.tmps) {rt : Nat} {rv : ResultVar} {c : C} (hc : outC P e rt rv = some c) : ∃ v, (resF a.tmps rv).run P w = .ok v w ∧ (∀ base' pb', RelC base' pb' w c v) ∧
    (∀ b, b ∈ blksC c v → ∃ s ∈ outS e rv, b ∈ blks (e.getD s .u) (a.tmps.getD s undef) ∧ isSl (e.getD s .u) = true) ∧ (blksC c v).Nodup := by
  cases rv with
  | tmp t =>
    have hr := h.rel t
    simp only [outC] at hc
    split at hc
    · rename_i ht
      split at hc
      · rename_i el z hz
        cases hc
        rw [ht] at hr
        have hv : a.tmps.getD t undef = .slice none 0 0 := hr
        refine ⟨_, rfl, fun _ _ => .inl ⟨hv, xsOf_len _ _⟩, fun b hb => ?_, nodup_blkOf _⟩
        rw [hv] at hb; simp [blksC, blkOf, baseOf] at hb
      · cases hc
    · rename_i s _ ht
      cases hc; rw [ht] at hr
      exact ⟨_, rfl, fun _ _ => hr, fun b hb => (by cases hb), by simp [blksC]⟩
    · rename_i x ht
      cases hc; rw [ht] at hr
      exact ⟨_, rfl, fun _ _ => hr, fun b hb => (by cases hb), by simp [blksC]⟩
    · rename_i x ht
      cases hc; rw [ht] at hr
      refine ⟨_, rfl, fun _ _ => hr, fun b hb => ⟨t, by simp only [outS, ht, List.mem_singleton], by rw [ht]; exact hb, by rw [ht]; rfl⟩, nodup_blkOf _⟩
    · rename_i s ht
      rw [ht] at hr
      split at hc
      · rename_i x hs
        cases hc
        have hr' := h.rel s
        rw [hs] at hr'
        have hv : a.tmps.getD t undef = a.tmps.getD s undef := hr.2
        refine ⟨_, rfl, fun _ _ => by rw [hv]; exact hr', fun b hb => ⟨s, by simp only [outS, ht, List.mem_singleton], by rw [hs, ← hv]; exact hb, by rw [hs]; rfl⟩, nodup_blkOf _⟩
      · cases hc
    · cases hc
  | cell ad t =>
    simp only [outC] at hc
    split at hc
    · rename_i s hx
      split at hc
      · rename_i T x hs hag
        split at hc
        · rename_i hT
          have hT : T = t := by simpa using hT
          subst hT
          cases hc
          have hv := (rd_rel h ad).1
          rw [hx] at hv
          obtain ⟨-, A, g2, g3⟩ := hv
          have hr := h.rel s
          rw [hs] at hr
          obtain ⟨b, k1, k2, k3⟩ := hr
          obtain ⟨h1, h2⟩ := isAggB_run hag w
          have h3 := cells_at h (s := s) (x := x) (by unfold contentB; rw [hs]) (lo := 0) (n := x.len) (by omega) (A := A) (fun _ => g2)
          refine ⟨.agg x.enc.toArray, ?_, fun _ _ => rfl, fun b hb => (by cases hb), by simp [blksC]⟩
          have hcut : x.cut 0 x.len = x := by cases x <;> simp [Xs.cut, Xs.len]
          rw [hcut] at h3
          simp only [resF, g3, asAddr, Sem.run_bind, Sem.run_pure, Result.andThen_ok, loadVar, h1, if_true, h2, k3, Sem.run_ite, h3]
        · cases hc
      · cases hc
    · cases hc
theorem outCs_rel (h : Sim P base pb w0 w e a.tmps) : ∀ {ts : List Nat} {rs : List ResultVar} {l : List C}, outCs P e ts rs = some l → ∃ vs : List Value, (rs.mapM (resF a.tmps)).run P w = .ok vs w ∧ vs.length = l.length ∧ (∀ base' pb', RelL base' pb' w l vs) ∧
    (∀ b, b ∈ blksL l vs → ∃ s ∈ rs.flatMap (outS e), b ∈ blks (e.getD s .u) (a.tmps.getD s undef) ∧ isSl (e.getD s .u) = true) ∧ (apartB (rs.flatMap (outS e)) = true → (blksL l vs).Nodup)
  | _, [], l, hc => by
    have hl : l = [] := by
      unfold outCs at hc
      cases ‹List Nat› <;> (simp at hc; exact hc)
    subst hl
    exact ⟨[], rfl, rfl, fun _ _ => .nil, fun b hb => (by cases hb), fun _ => by simp [blksL]⟩
  | [], r :: rs, l, hc => by cases hc
  | t :: ts, r :: rs, l, hc => by
    simp only [outCs] at hc
    split at hc
    · rename_i c cs h1 h2
      cases hc
      obtain ⟨v, k1, k2, k3, k4⟩ := outC_rel h h1
      obtain ⟨vs, g1, g0, g2, g3, g4⟩ := outCs_rel h h2
      refine ⟨v :: vs, ?_, by simp [g0], fun b p => .cons (k2 b p) (g2 b p), fun b hb => ?_, fun hap => ?_⟩
      · rw [List.mapM_cons]
        simp only [Sem.run_bind, k1, Result.andThen_ok, g1, Sem.run_pure]
      · simp only [blksL, List.mem_append] at hb
        simp only [List.flatMap_cons, List.mem_append]
        rcases hb with hb | hb
        · obtain ⟨s, q1, q2⟩ := k3 b hb; exact ⟨s, .inl q1, q2⟩
        · obtain ⟨s, q1, q2⟩ := g3 b hb; exact ⟨s, .inr q1, q2⟩
      · have split2 : ∀ (A B : List Nat), apartB (A ++ B) = true → apartB B = true ∧ ∀ x, x ∈ A → x ∉ B := by
          intro A B
          induction A with
          | nil => intro h; exact ⟨h, fun x hx => by cases hx⟩
          | cons y A ih =>
            intro h
            simp only [List.cons_append, apartB, Bool.and_eq_true, Bool.not_eq_true'] at h
            obtain ⟨i1, i2⟩ := ih h.2
            refine ⟨i1, fun x hx => ?_⟩
            rcases List.mem_cons.1 hx with rfl | hx
            · intro hb
              have := h.1
              rw [List.contains_eq_mem] at this
              simp [hb] at this
            · exact i2 x hx
        rw [List.flatMap_cons] at hap
        obtain ⟨a1, a2⟩ := split2 _ _ hap
        simp only [blksL]
        refine List.nodup_append.2 ⟨k4, g4 a1, fun x hx y hy hxy => ?_⟩
        subst hxy
        obtain ⟨s1, p1, p2, -⟩ := k3 x hx
        obtain ⟨s2, p3, p4, -⟩ := g3 x hy
        by_cases hss : s1 = s2
        · subst hss; exact a2 s1 p1 p3
        · exact h.dist s1 s2 hss x p2 p4
    · cases hc
theorem ofRes_rel {l : List C} {vs : List Value} (hlen : vs.length = l.length) (h : ∀ base' pb', RelL base' pb' w l vs) :
    (∀ base' pb' e tm, RelV P base' pb' w e tm (ofRes l) (if h : vs.toArray.size = 1 then vs.toArray[0] else .tuple vs.toArray)) ∧
    ((∀ b, b ∈ blks (ofRes l) (if h : vs.toArray.size = 1 then vs.toArray[0] else .tuple vs.toArray) → b ∈ blksL l vs) ∧ ((blksL l vs).Nodup → (blks (ofRes l) (if h : vs.toArray.size = 1 then vs.toArray[0] else .tuple vs.toArray)).Nodup)) := by
  match l, vs, hlen with
  | [], [], _ => exact ⟨fun _ _ _ _ => trivial, fun b hb => by simp [ofRes, blks] at hb, fun _ => by simp [ofRes, blks]⟩
  | [c], [v], _ =>
    refine ⟨fun b p e tm => ?_, fun b hb => ?_, fun hnd => ?_⟩
    · have := h b p
      cases this with
      | cons h1 _ => exact h1
    · simpa [ofRes, blks, blksL] using hb
    · simpa [ofRes, blks, blksL] using hnd
  | c :: c' :: l, v :: v' :: vs, hl =>
    have hne : ¬ ((v :: v' :: vs).toArray.size = 1) := by simp
    rw [dif_neg hne]
    exact ⟨fun b p e tm => ⟨_, rfl, h b p⟩, fun b hb => by simpa [ofRes, blks] using hb, fun hnd => by simpa [ofRes, blks] using hnd⟩

theorem RelL.length {l : List C} {vs : List Value} (h : RelL base pb w l vs) : vs.length = l.length := by
  induction h with
  | nil => rfl
  | cons _ _ ih => simp [ih]
theorem RelL.at {l : List C} {vs : List Value} (h : RelL base pb w l vs) (i : Nat) : (l[i]? = none ∧ vs[i]? = none) ∨ ∃ c v, l[i]? = some c ∧ vs[i]? = some v ∧ RelC base pb w c v := by
  cases hi : l[i]? with
  | none =>
    refine .inl ⟨rfl, ?_⟩
    rw [List.getElem?_eq_none_iff] at hi ⊢
    rw [h.length]; exact hi
  | some c =>
    obtain ⟨v, h1, h2⟩ := h.get hi
    exact .inr ⟨c, v, rfl, h1, h2⟩
/-- The frame at a function's start. -/
theorem start_sim {fn : Func} {rc : Option (Nat × Xs)} {as : List C} {rv vs : List Value} (hrc : RecvRel P ng w rc rv pb) (has : RelL w.heap.size pb w as vs) (hp : as.all plainC = true) :
    Sim P w.heap.size pb w w (startE fn rc as) ((rv ++ vs).toArray ++ Array.replicate (fn.ntmps - (rv ++ vs).toArray.size) undef) := by
  have hlen := has.length
  have hpre : (preV rc).length = rv.length := by
    cases rc with
    | none => obtain ⟨rfl, -⟩ := hrc; rfl
    | some q => obtain ⟨b, -, rfl, -⟩ := hrc; rfl
  have hcase : ∀ i, (∃ T x b, i = 0 ∧ rc = some (T, x) ∧ pb = some b ∧ (startE fn rc as).getD i .u = .box T x ∧ ((rv ++ vs).toArray ++ Array.replicate (fn.ntmps - (rv ++ vs).toArray.size) undef).getD i undef = .pointer (some ⟨b, 0, none⟩) ∧ w.heap[b]? = some (.cells x.enc.toArray T (0, 0)) ∧ P.cellsOf T = x.len) ∨
      (∃ c v, (startE fn rc as).getD i .u = .c c ∧ plainC c = true ∧ ((rv ++ vs).toArray ++ Array.replicate (fn.ntmps - (rv ++ vs).toArray.size) undef).getD i undef = v ∧ RelC w.heap.size pb w c v) ∨ (startE fn rc as).getD i .u = .u := by
    intro i
    have hval : ((rv ++ vs).toArray ++ Array.replicate (fn.ntmps - (rv ++ vs).toArray.size) undef).getD i undef = ((rv ++ vs)[i]?).getD undef := by
      rw [Array.getD_eq_getD_getElem?, Array.getElem?_append]
      split
      · rw [List.getElem?_toArray]
      · rename_i hi
        have h2 : (rv ++ vs)[i]? = none := by rw [List.getElem?_eq_none_iff]; simpa using hi
        rw [h2, Array.getElem?_replicate]
        split <;> rfl
    have henv : (startE fn rc as).getD i .u = ((preV rc ++ as.map argV)[i]?).getD .u := by
      unfold startE
      rw [List.getD_eq_getElem?_getD, List.getElem?_append]
      split
      · rfl
      · rename_i hi
        have h2 : (preV rc ++ as.map argV)[i]? = none := by rw [List.getElem?_eq_none_iff]; omega
        rw [h2, List.getElem?_replicate]
        split <;> rfl
    rw [hval, henv]
    by_cases hi : i < rv.length
    · cases rc with
      | none => obtain ⟨rfl, -⟩ := hrc; simp at hi
      | some q =>
        obtain ⟨T, x⟩ := q
        obtain ⟨b, rfl, rfl, h1, h2, -⟩ := hrc
        have h0 : i = 0 := by simpa using hi
        subst h0
        exact .inl ⟨T, x, b, rfl, rfl, rfl, rfl, rfl, h1, h2⟩
    · rw [List.getElem?_append, List.getElem?_append, hpre, if_neg hi, if_neg hi, List.getElem?_map]
      rcases has.at (i - rv.length) with ⟨h1, h2⟩ | ⟨c, v, h1, h2, h3⟩
      · rw [h1]; exact .inr (.inr rfl)
      · rw [h1, h2]
        exact .inr (.inl ⟨c, v, rfl, List.all_eq_true.1 hp c (List.mem_of_getElem? h1), rfl, h3⟩)
  have hblk : ∀ i b, b ∈ blks ((startE fn rc as).getD i .u) (((rv ++ vs).toArray ++ Array.replicate (fn.ntmps - (rv ++ vs).toArray.size) undef).getD i undef) → i = 0 ∧ pb = some b ∧ b < w.heap.size := by
    intro i b hb
    rcases hcase i with ⟨T, x, b', rfl, -, hpb, h1, h2, h3, -⟩ | ⟨c, v, h1, h2, h3, -⟩ | h1
    · rw [h1, h2] at hb
      simp only [blks, blkOf, baseOf, List.mem_singleton] at hb
      subst hb
      exact ⟨rfl, hpb, lt_of_heap h3⟩
    · rw [h1] at hb
      cases c <;> simp [blks, blksC, plainC] at hb h2
    · rw [h1] at hb; simp [blks] at hb
  refine ⟨?_, fun i => ?_, fun i j hij b hi hj => ?_, fun i b hi => ?_, fun i => ?_, Keep.refl _ _ _, Nat.le_refl _⟩
  · simp only [Array.size_append, List.size_toArray, List.length_append, Array.size_replicate, startE, List.length_map, List.length_replicate, hpre, hlen]
    omega
  · rcases hcase i with ⟨T, x, b, -, -, -, h1, h2, h3, h4⟩ | ⟨c, v, h1, h2, h3, h4⟩ | h1
    · rw [h1, h2]; exact ⟨b, rfl, h3, h4⟩
    · rw [h1, h3]; exact h4
    · rw [h1]; trivial
  · obtain ⟨rfl, -, -⟩ := hblk i b hi
    obtain ⟨rfl, -, -⟩ := hblk j b hj
    exact hij rfl
  · obtain ⟨-, h1, h2⟩ := hblk i b hi
    exact ⟨h2, .inr h1⟩
  · rcases hcase i with ⟨T, x, b', rfl, -, hpb, h1, h2, h3, -⟩ | ⟨c, v, h1, h2, h3, -⟩ | h1
    · rw [h1, h2]; simp [blks, blkOf, baseOf]
    · rw [h1]; cases c <;> simp [blks, blksC, plainC] at h2 ⊢
    · rw [h1]; simp [blks]
theorem callFunc_enter {g : Nat} {fn : Func} {c : Code} {args : Array Value} (hf : P.funcs[g]? = some fn) (hname : (fn.name == "runtime.NumGoroutine") = false) (hb : fn.body = some c) : (callFunc g args).run P w = .ok (.enter g args) w := by
  have h2 : ¬ fn.name = "runtime.NumGoroutine" := by simpa using hname
  simp [callFunc, hf, h2, hb]
/-- A function that is run. -/
theorem run_ok (S : Stays P G ng) (hC : ∀ key e t, Cut key e t = t e) (hΓ : ∀ g, FnOk P G ng Γ g) {g : Nat} {fn : Func} (hf : P.funcs[g]? = some fn) (hname : (fn.name == "runtime.NumGoroutine") = false) {k : Nat} {rc : Option (Nat × Xs)} {as : List C} {K : Out → Option Out} {r : Out} (hK : runK P Γ nn Lv Cut k fn rc as K = some r)
    {rv vs : List Value} (hG : G w) (hng : ng ≤ w.heap.size) (hrc : RecvRel P ng w rc rv pb) (has : RelL w.heap.size pb w as vs) (hp : as.all plainC = true) :
    CallOk P g (rv ++ vs).toArray w fun v w' => ∃ p, K p = some r ∧ RetRel P w w' rc pb p v := by
  unfold runK at hK
  split at hK
  · rename_i c hb
    have hpbn : ∀ b, pb = some b → ng ≤ b := by
      intro b hpb
      cases rc with
      | none => obtain ⟨-, rfl⟩ := hrc; cases hpb
      | some q => obtain ⟨b', rfl, -, -, -, h⟩ := hrc; cases hpb; exact h
    have Cx : Ctx P G ng w.heap.size pb w Γ := ⟨hΓ, fun w' hk => S.stays w w' hG (fun b hb => hk.old b (by omega) (fun hpb => by have := hpbn b hpb; omega)) hk.os hk.tape hk.output hk.size, ⟨hng, hpbn⟩, S.mixed⟩
    have hst := start_sim (fn := fn) hrc has hp
    refine .inl ⟨callFunc_enter hf hname hb, ?_⟩
    have main : ∀ (z : Bool), (z = true → 0 ∉ dsts c) → (z = rc.isSome) → execK P Γ nn Lv Cut k c (startE fn rc as) (fin P fn (rc.map Prod.fst) K) = some r → c.wp P (bodyPost P fn fun | .returned v, w' => ∃ p, K p = some r ∧ RetRel P w w' rc pb p v | _, _ => False) { tmps := (rv ++ vs).toArray ++ Array.replicate (fn.ntmps - (rv ++ vs).toArray.size) undef, defers := [] } w := by
      intro z hz hzr hK
      refine (code_ok Cx hC (z := z) c hz).1 k _ _ r _ w _ hK hst fun x e' a' w' k1 k2 k3 => ?_
      have fin0 : ∀ l o, apartB (fn.results.toList.flatMap (outS e')) = true → outCs P e' fn.resultTypes.toList fn.results.toList = some l → K (l, o) = some r → BackRel w' rc o pb → (∀ b, pb = some b → ∀ s, isSl (e'.getD s .u) = true → b ∉ blks (e'.getD s .u) (a'.tmps.getD s undef)) →
          a'.defers = [] ∧ ∃ v, (results fn a'.tmps).run P w' = .ok v w' ∧ ∃ p, K p = some r ∧ RetRel P w w' rc pb p v := by
        intro l ob hap hl hKl hback hnb
        obtain ⟨vs', g1, g0, g2, g3, g4⟩ := outCs_rel k2 hl
        obtain ⟨o1, o2, o3⟩ := ofRes_rel (P := P) g0 g2
        refine ⟨k3.1, _, ?_, (l, ob), hKl, k2.keep, o1, fun b hb => ?_, o3 (g4 hap), hback⟩
        · have hres : results fn a'.tmps = (do let vs ← fn.results.mapM (resF a'.tmps); pure (if h : vs.size = 1 then vs[0] else .tuple vs)) := rfl
          rw [hres, Array.mapM_eq_mapM_toList]
          simp only [map_eq_pure_bind, Sem.run_bind, g1, Result.andThen_ok, Sem.run_pure]
        · obtain ⟨s, -, q1, q2⟩ := g3 b (o2 b hb)
          obtain ⟨q3, q4⟩ := k2.own s b q1
          refine ⟨?_, q3⟩
          rcases q4 with q4 | q4
          · exact q4
          · exact absurd q1 (hnb b q4 s q2)
      have both : (match apartB (fn.results.toList.flatMap (outS e')), outCs P e' fn.resultTypes.toList fn.results.toList, rc.map Prod.fst, e'.getD 0 .u with
          | true, some l, some T, .box T' x => (match T == T' with | true => K (l, some x) | false => none)
          | true, some l, none, _ => K (l, none)
          | _, _, _, _ => none) = some r → a'.defers = [] ∧ ∃ v, (results fn a'.tmps).run P w' = .ok v w' ∧ ∃ p, K p = some r ∧ RetRel P w w' rc pb p v := by
        intro hm
        split at hm
        · rename_i l T T' y hap hl hT hbox
          split at hm
          · rename_i hTT
            have hTT : T = T' := by simpa using hTT
            subst hTT
            cases rc with
            | none => cases hT
            | some q =>
              obtain ⟨T0, x0⟩ := q
              cases hT
              obtain ⟨b, rfl, rfl, h1, h2, -⟩ := hrc
              have hr := k2.rel 0
              rw [hbox] at hr
              obtain ⟨b', p1, p2, p3⟩ := hr
              have hpin := k3.2 (by rw [hzr]; rfl)
              have hb0 : a'.tmps.getD 0 undef = .pointer (some ⟨b, 0, none⟩) := by
                rw [hpin]
                show (([Value.pointer (some ⟨b, 0, none⟩)] ++ vs).toArray ++ _).getD 0 undef = _
                rw [Array.getD_eq_getD_getElem?, Array.getElem?_append, if_pos (by simp)]
                rfl
              rw [hb0] at p1
              cases p1
              refine fin0 l (some y) hap hl hm ⟨by dsimp only at p3 h2; omega, b, rfl, p2⟩ ?_
              intro b1 hb1 s hs hm'
              cases hb1
              have hs0 : (0 : Nat) ≠ s := by rintro rfl; rw [hbox] at hs; cases hs
              exact k2.dist 0 s hs0 b (by rw [hbox, hb0]; simp [blks, blkOf, baseOf]) hm'
          · cases hm
        · rename_i l hap hl hT
          cases rc with
          | none =>
            obtain ⟨rfl, rfl⟩ := hrc
            exact fin0 l none hap hl hm trivial (fun b hb => by cases hb)
          | some q => cases hT
        · cases hm
      cases x with
      | normal => exact both k1
      | ret => exact both k1
      | _ => cases k1
    cases rc with
    | none => exact calls_of_wp hf hb (main false (fun h => by cases h) rfl hK)
    | some q =>
      dsimp only at hK
      split at hK
      · cases hK
      · rename_i hd
        exact calls_of_wp hf hb (main true (fun _ hm => by rw [List.contains_eq_mem] at hd; simp [hm] at hd) rfl hK)
  · cases hK
end Go.Proofs.YtnfjggagenmkjaaDoor.AM
