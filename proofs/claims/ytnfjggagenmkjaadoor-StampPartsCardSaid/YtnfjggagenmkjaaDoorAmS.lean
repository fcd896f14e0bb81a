/- The interpreter's code is the machine's. -/
import Derived.Test.YtnfjggagenmkjaaDoorAmR
import Derived.Deep.LoopGhost
import Derived.Scope
set_option linter.unusedSimpArgs false
namespace Go.Proofs.YtnfjggagenmkjaaDoor.AM
open Go

section
variable {P : Program} {Q : Exit → Act → World → Prop}
/-- What may come out of a scope's body that is run up to 'j' times from a label. -/
def ScopeQ (P : Program) (c : Code) (Q : Exit → Act → World → Prop) : Nat → Exit → Act → World → Prop
  | 0, .goto l, a, w => findLabel c l = none ∧ Q (.goto l) a w
  | j + 1, .goto l, a, w => (∃ rest, findLabel c l = some rest ∧ rest.wp P (ScopeQ P c Q j) a w) ∨ (findLabel c l = none ∧ Q (.goto l) a w)
  | _, x, a, w => Q x a w
theorem wp_scope_n {c : Code} {j : Nat} {a : Act} {w : World} (h : c.wp P (ScopeQ P c Q j) a w) : (Code.scope c).wp P Q a w := by
  intro b k cs
  have key : ∀ (j : Nat) (x : Code) (a : Act) (w : World), x.wp P (ScopeQ P c Q j) a w → ∃ e a' w', Q e a' w' ∧ Arrives P (lone (b.at a (.code x :: .inScope c :: k)) cs w) b k cs e a' w' := by
    intro j
    induction j with
    | zero =>
      intro x a w hx
      obtain ⟨e, a1, w1, hq, harr⟩ := hx b (.inScope c :: k) cs
      cases e with
      | normal => exact ⟨.normal, a1, w1, hq, Steps.trans harr (.one step_inScope)⟩
      | exit id => exact ⟨.exit id, a1, w1, hq, fun k' hk => harr k' (by simp [exitTo, hk])⟩
      | goto l =>
        obtain ⟨hf, hq⟩ := hq
        exact ⟨.goto l, a1, w1, hq, fun k' hk => harr k' (by simp [gotoIn, hf, hk])⟩
      | ret => exact ⟨_, a1, w1, hq, harr⟩
      | panic ch => exact ⟨_, a1, w1, hq, harr⟩
      | outgrown => exact ⟨_, a1, w1, hq, harr⟩
    | succ j ih =>
      intro x a w hx
      obtain ⟨e, a1, w1, hq, harr⟩ := hx b (.inScope c :: k) cs
      cases e with
      | normal => exact ⟨.normal, a1, w1, hq, Steps.trans harr (.one step_inScope)⟩
      | exit id => exact ⟨.exit id, a1, w1, hq, fun k' hk => harr k' (by simp [exitTo, hk])⟩
      | goto l =>
        rcases hq with ⟨rest, hf, hr⟩ | ⟨hf, hq⟩
        · obtain ⟨e2, a2, w2, hq2, harr2⟩ := ih rest a1 w1 hr
          exact ⟨e2, a2, w2, hq2, .of_steps (harr _ (by simp [gotoIn, hf])) harr2⟩
        · exact ⟨.goto l, a1, w1, hq, fun k' hk => harr k' (by simp [gotoIn, hf, hk])⟩
      | ret => exact ⟨_, a1, w1, hq, harr⟩
      | panic ch => exact ⟨_, a1, w1, hq, harr⟩
      | outgrown => exact ⟨_, a1, w1, hq, harr⟩
  obtain ⟨e, a', w', hq, harr⟩ := key j c a w h
  exact ⟨e, a', w', hq, .of_steps (.one step_scope) harr⟩
theorem hasLabel_find (l : Nat) : ∀ c : Code, hasLabel l c = (findLabel c l).isSome := by
  intro c
  induction c with
  | seq a b iha ihb =>
    simp only [hasLabel, findLabel, iha, ihb]
    cases findLabel a l <;> simp
  | label l' => simp only [hasLabel, findLabel]; split <;> simp_all
  | _ => rfl
end

variable {P : Program} {G : World → Prop} {ng : Nat} {base : Nat} {pb : Option Nat} {w0 w w' : World} {e : Env} {a : Act} {Γ : Gam} {nn : Nat} {Lv : Nat → Option (List (Nat × Co))} {Cut : Nat → Env → (Env → Option Out) → Option Out}
variable {r : Out} {Q : Exit → Act → World → Prop}

theorem keepFrom_at (lv : List (Nat × Co)) (e0 : Env) : ∀ (e : Env) (n i : Nat), i < e.length → (keepFrom lv e0 n e).getD i .u = keepV lv e0 (n + i) (e.getD i .u)
  | [], n, i, h => by simp at h
  | v :: e, n, 0, _ => by simp [keepFrom]
  | v :: e, n, i + 1, h => by
    have := keepFrom_at lv e0 e (n + 1) i (by simpa using h)
    simp only [keepFrom, List.getD_cons_succ]
    rw [this, show n + 1 + i = n + (i + 1) by omega]
theorem keepFrom_length (lv : List (Nat × Co)) (e0 : Env) : ∀ (e : Env) (n : Nat), (keepFrom lv e0 n e).length = e.length
  | [], _ => rfl
  | v :: e, n => by simp [keepFrom, keepFrom_length lv e0 e (n + 1)]
theorem keepV_owner {lv : List (Nat × Co)} {i : Nat} {v : V} (ho : owner v = true) (hk : (findCo lv i).isSome = true) : keepV lv e i v = v := by
  obtain ⟨c, hc⟩ := Option.isSome_iff_exists.1 hk
  unfold keepV
  rw [hc]
  cases v with
  | box T x => cases c <;> rfl
  | iter l p => cases c <;> rfl
  | c x => cases x <;> first | (cases ho; done) | (cases c <;> rfl)
  | _ => cases ho
theorem Sim.kept (h : Sim P base pb w0 w e a.tmps) (lv : List (Nat × Co)) : Sim P base pb w0 w (keepFrom lv e 0 e) a.tmps := by
  have hg : ∀ i, i < e.length → (keepFrom lv e 0 e).getD i .u = keepV lv e i (e.getD i .u) := by
    intro i hi; have := keepFrom_at lv e e 0 i hi; rwa [Nat.zero_add] at this
  have hout : ∀ i, ¬ i < e.length → (keepFrom lv e 0 e).getD i .u = .u := by
    intro i hi
    rw [List.getD_eq_getElem?_getD, List.getElem?_eq_none (by rw [keepFrom_length]; omega)]; rfl
  have hown : ∀ s, owner (e.getD s .u) = true → (findCo lv s).isSome = true → (keepFrom lv e 0 e).getD s .u = e.getD s .u := by
    intro s ho hk
    rw [hg s (lt_of_owner ho), keepV_owner ho hk]
  -- what a slot tells after all
  have main : ∀ i, RelV P base pb w (keepFrom lv e 0 e) a.tmps ((keepFrom lv e 0 e).getD i .u) (a.tmps.getD i undef) ∧ (∀ b, b ∈ blks ((keepFrom lv e 0 e).getD i .u) (a.tmps.getD i undef) → b ∈ blks (e.getD i .u) (a.tmps.getD i undef)) ∧ (blks ((keepFrom lv e 0 e).getD i .u) (a.tmps.getD i undef)).Nodup := by
    intro i
    by_cases hi : i < e.length
    · rw [hg i hi]
      unfold keepV
      split
      · rename_i c hc hk
        have same : RelV P base pb w (keepFrom lv e 0 e) a.tmps (e.getD i .u) (a.tmps.getD i undef) := by
          refine (h.rel i).env fun s hs hso => ⟨hown s hso ?_, rfl⟩
          cases hv : e.getD i .u with
          | via s' off => rw [hv] at hs hk; simp only [aliasOf, beq_iff_eq] at hs; subst hs; exact hk
          | all s' => rw [hv] at hs hk; simp only [aliasOf, beq_iff_eq] at hs; subst hs; exact hk
          | ali s' lo n => rw [hv] at hs hk; simp only [aliasOf, beq_iff_eq] at hs; subst hs; exact hk
          | it s' => rw [hv] at hs hk; simp only [aliasOf, beq_iff_eq] at hs; subst hs; exact hk
          | _ => rw [hv] at hs; cases hs
        have hr := h.rel i
        unfold coV
        split
        · rename_i x hv
          rw [hv] at hr
          have hval : a.tmps.getD i undef = .slice none 0 0 := hr
          split
          · rename_i hl
            rw [hval]
            refine ⟨.inl ⟨rfl, hl⟩, fun b hb => ?_, by simp [blks, blksC, blkOf, baseOf]⟩
            simp [blks, blksC, blkOf, baseOf] at hb
          · exact ⟨trivial, fun b hb => by simp [blks] at hb, by simp [blks]⟩
        · rename_i s hv
          rw [hv] at hr hk
          split
          · rename_i x hx
            obtain ⟨A, cap, h3, h4, h5⟩ := owner_slice h hx
            have hso := isSl_owner (isSl_of hx)
            have hval : a.tmps.getD i undef = .slice A x.len cap := hr.2.trans h3
            rw [hval]
            refine ⟨⟨by rw [hown s hso hk]; exact hso, ⟨A, cap, rfl, h4, fun hl => ?_, fun _ A' len' cap' hA => ?_⟩, fun x' hx' => ?_⟩, fun b hb => by simp [blks] at hb, by simp [blks]⟩
            · obtain ⟨b, rfl⟩ := h5 hl
              exact ⟨b, by rw [h3]; rfl, by simp [Addr.add]⟩
            · rw [h3] at hA; cases hA; exact ⟨rfl, rfl⟩
            · unfold contentB at hx'
              rw [hown s hso hk] at hx'
              have := contentB_of hx
              unfold contentB at this
              rw [this] at hx'; cases hx'; omega
          · exact ⟨trivial, fun b hb => by simp [blks] at hb, by simp [blks]⟩
        · exact ⟨same, fun b hb => hb, h.nd i⟩
      · exact ⟨trivial, fun b hb => by simp [blks] at hb, by simp [blks]⟩
    · rw [hout i hi]
      exact ⟨trivial, fun b hb => by simp [blks] at hb, by simp [blks]⟩
  exact ⟨by rw [keepFrom_length]; exact h.size, fun i => (main i).1, fun i j hij b hi hj => h.dist i j hij b ((main i).2.1 b hi) ((main j).2.1 b hj), fun i b hi => h.own i b ((main i).2.1 b hi), fun i => (main i).2.2, h.keep, h.low⟩
theorem Sim.trimmed (h : Sim P base pb w0 w e a.tmps) (lv : Option (List (Nat × Co))) : Sim P base pb w0 w (trim lv e) a.tmps := by
  cases lv with
  | none => exact h
  | some l => exact h.kept l

/-- What holds of a piece of code. -/
def CodeOk (P : Program) (base : Nat) (pb : Option Nat) (w0 : World) (Γ : Gam) (nn : Nat) (Lv : Nat → Option (List (Nat × Co))) (Cut : Nat → Env → (Env → Option Out) → Option Out) (z : Bool) (c : Code) : Prop :=
  (∀ (k : Nat) (e : Env) (K : Exit → Env → Option Out) (r : Out) (a : Act) (w : World) (Q : Exit → Act → World → Prop), execK P Γ nn Lv Cut k c e K = some r → Sim P base pb w0 w e a.tmps →
    (∀ x e' a' w', K x e' = some r → Sim P base pb w0 w' e' a'.tmps → Pin z a a' → Q x a' w') → c.wp P Q a w) ∧
  ∀ (k l : Nat) (rest : Code) (e : Env) (K : Exit → Env → Option Out) (r : Out) (a : Act) (w : World) (Q : Exit → Act → World → Prop), findLabel c l = some rest → fromK P Γ nn Lv Cut k l c e K = some r → Sim P base pb w0 w e a.tmps →
    (∀ x e' a' w', K x e' = some r → Sim P base pb w0 w' e' a'.tmps → Pin z a a' → Q x a' w') → rest.wp P Q a w

theorem atCut_some (hC : ∀ key e t, Cut key e t = t e) {lv : Option (List (Nat × Co))} {key : Nat} {t : Env → Option Out} (h : atCut Cut lv key e t = some r) : t (trim lv e) = some r := by
  unfold atCut at h
  split at h
  · rwa [hC] at h
  · exact h
theorem seq_then (hC : ∀ key e t, Cut key e t = t e) (b : Code) {z : Bool} (hb : CodeOk P base pb w0 Γ nn Lv Cut z b) {k : Nat} {K : Exit → Env → Option Out} {a0 : Act}
    (hQ : ∀ x e' a' w', K x e' = some r → Sim P base pb w0 w' e' a'.tmps → Pin z a0 a' → Q x a' w') (x : Exit) (e' : Env) (a' : Act) (w' : World)
    (h : (match x with | .normal => atCut Cut (Lv (hid b)) (hid b) e' (fun e => execK P Γ nn Lv Cut k b e K) | x => K x e') = some r) (hs : Sim P base pb w0 w' e' a'.tmps) (hp : Pin z a0 a') : Exit.then (b.wp P Q) Q x a' w' := by
  cases x with
  | normal => exact hb.1 k _ K r a' w' Q (atCut_some hC h) (hs.trimmed _) fun y e2 a2 w2 k1 k2 k3 => hQ y e2 a2 w2 k1 k2 (hp.trans k3)
  | exit id => exact hQ _ _ _ _ h hs hp
  | goto l => exact hQ _ _ _ _ h hs hp
  | ret => exact hQ _ _ _ _ h hs hp
  | panic c => exact hQ _ _ _ _ h hs hp
  | outgrown => exact hQ _ _ _ _ h hs hp

theorem code_ok (C : Ctx P G ng base pb w0 Γ) (hC : ∀ key e t, Cut key e t = t e) {z : Bool} : ∀ c : Code, (z = true → 0 ∉ dsts c) → CodeOk P base pb w0 Γ nn Lv Cut z c := by
  intro c
  induction c with
  | skip => exact fun _ => ⟨fun k e K r a w Q hK h hQ => wp_skip (hQ _ _ _ _ hK h (Pin.refl _ _)), fun k l rest e K r a w Q hf => (by cases hf)⟩
  | label l => exact fun _ => ⟨fun k e K r a w Q hK h hQ => wp_label (hQ _ _ _ _ hK h (Pin.refl _ _)), fun k l' rest e K r a w Q hf hK h hQ => by
      simp only [findLabel] at hf
      split at hf
      · cases hf; exact wp_skip (hQ _ _ _ _ hK h (Pin.refl _ _))
      · cases hf⟩
  | exit id => exact fun _ => ⟨fun k e K r a w Q hK h hQ => wp_exit (hQ _ _ _ _ hK h (Pin.refl _ _)), fun k l rest e K r a w Q hf => (by cases hf)⟩
  | goto l => exact fun _ => ⟨fun k e K r a w Q hK h hQ => wp_goto (hQ _ _ _ _ hK (h.trimmed _) (Pin.refl _ _)), fun k l rest e K r a w Q hf => (by cases hf)⟩
  | ret => exact fun _ => ⟨fun k e K r a w Q hK h hQ => wp_ret (hQ _ _ _ _ hK h (Pin.refl _ _)), fun k l rest e K r a w Q hf => (by cases hf)⟩
  | refuse why => exact fun _ => ⟨fun k e K r a w Q hK => (by cases hK), fun k l rest e K r a w Q hf => (by cases hf)⟩
  | rangeFunc f ps as bd _ _ => exact fun _ => ⟨fun k e K r a w Q hK => (by cases hK), fun k l rest e K r a w Q hf => (by cases hf)⟩
  | region id ops draw =>
    intro hz
    have hz' : z = true → ∀ o ∈ ops.toList, o.dst ≠ some 0 := by
      intro h o ho hd
      exact hz h (List.mem_flatMap.2 ⟨o, ho, by rw [hd]; simp⟩)
    refine ⟨fun k e K r a w Q hK h hQ => ?_, fun k l rest e K r a w Q hf => (by cases hf)⟩
    cases draw with
    | false =>
      simp only [execK] at hK
      replace hK := (forceE_eq _ _).symm.trans hK
      exact region_wp C hz' hK h fun e' a' w' k1 k2 k3 => hQ _ _ _ _ k1 k2 k3
    | true =>
      simp only [execK] at hK
      split at hK
      · rename_i D l hl
        replace hK := (forceE_eq _ _).symm.trans hK
        exact region_draw_wp C hz' hl hK h fun e' a' w' k1 k2 k3 => hQ _ _ _ _ k1 k2 k3
      · cases hK
  | seq a b iha ihb =>
    intro hz
    have ha := iha fun h hm => hz h (List.mem_append_left _ hm)
    have hb := ihb fun h hm => hz h (List.mem_append_right _ hm)
    refine ⟨fun k e K r ac w Q hK h hQ => wp_seq ?_, fun k l rest e K r ac w Q hf hK h hQ => ?_⟩
    · exact ha.1 k e _ r ac w _ hK h fun x e' a' w' k1 k2 k3 => seq_then hC b hb hQ x e' a' w' k1 k2 k3
    · simp only [findLabel] at hf
      simp only [fromK] at hK
      split at hf
      · rename_i ra hra
        cases hf
        rw [hasLabel_find, hra] at hK
        exact wp_seq (ha.2 k l ra e _ r ac w _ hra hK h fun x e' a' w' k1 k2 k3 => seq_then hC b hb hQ x e' a' w' k1 k2 k3)
      · rename_i hra
        rw [hasLabel_find, hra] at hK
        exact hb.2 k l rest e K r ac w Q hf hK h hQ
  | cond c a b iha ihb =>
    intro hz
    have ha := iha fun h hm => hz h (List.mem_append_left _ hm)
    have hb := ihb fun h hm => hz h (List.mem_append_right _ hm)
    refine ⟨fun k e K r ac w Q hK h hQ => ?_, fun k l rest e K r a w Q hf => (by cases hf)⟩
    simp only [execK] at hK
    split at hK
    · rename_i t ht
      have hc : ac.eval c = .bool t := ev_s h ht
      cases t with
      | true => exact wp_cond hc (ha.1 k e K r ac w Q hK h hQ)
      | false => exact wp_cond hc (hb.1 k e K r ac w Q hK h hQ)
    · cases hK
  | block id a iha =>
    intro hz
    have ha := iha hz
    refine ⟨fun k e K r ac w Q hK h hQ => wp_block ?_, fun k l rest e K r a w Q hf => (by cases hf)⟩
    refine ha.1 k e _ r ac w _ hK h fun x e' a' w' k1 k2 k3 => ?_
    cases x with
    | exit id' =>
      dsimp only at k1
      by_cases hid : id' = id
      · subst hid
        simp only [beq_self_eq_true] at k1
        show Exit.inBlock id' Q (.exit id') a' w'
        simp only [Exit.inBlock, if_true]
        exact hQ _ _ _ _ k1 k2 k3
      · have hid' : (id' == id) = false := by simpa using hid
        simp only [hid'] at k1
        show Exit.inBlock id Q (.exit id') a' w'
        simp only [Exit.inBlock, if_neg hid]
        exact hQ _ _ _ _ k1 k2 k3
    | normal => exact hQ _ _ _ _ k1 k2 k3
    | goto l => exact hQ _ _ _ _ k1 k2 k3
    | ret => exact hQ _ _ _ _ k1 k2 k3
    | panic c => exact hQ _ _ _ _ k1 k2 k3
    | outgrown => exact hQ _ _ _ _ k1 k2 k3
  | loop a iha =>
    intro hz
    have ha := iha hz
    refine ⟨fun k e K r ac w Q hK h hQ => ?_, fun k l rest e K r a w Q hf => (by cases hf)⟩
    refine wp_loop_ghost (fun n a' w' => ∃ e', loopK Cut (fun e K => execK P Γ nn Lv Cut k a e K) (Lv (1000000 + hid (.loop a))) (1000000 + hid (.loop a)) n e' K = some r ∧ Sim P base pb w0 w' e' a'.tmps ∧ Pin z ac a') k ⟨_, atCut_some hC hK, h.trimmed _, Pin.refl _ _⟩ ?_
    rintro n a1 w1 ⟨e1, h1, h2, h3⟩
    cases n with
    | zero => cases h1
    | succ n =>
      simp only [loopK] at h1
      refine ha.1 k _ _ r a1 w1 _ h1 h2 fun x e' a' w' k1 k2 k3 => ?_
      cases x with
      | normal => exact ⟨n, Nat.lt_succ_self _, _, atCut_some hC k1, k2.trimmed _, h3.trans k3⟩
      | exit id => exact hQ _ _ _ _ k1 k2 (h3.trans k3)
      | goto l => exact hQ _ _ _ _ k1 k2 (h3.trans k3)
      | ret => exact hQ _ _ _ _ k1 k2 (h3.trans k3)
      | panic c => exact hQ _ _ _ _ k1 k2 (h3.trans k3)
      | outgrown => exact hQ _ _ _ _ k1 k2 (h3.trans k3)
  | scope a iha =>
    intro hz
    have ha := iha hz
    refine ⟨fun k e K r ac w Q hK h hQ => ?_, fun k l rest e K r a w Q hf => (by cases hf)⟩
    simp only [execK] at hK
    have hand : ∀ (j : Nat) (x : Exit) (e' : Env) (a' : Act) (w' : World), handK Cut (fun l e K => fromK P Γ nn Lv Cut k l a e K) (fun l => hasLabel l a) K j x e' = some r → Sim P base pb w0 w' e' a'.tmps → Pin z ac a' → ScopeQ P a Q j x a' w' := by
      intro j
      induction j with
      | zero =>
        intro x e' a' w' k1 k2 k3
        cases x with
        | goto l =>
          simp only [handK] at k1
          split at k1
          · rw [hC] at k1; cases k1
          · rename_i hf
            rw [hasLabel_find] at hf
            exact ⟨by simpa using hf, hQ _ _ _ _ k1 k2 k3⟩
        | normal => exact hQ _ _ _ _ k1 k2 k3
        | exit id => exact hQ _ _ _ _ k1 k2 k3
        | ret => exact hQ _ _ _ _ k1 k2 k3
        | panic c => exact hQ _ _ _ _ k1 k2 k3
        | outgrown => exact hQ _ _ _ _ k1 k2 k3
      | succ j ih =>
        intro x e' a' w' k1 k2 k3
        cases x with
        | goto l =>
          simp only [handK] at k1
          rw [hasLabel_find] at k1
          cases hf : findLabel a l with
          | some rest =>
            rw [hf] at k1
            simp only [Option.isSome_some] at k1
            replace k1 := (hC _ _ _).symm.trans k1
            have hst : ∀ y e2, handK Cut (fun l e K => fromK P Γ nn Lv Cut k l a e K) (fun l => hasLabel l a) K j y e2 = (match y with | .goto l' => (match hasLabel l' a with | true => Cut (3000000 + l') e2 fun e => againK Cut (fun l e K => fromK P Γ nn Lv Cut k l a e K) (fun l => hasLabel l a) K j l' e | false => K (.goto l') e2) | x => K x e2) := fun y e2 => by cases y <;> rfl
            simp only [againK] at k1
            exact .inl ⟨rest, hf, ha.2 k l rest _ _ r a' w' _ hf k1 k2 fun y e2 a2 w2 q1 q2 q3 => ih y e2 a2 w2 (by rw [hst]; exact q1) q2 (k3.trans q3)⟩
          | none =>
            rw [hf] at k1
            exact .inr ⟨hf, hQ _ _ _ _ k1 k2 k3⟩
        | normal => exact hQ _ _ _ _ k1 k2 k3
        | exit id => exact hQ _ _ _ _ k1 k2 k3
        | ret => exact hQ _ _ _ _ k1 k2 k3
        | panic c => exact hQ _ _ _ _ k1 k2 k3
        | outgrown => exact hQ _ _ _ _ k1 k2 k3
    exact wp_scope_n (ha.1 k e _ r ac w _ hK h fun x e' a' w' k1 k2 k3 => hand k x e' a' w' k1 k2 k3)
end Go.Proofs.YtnfjggagenmkjaaDoor.AM
