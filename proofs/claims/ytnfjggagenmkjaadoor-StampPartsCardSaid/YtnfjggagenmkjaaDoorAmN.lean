/- Each operation of the interpreter is the machine's: copying, assignments. -/
import Derived.Test.YtnfjggagenmkjaaDoorAmM
set_option linter.unusedSimpArgs false
namespace Go.Proofs.YtnfjggagenmkjaaDoor.AM
open Go

variable {P : Program} {base : Nat} {pb : Option Nat} {w0 w w' : World} {e : Env} {a : Act}
variable {K : Env → Option Out} {r : Out} {next : Act → World → Prop} {Q : Exit → Act → World → Prop} {o : Oper}

theorem Xs.splice_some {x y z : Xs} {lo m : Nat} (h : x.splice lo m y = some z) (hm : m ≤ y.len) (hl : lo + m ≤ x.len) : z.enc = x.enc.take lo ++ y.enc.take m ++ x.enc.drop (lo + m) ∧ z.len = x.len := by
  have key : z.enc = x.enc.take lo ++ y.enc.take m ++ x.enc.drop (lo + m) := by
    unfold Xs.splice at h
    split at h
    · split at h
      · rename_i hk; subst hk; cases h; simp [Xs.enc, Xs.toS, List.map_take, List.map_drop]
      · cases h
    · cases h; simp [Xs.enc, Xs.toS, List.map_take, List.map_drop]
    · cases h
      have : m = 0 := by simpa [Xs.len] using hm
      subst this
      simp [Xs.enc, Xs.toS]
    · cases h
  refine ⟨key, ?_⟩
  have := congrArg List.length key
  rw [Xs.len_enc] at this
  rw [this]
  simp [Xs.len_enc]; omega
theorem op_copyG (h : Sim P base pb w0 w e a.tmps) (hn : Nx P base pb w0 w e a o K r next) {c : Call} (ho : o.op = .call c) (hc : c.callee = .builtin .copy) {x y : Operand} {t u : Nat} (hxy : c.args.toList = [x, y]) (ht : c.argTypes.toList = [t, u])
    {el : Nat} {zz : S} (hz : elemZ P t = some (el, zz)) {y0 : Xs} (hsrc : srcOf e (ev e y) = some y0) {s lo n : Nat} {A : Option Addr} {cp : Nat} (hd : a.eval x = .slice A n cp) (hA : 0 < n → ∃ b, baseOf (a.tmps.getD s undef) = some b ∧ A = some (b.add lo))
    (hln : ∀ x, contentB e s = some x → lo + n ≤ x.len) (hK : copyK e o.dst y0 K s lo n = some r) : o.wp P a w next Q := by
  obtain ⟨callee, args, argTypes⟩ := c
  simp only at hc hxy ht
  subst hc
  rw [toList2 hxy, toList2 ht] at ho
  obtain ⟨g1, g2, i, g3, g4, -, -, -⟩ := elemZ_some hz
  obtain ⟨k1, k2⟩ := src_run h hsrc
  have k3 := k2 (min y0.len n) (Nat.min_le_left _ _)
  have hcl : (y0.enc.take (min y0.len n)).length = min y0.len n := by simp [Xs.len_enc]
  have run0 : min y0.len n = 0 → (Builtin.copy_ #[t, u] o.type #[a.eval x, a.eval y]).run P w = .ok (.int .i64 (min y0.len n : Nat)) w := by
    intro h0
    rw [h0] at k3
    rw [hd, h0]
    have e1 : Nat.min y0.len n = 0 := h0
    cases A <;> simp [Builtin.copy_, run_underlying g1, sizeOf, typeInfo, g3, g4, k1, e1, k3, storeCells, goInt]
  have run1 : ∀ {b T : Nat} {Cs : Array Value} {fr : Nat × Nat}, baseOf (a.tmps.getD s undef) = some ⟨b, 0, none⟩ → w.heap[b]? = some (.cells Cs T fr) → (∀ j, j < Cs.size → ¬ (fr.1 ≤ j ∧ j < fr.2)) → lo + n ≤ Cs.size → 0 < min y0.len n →
      (Builtin.copy_ #[t, u] o.type #[a.eval x, a.eval y]).run P w = .ok (.int .i64 (min y0.len n : Nat)) (w.setRow b (Cs.toList.take lo ++ y0.enc.take (min y0.len n) ++ Cs.toList.drop (lo + min y0.len n)).toArray) := by
    intro b T Cs fr hb hg hfr hfit h0
    obtain ⟨b', q1, q2⟩ := hA (by omega)
    rw [hb] at q1; cases q1
    have hst := run_storeCells_fr P b lo T fr (y0.enc.take (min y0.len n)) 0 Cs w hg (by rw [hcl]; omega) hfr (fun v hv => enc_one y0 v (List.mem_of_mem_take hv))
    rw [hcl, Nat.add_zero] at hst
    rw [hd, q2, Addr.zero_add]
    simp only [Builtin.copy_, run_underlying g1, sizeOf, typeInfo, g3, g4, k1, Sem.run_bind, Sem.run_pure, Result.andThen_ok, run_program, List.getElem?_toArray, List.getElem?_cons_zero, List.getElem?_cons_succ]
    have e1 : Nat.min y0.len n = min y0.len n := rfl
    simp only [e1, k3, Result.andThen_ok, hst, goInt]
  have fin : ∀ {w' : World} {e' : Env}, (Builtin.copy_ #[t, u] o.type #[a.eval x, a.eval y]).run P w = .ok (.int .i64 (min y0.len n : Nat)) w' → Sim P base pb w0 w' e' a.tmps → K (putO e' o.dst (.c (.s (.int .i64 (min y0.len n : Nat))))) = some r → o.wp P a w next Q := by
    intro w' e' hrun hs hK
    refine wp_val (v := .int .i64 (min y0.len n : Nat)) (w' := w') ?_ (hn _ _ _ hK (hs.putO0 a rfl o.dst _ _ rfl rfl) (put_keeps _ _ _) fun hq => by simp [quietE, ho] at hq)
    simp only [execOp, ho, resolve, invoke, builtin, Sem.run_bind, Sem.run_pure, Result.andThen_ok, List.map_toArray, List.map_cons, List.map_nil, hrun]
  unfold copyK at hK
  split at hK
  · rename_i x0 hx0
    have hl := hln x0 (by unfold contentB; rw [hx0])
    split at hK
    · rename_i z hzz
      obtain ⟨s1, s2⟩ := Xs.splice_some hzz (Nat.min_le_left _ _) (by omega)
      have hr := h.rel s
      rw [hx0] at hr
      by_cases h0 : min y0.len n = 0
      · have hze : z.enc = x0.enc := by rw [s1, h0]; simp
        refine fin (run0 h0) (e' := e.set s (.c (.own z))) ?_ hK
        rcases hr with ⟨q1, q2⟩ | ⟨b, cap, T, Cs, fr, q1, q2, q3, q4, q5, q6⟩
        · have hbl : blks (.c (.own z)) (a.tmps.getD s undef) = blks (e.getD s .u) (a.tmps.getD s undef) := by rw [hx0]; rfl
          refine h.turn s (.c (.own z)) (Keep.refl _ _ _) (fun _ _ _ => rfl) (.inl ⟨q1, by omega⟩) hbl (fun _ => rfl) (by rw [hx0]; intro h'; cases h') (by rw [hx0]; rfl) rfl ?_ ?_
          · intro xx x' hxx hx'
            unfold contentB at hxx; rw [hx0] at hxx; cases hxx
            simp only [contentB, List.getD_cons_zero, Option.some.injEq] at hx'
            rw [← hx']; exact s2
          · intro x' _; exact ⟨x0, by unfold contentB; rw [hx0]⟩
        · have := h.setOwn hx0 q1 q2 q3 q4 q5 (y := z) s2 (Cs' := Cs) rfl (by rw [hze]; exact q6)
          rwa [setRow_self w b Cs T fr q2] at this
      · rcases hr with ⟨q1, q2⟩ | ⟨b, cap, T, Cs, fr, q1, q2, q3, q4, q5, q6⟩
        · omega
        · refine fin (run1 (by rw [q1]; rfl) q2 q5 (by omega) (by omega)) (h.setOwn hx0 q1 q2 q3 q4 q5 (y := z) s2 ?_ ?_) hK
          · simp only [List.size_toArray, List.length_append, List.length_take, List.length_drop, Array.length_toList, hcl, Xs.len_enc]; omega
          · intro i hi
            rw [List.getElem?_toArray, s1]
            simp only [List.append_assoc, List.getElem?_append, List.length_take, Array.length_toList, Xs.len_enc, List.getElem?_take, List.getElem?_drop]
            have e1 : min lo Cs.size = lo := by omega
            have e2 : min lo x0.len = lo := by omega
            rw [e1, e2]
            by_cases c1 : i < lo
            · rw [if_pos c1, if_pos c1, if_pos c1, if_pos c1, Array.getElem?_toList, q6 i hi]
            · rw [if_neg c1, if_neg c1]
              split
              · rfl
              · rename_i c2
                have e3 : lo + min y0.len n + (i - lo - min (min y0.len n) y0.len) = i := by omega
                rw [e3, Array.getElem?_toList, q6 i hi]
    · cases hK
  · rename_i T0 x0 hx0
    have hl := hln x0 (by unfold contentB; rw [hx0])
    split at hK
    · rename_i z hzz
      obtain ⟨s1, s2⟩ := Xs.splice_some hzz (Nat.min_le_left _ _) (by omega)
      obtain ⟨b, q1, q2, q3⟩ := h.setBox hx0
      have hs := q3 z s2
      by_cases h0 : min y0.len n = 0
      · have hze : z.enc = x0.enc := by rw [s1, h0]; simp
        rw [hze, setRow_self w b _ _ _ q2] at hs
        exact fin (run0 h0) hs hK
      · refine fin (run1 (by rw [q1]; rfl) q2 (by simp) (by simp [Xs.len_enc]; exact hl) (by omega)) ?_ hK
        rw [s1] at hs
        exact hs
    · cases hK
  · cases hK

/-- Nothing is said of a slot's aliases any more. -/
theorem Sim.killed (h : Sim P base pb w0 w e a.tmps) (d : Nat) : Sim P base pb w0 w (kill d e) a.tmps := by
  have hb : ∀ i b, b ∈ blks ((kill d e).getD i .u) (a.tmps.getD i undef) → b ∈ blks (e.getD i .u) (a.tmps.getD i undef) := by
    intro i b hm
    rw [getD_kill] at hm
    unfold noSelf at hm
    split at hm
    · simp [blks] at hm
    · exact hm
  refine ⟨by rw [length_kill]; exact h.size, fun i => ?_, fun i j hij b hi hj => h.dist i j hij b (hb i b hi) (hb j b hj), fun i b hi => h.own i b (hb i b hi), fun i => ?_, h.keep, h.low⟩
  · rw [getD_kill]
    unfold noSelf; split
    · trivial
    · exact (h.rel i).env fun s hs hso => ⟨kill_owner d e s hso, rfl⟩
  · rw [getD_kill]
    unfold noSelf; split
    · simp [blks]
    · exact h.nd i
theorem kill_none (d : Nat) (e : Env) (i : Nat) : aliasOf d ((kill d e).getD i .u) = false := by rw [getD_kill]; exact noSelf_alias d _
theorem kill_keeps {d s : Nat} {e : Env} (h : ∀ i, aliasOf s (e.getD i .u) = false) (i : Nat) : aliasOf s ((kill d e).getD i .u) = false := by
  rw [getD_kill]; unfold noSelf; split
  · rfl
  · exact h i
theorem set_keeps {s d : Nat} {y : V} {e : Env} (h : ∀ i, aliasOf s (e.getD i .u) = false) (hy : aliasOf s y = false) (i : Nat) : aliasOf s ((e.set d y).getD i .u) = false := by
  rw [getD_set]; split
  · split
    · exact hy
    · rfl
  · exact h i
theorem kill_id {d : Nat} {e : Env} (h : ∀ i, aliasOf d (e.getD i .u) = false) : kill d e = e := by
  apply List.ext_getElem?
  intro i
  have := h i
  simp only [kill, List.getElem?_map, List.getD_eq_getElem?_getD] at this ⊢
  cases hi : e[i]? with
  | none => rfl
  | some v => rw [hi] at this; simp only [Option.getD_some] at this; simp [noSelf_no this]
theorem put_set {d : Nat} {e : Env} {v : V} (h : ∀ i, aliasOf d (e.getD i .u) = false) (hv : aliasOf d v = false) : put e d v = e.set d v := by
  unfold put; rw [noSelf_no hv, kill_id h]; split <;> rfl
/-- A slot's memory goes to another slot. -/
theorem Sim.give (h : Sim P base pb w0 w e a.tmps) (s d : Nat) (hs : s < e.length) (y : V) (v : Value) (hy : ∀ q, aliasOf q y = false) (hr : RelV P base pb w e a.tmps y v) (hb : ∀ b, b ∈ blks y v → b ∈ blks (e.getD s .u) (a.tmps.getD s undef)) (hnd : (blks y v).Nodup) :
    Sim P base pb w0 w (((kill s (kill d e)).set s .u).set d y) (a.tmps.setIfInBounds d v) := by
  have h1 := (h.killed d).killed s
  have n1 := kill_none s (kill d e)
  have n2 : ∀ i, aliasOf d ((kill s (kill d e)).getD i .u) = false := kill_keeps (kill_none d e)
  have h2 := h1.weak s .u trivial n1 rfl (by simp [blks]) (by simp [blks])
  have n3 : ∀ i, aliasOf d (((kill s (kill d e)).set s .u).getD i .u) = false := set_keeps n2 rfl
  rw [← put_set n3 (hy d)]
  have hbe : ∀ i b, b ∈ blks (((kill s (kill d e)).set s .u).getD i .u) (a.tmps.getD i undef) → i ≠ s ∧ b ∈ blks (e.getD i .u) (a.tmps.getD i undef) := by
    intro i b hm
    rw [getD_set, length_kill, length_kill] at hm
    by_cases hsi : s = i
    · rw [if_pos hsi] at hm; split at hm <;> simp [blks] at hm
    · rw [if_neg hsi] at hm
      refine ⟨Ne.symm hsi, ?_⟩
      rw [getD_kill, getD_kill] at hm
      unfold noSelf at hm
      split at hm
      · simp [blks] at hm
      · split at hm
        · simp [blks] at hm
        · exact hm
  refine h2.put d y v (Keep.refl _ _ _) (fun _ _ _ _ => rfl) ?_ ?_ ?_
  · rw [noSelf_no (hy d)]
    exact hr.env fun q hq _ => by rw [hy q] at hq; cases hq
  · rw [noSelf_no (hy d)]
    intro b hm
    have hm' := hb b hm
    refine ⟨h.own s b hm', fun i _ hi => ?_⟩
    obtain ⟨k1, k2⟩ := hbe i b hi
    exact h.dist s i (Ne.symm k1) b hm' k2
  · rw [noSelf_no (hy d)]; exact hnd
theorem lt_of_owner {s : Nat} (h : owner (e.getD s .u) = true) : s < e.length := by
  by_cases hl : s < e.length
  · exact hl
  · rw [List.getD_eq_getElem?_getD, List.getElem?_eq_none (by omega)] at h; simp [owner] at h
theorem nodup_blkOf (v : Value) : (blkOf v).Nodup := by unfold blkOf; split <;> simp
theorem cut_own {w : World} {x : Xs} {n c : Nat} {A : Option Addr} {v : Value} (h : OwnRel w x v) (hn : n ≤ x.len) (hnc : n ≤ c) (hA : ∀ A' len cap, v = .slice A' len cap → A = A' ∧ c = cap) : OwnRel w (x.cut 0 n) (.slice A n c) := by
  have hcl : (x.cut 0 n).len = n := cut_len x 0 n (by omega)
  rcases h with ⟨h1, h2⟩ | ⟨b, cap, T, Cs, fr, h1, h2, h3, h4, h5, h6⟩
  · obtain ⟨rfl, rfl⟩ := hA _ _ _ h1
    have : n = 0 := by omega
    subst this
    exact .inl ⟨rfl, hcl⟩
  · obtain ⟨rfl, rfl⟩ := hA _ _ _ h1
    refine .inr ⟨b, c, T, Cs, fr, by rw [hcl], h2, by rw [hcl]; exact hnc, h4, h5, fun i hi => ?_⟩
    rw [hcl] at hi
    rw [h6 i (by omega), cut_enc, List.drop_zero, List.getElem?_take, if_pos hi]
theorem cut_ro {w : World} {x : Xs} {n lo c : Nat} {A : Option Addr} {v : Value} (h : RoRel base pb w x v) (hn : lo + n ≤ x.len) (hnc : n ≤ c) (hA : 0 < n → ∃ b, baseOf v = some b ∧ A = some (b.add lo)) : RoRel base pb w (x.cut lo n) (.slice A n c) := by
  have hcl : (x.cut lo n).len = n := cut_len x lo n hn
  obtain ⟨a', cap, h1, h2, h3⟩ := h
  refine ⟨A, c, by rw [hcl], by rw [hcl]; exact hnc, fun i hi => ?_⟩
  rw [hcl] at hi
  obtain ⟨b, q1, rfl⟩ := hA (by omega)
  obtain ⟨b', q2, q3, q4, q5⟩ := h3 (lo + i) (by omega)
  rw [h1] at q1
  simp only [baseOf] at q1
  rw [q1] at q2; cases q2
  refine ⟨b.add lo, rfl, by rw [Addr.block_add]; exact q3, by rw [Addr.block_add]; exact q4, ?_⟩
  rw [Addr.add_add', q5, cut_enc, List.getElem?_take, if_pos hi, List.getElem?_drop]
/-- An assignment. -/
theorem op_assign (h : Sim P base pb w0 w e a.tmps) (hn : Nx P base pb w0 w e a o K r next) {nn : Nat} {x : Operand} (ho : o.op = .assign x) {d : Nat} (hd : o.dst = some d) (hK : asgK nn e d (ev e x) K = some r) : o.wp P a w next Q := by
  have hv := (ev_rel h x).1
  have hvb := (ev_rel h x).2
  have plain : K (put e d (ev e x)) = some r → o.wp P a w next Q := by
    intro hK
    exact (pureA (x := ev e x) (v := a.eval x) (by rw [hd]; exact hK) (fun _ _ => by simp only [execOp, ho]; rfl) hv hvb).wp h hn
  have gives : ∀ {s : Nat} {y : V}, K (((kill s (kill d e)).set s .u).set d y) = some r → s < e.length → (∀ q, aliasOf q y = false) → RelV P base pb w e a.tmps y (a.eval x) → (∀ b, b ∈ blks y (a.eval x) → b ∈ blks (e.getD s .u) (a.tmps.getD s undef)) → (blks y (a.eval x)).Nodup → o.wp P a w next Q := by
    intro s y hK hs hy hr hb hnd
    refine wp_val (v := a.eval x) (by simp only [execOp, ho]; rfl) (hn _ _ _ hK ?_ (put_keeps _ _ _) fun _ => Ext.refl w)
    rw [hd]
    exact h.give s d hs y _ hy hr hb hnd
  unfold asgK at hK
  split at hK
  · rename_i s off hx
    rw [hx] at hv
    obtain ⟨h1, A, h2, h3⟩ := hv
    split at hK
    · rename_i T y hs _
      have hr := h.rel s
      rw [hs] at hr
      obtain ⟨b, k1, k2, k3⟩ := hr
      rw [k1] at h2; cases h2
      have hav : a.eval x = a.tmps.getD s undef := by rw [h3, k1, Addr.zero_add]
      refine gives hK (lt_of_owner h1) (fun _ => rfl) ?_ ?_ ?_
      · rw [hav]; exact ⟨b, k1, k2, k3⟩
      · rw [hav, hs]; exact fun _ => id
      · exact nodup_blkOf _
    · split at hK
      · cases hK
      · exact plain hK
  · rename_i s hx
    rw [hx] at hv
    obtain ⟨h1, h2⟩ := hv
    split at hK
    · rename_i y hs _ _
      have hr := h.rel s
      rw [hs] at hr
      exact gives hK (lt_of_owner (isSl_owner h1)) (fun _ => rfl) (by rw [h2]; exact hr) (by rw [h2, hs]; exact fun _ => id) (nodup_blkOf _)
    · rename_i y hs _ _
      have hr := h.rel s
      rw [hs] at hr
      exact gives hK (lt_of_owner (isSl_owner h1)) (fun _ => rfl) (by rw [h2]; exact hr) (by intro b hb; cases hb) (by simp [blks, blksC])
    · rename_i hsd
      have hsd : s = d := by simpa using hsd
      subst hsd
      refine wp_val (v := a.eval x) (by simp only [execOp, ho]; rfl) (hn _ _ _ hK ?_ (put_keeps _ _ _) fun _ => Ext.refl w)
      rw [hd]
      have : (a.put (some s) (a.eval x)).tmps = a.tmps := by
        show a.tmps.setIfInBounds s (a.eval x) = a.tmps
        rw [h2]
        apply Array.ext
        · simp
        · intro i hi1 hi2
          rw [Array.getElem_setIfInBounds]
          split
          · rename_i hsi; subst hsi; simp [hi2]
          · rfl
      rw [this]; exact h
    · exact plain hK
  · rename_i s lo n hx
    rw [hx] at hv
    obtain ⟨h1, ⟨A, c, h2, h3, h4, h5⟩, h6⟩ := hv
    split at hK
    · rename_i y hs _
      have hr := h.rel s
      rw [hs] at hr
      refine gives hK (lt_of_owner h1) (fun _ => rfl) ?_ (by intro b hb; cases hb) (by simp [blks, blksC])
      rw [h2]
      exact cut_ro hr (h6 y (by unfold contentB; rw [hs])) h3 h4
    · rename_i y hs _
      split at hK
      · have hr := h.rel s
        rw [hs] at hr
        have hl := h6 y (by unfold contentB; rw [hs])
        refine gives hK (lt_of_owner h1) (fun _ => rfl) ?_ ?_ (nodup_blkOf _)
        · rw [h2]; exact cut_own hr (by omega) h3 (h5 rfl)
        · rw [h2, hs]
          rcases hr with ⟨q1, q2⟩ | ⟨b, cap, T, Cs, fr, q1, -⟩
          · obtain ⟨rfl, -⟩ := h5 rfl _ _ _ q1
            intro b hb; simp [blks, blksC, blkOf, baseOf] at hb
          · obtain ⟨rfl, -⟩ := h5 rfl _ _ _ q1
            rw [q1]; exact fun _ => id
      · split at hK
        · cases hK
        · exact plain hK
    · split at hK
      · cases hK
      · exact plain hK
  · cases hK
  · exact plain hK
end Go.Proofs.YtnfjggagenmkjaaDoor.AM
