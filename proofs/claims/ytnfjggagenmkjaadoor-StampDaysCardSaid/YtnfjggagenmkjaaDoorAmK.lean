/- Each operation of the interpreter is the machine's: what writes to memory. -/
import Derived.Test.YtnfjggagenmkjaaDoorAmJ
import Derived.Laws.CopyRow
import Derived.Lib.ConvBytes
set_option linter.unusedSimpArgs false
namespace Go.Proofs.YtnfjggagenmkjaaDoor.AM
open Go

variable {P : Program} {base : Nat} {pb : Option Nat} {w0 w w' : World} {e : Env} {a : Act}
variable {K : Env → Option Out} {r : Out} {next : Act → World → Prop} {Q : Exit → Act → World → Prop} {o : Oper}

theorem run_storeCells_fr (P : Program) (g o : Nat) (t : TypeId) (fr : Nat × Nat) : ∀ (vs : List Value) (i : Nat) (cur : Array Value) (w : World), w.heap[g]? = some (.cells cur t fr) → o + i + vs.length ≤ cur.size →
    (∀ j, j < cur.size → ¬ (fr.1 ≤ j ∧ j < fr.2)) → (∀ v ∈ vs, v.oneCell' = true) →
    (storeCells ⟨g, o, none⟩ vs i).run P w = .ok () (w.setRow g (cur.toList.take (o + i) ++ vs ++ cur.toList.drop (o + i + vs.length)).toArray)
  | [], i, cur, w, hg, _, _, _ => by
    simp only [storeCells, List.append_nil, List.length_nil, Nat.add_zero, List.take_append_drop, Array.toArray_toList]
    rw [setRow_self w g cur t fr hg]
    rfl
  | v :: rest, i, cur, w, hg, hl, hfr, h1 => by
    have hi : o + i < cur.size := by simp at hl; omega
    have hadd : (⟨g, o, none⟩ : Addr).add i = ⟨g, o + i, none⟩ := by unfold Addr.add; split <;> simp_all
    have hcell : w.cell? ⟨g, o + i, none⟩ = some cur[o + i] := by simp [World.cell?, hg, hi, hfr _ hi]
    have hfro : w.frozen? ⟨g, o + i, none⟩ = false := by simp [World.frozen?, hg]; have := hfr _ hi; omega
    have hst : (store ((⟨g, o, none⟩ : Addr).add i) v).run P w = .ok () (w.setRow g (cur.setIfInBounds (o + i) v)) := by
      rw [hadd, run_store P w _ v _ (h1 v (by simp)), hcell]
      simp [hfro, setCell_eq_setRow w g (o + i) cur t fr v hg]
    have ih := run_storeCells_fr P g o t fr rest (i + 1) (cur.setIfInBounds (o + i) v) (w.setRow g (cur.setIfInBounds (o + i) v)) (setRow_heap w g cur _ t _ hg) (by simp at hl ⊢; omega) (by simpa using hfr) (fun x hx => h1 x (by simp [hx]))
    simp only [storeCells, Sem.run_bind, hst, Result.andThen_ok, ih, setRow_setRow]
    congr 3
    have e := list_seg_step cur.toList (o + i) v rest (by simp at hl ⊢; omega)
    simpa [Array.toList_setIfInBounds, Nat.add_assoc] using e
theorem S.one (s : S) : s.enc.oneCell' = true := by cases s <;> rfl
theorem enc_one (x : Xs) : ∀ v ∈ x.enc, v.oneCell' = true := by
  intro v hv; simp only [Xs.enc, List.mem_map] at hv; obtain ⟨s, -, rfl⟩ := hv; exact s.one
theorem setRow_keep {g : Nat} (h : base ≤ g ∨ pb = some g) (cs : Array Value) : Keep base pb w (w.setRow g cs) :=
  ⟨rfl, rfl, rfl, by simp [World.setRow], fun b hb hp => setRow_other w g b cs (by rintro rfl; rcases h with h | h; omega; exact hp h)⟩

/-- A variable's memory is set anew. -/
theorem Sim.setBox (h : Sim P base pb w0 w e a.tmps) {s T : Nat} {x : Xs} (hs : e.getD s .u = .box T x) : ∃ b, a.tmps.getD s undef = .pointer (some ⟨b, 0, none⟩) ∧ w.heap[b]? = some (.cells x.enc.toArray T (0, 0)) ∧
    ∀ y : Xs, y.len = x.len → Sim P base pb w0 (w.setRow b y.enc.toArray) (e.set s (.box T y)) a.tmps := by
  have hr := h.rel s
  rw [hs] at hr
  obtain ⟨b, h1, h2, h3⟩ := hr
  have hbl : blks (e.getD s .u) (a.tmps.getD s undef) = [b] := by rw [hs, h1]; rfl
  refine ⟨b, h1, h2, fun y hy => ?_⟩
  refine h.turn s (.box T y) (setRow_keep (h.own s b (by rw [hbl]; simp)).2 _) (fun k _ hk => setRow_other w b k _ (by rintro rfl; exact hk (by rw [hbl]; simp))) ⟨b, h1, setRow_heap w b _ _ _ _ h2, by rw [hy]; exact h3⟩ (by rw [hbl, h1]; rfl) ?_ ?_ (by rw [hs]; rfl) rfl ?_ ?_
  · rw [hs]; intro h; cases h
  · rw [hs]; intro h; cases h
  · intro x0 x' hx hx'
    unfold contentB at hx; rw [hs] at hx; cases hx
    simp only [contentB, List.getD_cons_zero, Option.some.injEq] at hx'
    rw [← hx']; exact hy
  · intro x' _; exact ⟨x, by unfold contentB; rw [hs]⟩
/-- A slice's own memory is set anew. -/
theorem Sim.setOwn (h : Sim P base pb w0 w e a.tmps) {s : Nat} {x : Xs} (hs : e.getD s .u = .c (.own x)) {b : Nat} {cap : Nat} {T : Nat} {Cs : Array Value} {fr : Nat × Nat}
    (h1 : a.tmps.getD s undef = .slice (some ⟨b, 0, none⟩) x.len cap) (h2 : w.heap[b]? = some (.cells Cs T fr)) (h3 : x.len ≤ cap) (h4 : cap ≤ Cs.size) (h5 : ∀ i, i < Cs.size → ¬ (fr.1 ≤ i ∧ i < fr.2))
    {y : Xs} (hy : y.len = x.len) {Cs' : Array Value} (hsz : Cs'.size = Cs.size) (hc : ∀ i, i < x.len → Cs'[i]? = y.enc[i]?) : Sim P base pb w0 (w.setRow b Cs') (e.set s (.c (.own y))) a.tmps := by
  have hbl : blks (e.getD s .u) (a.tmps.getD s undef) = [b] := by rw [hs, h1]; rfl
  refine h.turn s (.c (.own y)) (setRow_keep (h.own s b (by rw [hbl]; simp)).2 _) (fun k _ hk => setRow_other w b k _ (by rintro rfl; exact hk (by rw [hbl]; simp))) ?_ (by rw [hbl, h1]; rfl) ?_ ?_ (by rw [hs]; rfl) rfl ?_ ?_
  · exact .inr ⟨b, cap, T, Cs', fr, by rw [h1, hy], setRow_heap w b _ _ _ _ h2, by rw [hy]; exact h3, by rw [hsz]; exact h4, by rw [hsz]; exact h5, by rw [hy]; exact hc⟩
  · intro _; rfl
  · rw [hs]; intro h; cases h
  · intro x0 x' hx hx'
    unfold contentB at hx; rw [hs] at hx; cases hx
    simp only [contentB, List.getD_cons_zero, Option.some.injEq] at hx'
    rw [← hx']; exact hy
  · intro x' _; exact ⟨x, by unfold contentB; rw [hs]⟩

theorem Xs.set_enc {x z : Xs} {i : Nat} {s : S} (h : x.set i s = some z) : z.enc = x.enc.set i s.enc ∧ z.len = x.len := by
  obtain ⟨h1, h2⟩ := Xs.set_some h
  exact ⟨by rw [Xs.enc, h1, List.map_set, Xs.enc], h2⟩
theorem set_seg (l : List Value) (i : Nat) (v : Value) (h : i < l.length) : l.take i ++ [v] ++ l.drop (i + 1) = l.set i v := by
  rw [List.set_eq_take_append_cons_drop]; simp [h]
theorem run_storeVar1 {t : TypeId} (hc : cell1 P t = true) {b off : Nat} {cur : Array Value} {T : Nat} {fr : Nat × Nat} (hg : w.heap[b]? = some (.cells cur T fr)) (hl : off < cur.size) (hfr : ∀ j, j < cur.size → ¬ (fr.1 ≤ j ∧ j < fr.2)) (y : S) :
    (Instr.storeAt t (.pointer (some ⟨b, off, none⟩)) y.enc).run P w = .ok () (w.setRow b (cur.toList.set off y.enc).toArray) := by
  have hst := run_storeCells_fr P b off T fr [y.enc] 0 cur w hg (by simp; omega) hfr (by simp [S.one])
  have hcs : y.enc.cells = #[y.enc] := by cases y <;> rfl
  rw [Nat.add_zero, List.length_singleton, set_seg _ _ _ (by simpa using hl)] at hst
  simp only [Instr.storeAt, Instr.sureAddr, storeVar, Sem.run_bind, Sem.run_pure, Result.andThen_ok, run_sizeOf1 hc, hcs, Sem.run_ite]
  rw [if_neg (by simp)]
  simpa using hst
theorem via_at (h : Sim P base pb w0 w e a.tmps) {x : Operand} {s off : Nat} (hx : ev e x = .via s off) {b : Nat} (hb : baseOf (a.tmps.getD s undef) = some ⟨b, 0, none⟩) : a.eval x = .pointer (some ⟨b, off, none⟩) := by
  have hv := (ev_rel h x).1
  rw [hx] at hv
  obtain ⟨h1, A, h2, h3⟩ := hv
  rw [hb] at h2; cases h2
  rw [h3, Addr.zero_add]
/-- What is to be shown behind a store: one row has turned. -/
def NxS (P : Program) (base : Nat) (pb : Option Nat) (w0 w : World) (a : Act) (o : Oper) (K : Env → Option Out) (r : Out) (next : Act → World → Prop) (x : Operand) : Prop :=
  ∀ (e' : Env) (a' : Act) (b off : Nat) (row : Array Value), a.eval x = .pointer (some ⟨b, off, none⟩) → K e' = some r → Sim P base pb w0 (w.setRow b row) e' a'.tmps → (a'.defers = a.defers ∧ ∀ i, o.dst ≠ some i → a'.tmps.getD i undef = a.tmps.getD i undef) → next a' (w.setRow b row)
theorem wp_st {t : TypeId} {x v : Operand} (hn : NxS P base pb w0 w a o K r next x) (ho : o.op = .store t x v) (hd : o.dst = none) {e' : Env} {b off : Nat} {row : Array Value} (hx : a.eval x = .pointer (some ⟨b, off, none⟩)) (hrun : (Instr.storeAt t (a.eval x) (a.eval v)).run P w = .ok () (w.setRow b row)) (hs : Sim P base pb w0 (w.setRow b row) e' a.tmps) (hK : K e' = some r) : o.wp P a w next Q := by
  refine wp_skip' (w' := w.setRow b row) ?_ (hn e' _ b off row hx hK ?_ (put_keeps _ _ _))
  · simp only [execOp, ho, Sem.run_bind, hrun, Result.andThen_ok]; rfl
  · rw [hd]; exact hs
theorem op_storeB (h : Sim P base pb w0 w e a.tmps) {t : TypeId} {x v : Operand} (hn : NxS P base pb w0 w a o K r next x) (ho : o.op = .store t x v) (hd : o.dst = none) {s off T : Nat} (hx : ev e x = .via s off) {y z : Xs} (hs : e.getD s .u = .box T y) {c : S} (hv : ev e v = .c (.s c)) (hc : cell1 P t = true)
    (hz : y.set off c = some z) (hl : off < y.len) (hK : K (e.set s (.box T z)) = some r) : o.wp P a w next Q := by
  obtain ⟨b, h1, h2, h3⟩ := h.setBox hs
  obtain ⟨g1, g2⟩ := Xs.set_enc hz
  refine wp_st hn ho hd (via_at h hx (by rw [h1]; rfl)) ?_ (h3 z g2) hK
  rw [via_at h hx (by rw [h1]; rfl), ev_s h hv, run_storeVar1 hc h2 (by simp [Xs.len_enc]; exact hl) (by simp), g1]
theorem op_storeO (h : Sim P base pb w0 w e a.tmps) {t : TypeId} {x v : Operand} (hn : NxS P base pb w0 w a o K r next x) (ho : o.op = .store t x v) (hd : o.dst = none) {s off : Nat} (hx : ev e x = .via s off) {y z : Xs} (hs : e.getD s .u = .c (.own y)) {c : S} (hv : ev e v = .c (.s c)) (hc : cell1 P t = true)
    (hz : y.set off c = some z) (hl : off < y.len) (hK : K (e.set s (.c (.own z))) = some r) : o.wp P a w next Q := by
  have hr := h.rel s
  rw [hs] at hr
  obtain ⟨g1, g2⟩ := Xs.set_enc hz
  rcases hr with ⟨h1, h2⟩ | ⟨b, cap, T, Cs, fr, h1, h2, h3, h4, h5, h6⟩
  · omega
  · have hoff : off < Cs.size := by omega
    refine wp_st hn ho hd (via_at h hx (by rw [h1]; rfl)) ?_ (h.setOwn hs h1 h2 h3 h4 h5 (y := z) g2 (Cs' := (Cs.toList.set off c.enc).toArray) (by simp) ?_) hK
    · rw [via_at h hx (by rw [h1]; rfl), ev_s h hv, run_storeVar1 hc h2 hoff h5]
    · intro i hi
      have := h6 i hi
      rw [List.getElem?_toArray, g1, List.getElem?_set, List.getElem?_set]
      by_cases hio : off = i
      · subst hio
        simp [hoff, Xs.len_enc, hl]
      · rw [if_neg hio, if_neg hio]
        simpa using this
theorem lay_seg (cs : Array Value) (vs : List Value) : ∀ (k : Nat), k + vs.length ≤ cs.size → layA cs k vs = (cs.toList.take k ++ vs ++ cs.toList.drop (k + vs.length)).toArray := by
  induction vs generalizing cs with
  | nil => intro k _; simp [layA]
  | cons v vs ih =>
    intro k hk
    rw [layA, ih _ _ (by simp at hk ⊢; omega)]
    congr 1
    have e := list_seg_step cs.toList k v vs (by simp at hk ⊢; omega)
    simpa [Array.toList_setIfInBounds, Nat.add_assoc] using e
theorem op_storeA (h : Sim P base pb w0 w e a.tmps) {t : TypeId} {x v : Operand} (hn : NxS P base pb w0 w a o K r next x) (ho : o.op = .store t x v) (hd : o.dst = none) {s off T : Nat} (hx : ev e x = .via s off) {y z c : Xs} (hs : e.getD s .u = .box T y) (hv : ev e v = .c (.agg c)) (hc : isAggB P t = some true)
    (hcl : c.len = P.cellsOf t) (hl : off + c.len ≤ y.len) (hz : z.enc.toArray = layA y.enc.toArray off c.enc) (hK : K (e.set s (.box T z)) = some r) : o.wp P a w next Q := by
  obtain ⟨b, h1, h2, h3⟩ := h.setBox hs
  have hzl : z.len = y.len := by rw [← Xs.len_enc, ← Xs.len_enc y, ← List.size_toArray, hz, layA_size, List.size_toArray]
  refine wp_st hn ho hd (via_at h hx (by rw [h1]; rfl)) ?_ (h3 z hzl) hK
  have hst := run_storeCells_fr P b off T (0, 0) c.enc 0 y.enc.toArray w h2 (by simp [Xs.len_enc]; exact hl) (by simp) (enc_one c)
  rw [via_at h hx (by rw [h1]; rfl), ev_agg h hv]
  have hsz : c.enc.toArray.size = P.cellsOf t := by simp [Xs.len_enc, hcl]
  simp only [Instr.storeAt, Instr.sureAddr, storeVar, Sem.run_bind, Sem.run_pure, Result.andThen_ok, (isAggB_run hc w).2, Value.cells, hsz, ne_eq, not_true_eq_false, if_false]
  rw [hz, lay_seg _ _ _ (by simp [Xs.len_enc]; exact hl)]
  simpa using hst
end Go.Proofs.YtnfjggagenmkjaaDoor.AM
