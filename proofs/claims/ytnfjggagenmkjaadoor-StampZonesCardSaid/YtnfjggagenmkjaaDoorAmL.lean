/- Each operation of the interpreter is the machine's: bytes of a string, ranges, parts of tuples, lengths. -/
import Derived.Test.YtnfjggagenmkjaaDoorAmK
import Derived.Laws.RangeString
set_option linter.unusedSimpArgs false
namespace Go.Proofs.YtnfjggagenmkjaaDoor.AM
open Go

variable {P : Program} {base : Nat} {pb : Option Nat} {w0 w w' : World} {e : Env} {a : Act}
variable {K : Env → Option Out} {r : Out} {next : Act → World → Prop} {Q : Exit → Act → World → Prop} {o : Oper}

theorem op_convO (h : Sim P base pb w0 w e a.tmps) (hn : Nx P base pb w0 w e a o K r next) {s d t : TypeId} {x : Operand} (ho : o.op = .convert s d x) {ds : TypeDesc} (hs : P.underlying s = some ds) (hd : P.underlying d = some (.slice t)) (ht : P.underlying t = some (.int .u8)) {l : List UInt8}
    (hx : ev e x = .c (.s (.str l))) (hK : K (putO e o.dst (.c (.own (.ints .u8 (l.map fun c => (c.toNat : Int)))))) = some r) : o.wp P a w next Q := by
  have hrun := Lib.run_convert_string_bytes (P := P) w s d t ⟨⟨l⟩⟩ hs hd ht
  have hsz := Lib.bytesWorld_size w t ⟨⟨l⟩⟩
  have hx' : ∀ q, aliasOf q (.c (.own (.ints .u8 (l.map fun c => (c.toNat : Int))))) = false := fun _ => rfl
  refine wp_val (v := .slice (some ⟨w.heap.size, 0, none⟩) l.length (grownCap w l.length 0 t)) ?_ (hn _ _ _ hK (h.putNew a rfl o.dst _ _ (w' := Lib.bytesWorld w t ⟨⟨l⟩⟩) ⟨rfl, rfl, rfl, by omega, fun b hb _ => Lib.bytesWorld_at_old w t _ b (by have := h.low; omega)⟩ (fun b hb => Lib.bytesWorld_at_old w t _ b hb) hx' ?_ ?_ ?_) (put_keeps _ _ _) fun _ => ⟨rfl, rfl, rfl, by omega, fun b hb _ => Lib.bytesWorld_at_old w t _ b hb⟩)
  · simp only [execOp, ho]
    refine run_v ?_
    rw [ev_s h hx]
    exact hrun
  · refine .inr ⟨w.heap.size, grownCap w l.length 0 t, t, _, _, ?_, Lib.bytesWorld_at_new w t _, ?_, ?_, ?_, ?_⟩
    · simp [Xs.len]
    · simp only [Xs.len, List.length_map]; exact grownCap_ge w l.length 0 t
    · simp [Lib.bytesCells, size_mk]; omega
    · intro i hi; simp only; omega
    · intro i hi
      simp only [Xs.len, List.length_map] at hi
      simp [Lib.bytesCells, Xs.enc, Xs.toS, S.enc, Array.getElem?_append, hi]
  · intro b hb
    simp only [blks, blksC, blkOf, baseOf, List.mem_singleton] at hb
    subst hb; rw [hsz]; exact ⟨Nat.le_refl _, Nat.lt_succ_self _⟩
  · simp [blks, blksC, blkOf, baseOf]

theorem op_range (h : Sim P base pb w0 w e a.tmps) (hn : Nx P base pb w0 w e a o K r next) {t : TypeId} {x : Operand} (ho : o.op = .range t x) (ht : P.underlying t = some .string) {l : List UInt8} (hx : ev e x = .c (.s (.str l))) (hK : K (putO e o.dst (.iter l 0)) = some r) : o.wp P a w next Q := by
  refine finNew h hn (ob := .stringIter ⟨⟨l⟩⟩ 0) hK (v := .pointer (some ⟨w.heap.size, 0, none⟩)) ?_ (fun _ => rfl) ⟨_, rfl, heap_alloc_new _ _⟩ (.inl rfl)
  simp only [execOp, ho]
  refine run_v ?_
  rw [ev_s h hx]
  exact run_range_string w t _ ht
theorem it_of (h : Sim P base pb w0 w e a.tmps) {x : Operand} {s : Nat} (hx : ev e x = .it s) {l : List UInt8} {pos : Nat} (hs : e.getD s .u = .iter l pos) : ∃ b, a.tmps.getD s undef = .pointer (some ⟨b, 0, none⟩) ∧ a.eval x = .pointer (some ⟨b, 0, none⟩) ∧ w.heap[b]? = some (.stringIter ⟨⟨l⟩⟩ pos) := by
  have hv := (ev_rel h x).1
  rw [hx] at hv
  have hr := h.rel s
  rw [hs] at hr
  obtain ⟨b, h1, h2⟩ := hr
  exact ⟨b, h1, hv.2.trans h1, h2⟩
theorem op_nextEnd (h : Sim P base pb w0 w e a.tmps) {t : TypeId} {x : Operand} (ho : o.op = .next x true ∧ o.type = t) {s : Nat} (hx : ev e x = .it s) {l : List UInt8} {pos : Nat} (hs : e.getD s .u = .iter l pos) (hp : ¬ pos < l.length)
    (hK : K (putO e o.dst (.tup [.s (.bool false)])) = some r) : Pure1 P base pb w e a K r o := by
  obtain ⟨b, h1, h2, h3⟩ := it_of h hx hs
  refine pure1 hK (hm := by simp only [memO, ho.1]) (hl := by simp only [ldSlot, ho.1]) (v := .tuple #[.bool false]) (fun w' hw => ?_) ⟨[.bool false], rfl, .cons rfl .nil⟩ rfl
  simp only [execOp, ho]
  refine run_v ?_
  rw [h2]
  obtain ⟨b', k1, -, k3⟩ := it_of (h.ext hw) hx hs
  rw [h1] at k1; cases k1
  simp [Instr.next, getObj, Sem.run, k3, size_mk, hp]
theorem op_nextMore (h : Sim P base pb w0 w e a.tmps) (hn : Nx P base pb w0 w e a o K r next) {t : TypeId} {x : Operand} (ho : o.op = .next x true ∧ o.type = t) {s : Nat} (hx : ev e x = .it s) {l : List UInt8} {pos : Nat} (hs : e.getD s .u = .iter l pos) (hp : pos < l.length)
    (hK : K (putO (e.set s (.iter l (pos + (Utf8.decode ⟨⟨l⟩⟩ pos).2))) o.dst (.tup [.s (.bool true), .s (.int .i64 pos), .s (.int .i32 (Utf8.decode ⟨⟨l⟩⟩ pos).1)])) = some r) : o.wp P a w next Q := by
  obtain ⟨b, h1, h2, h3⟩ := it_of h hx hs
  have hlt : b < w.heap.size := by
    rcases Nat.lt_or_ge b w.heap.size with h' | h'
    · exact h'
    · rw [Array.getElem?_eq_none h'] at h3; cases h3
  have hbl : blks (e.getD s .u) (a.tmps.getD s undef) = [b] := by rw [hs, h1]; rfl
  have hnew : ∀ ob, ({ w with heap := w.heap.setIfInBounds b ob } : World).heap[b]? = some ob := by intro ob; simp [hlt]
  have hold : ∀ ob k, k ≠ b → ({ w with heap := w.heap.setIfInBounds b ob } : World).heap[k]? = w.heap[k]? := by
    intro ob k hk; simp only [Array.getElem?_setIfInBounds]; rw [if_neg (Ne.symm hk)]
  have hs2 : Sim P base pb w0 { w with heap := w.heap.setIfInBounds b (.stringIter ⟨⟨l⟩⟩ (pos + (Utf8.decode ⟨⟨l⟩⟩ pos).2)) } (e.set s (.iter l (pos + (Utf8.decode ⟨⟨l⟩⟩ pos).2))) a.tmps := by
    refine h.turn s (.iter l _) ⟨rfl, rfl, rfl, by simp, fun k hk hkp => hold _ k ?_⟩ (fun k _ hk => hold _ k ?_) ⟨b, h1, hnew _⟩ (by rw [hbl, h1]; rfl) ?_ (fun _ => rfl) (by rw [hs]; rfl) rfl ?_ ?_
    · rintro rfl
      rcases (h.own s k (by rw [hbl]; simp)).2 with h' | h'
      · omega
      · exact hkp h'
    · rintro rfl; exact hk (by rw [hbl]; simp)
    · rw [hs]; intro h'; cases h'
    · intro x0 x' hx0; unfold contentB at hx0; rw [hs] at hx0; cases hx0
    · intro x' hx0; simp [contentB] at hx0
  refine wp_val (v := .tuple #[.bool true, .int .i64 pos, .int .i32 (Utf8.decode ⟨⟨l⟩⟩ pos).1]) ?_ (hn _ _ _ hK (hs2.putO0 a rfl o.dst _ _ ⟨[.bool true, .int .i64 pos, .int .i32 (Utf8.decode ⟨⟨l⟩⟩ pos).1], rfl, .cons rfl (.cons rfl (.cons rfl .nil))⟩ rfl) (put_keeps _ _ _) fun hq => by simp [quietE, ho.1] at hq)
  simp only [execOp, ho]
  refine run_v ?_
  rw [h2]
  simp only [Instr.next, getObj, setObj, Sem.run_bind, Sem.run, h3, Result.andThen_ok, size_mk, hp, if_true]
  rfl

/-- What a slot tells may be told less well. -/
theorem Sim.weak (h : Sim P base pb w0 w e a.tmps) (t : Nat) (y : V) (hr : RelV P base pb w e a.tmps y (a.tmps.getD t undef)) (hal : ∀ i, aliasOf t (e.getD i .u) = false) (hay : aliasOf t y = false)
    (hsub : ∀ b, b ∈ blks y (a.tmps.getD t undef) → b ∈ blks (e.getD t .u) (a.tmps.getD t undef)) (hnd : (blks y (a.tmps.getD t undef)).Nodup) : Sim P base pb w0 w (e.set t y) a.tmps := by
  have hg : ∀ i, (e.set t y).getD i .u = if t = i then (if t < e.length then y else .u) else e.getD i .u := fun i => getD_set e t i y
  have hb : ∀ i b, b ∈ blks ((e.set t y).getD i .u) (a.tmps.getD i undef) → b ∈ blks (e.getD i .u) (a.tmps.getD i undef) := by
    intro i b hm
    rw [hg] at hm
    split at hm
    · rename_i ht; subst ht
      split at hm
      · exact hsub b hm
      · simp [blks] at hm
    · exact hm
  have key : ∀ x v, aliasOf t x = false → RelV P base pb w e a.tmps x v → RelV P base pb w (e.set t y) a.tmps x v := by
    intro x v hx hv
    refine hv.env fun s hs hso => ⟨?_, rfl⟩
    rw [hg, if_neg (by rintro rfl; rw [hx] at hs; cases hs)]
  refine ⟨by rw [List.length_set]; exact h.size, fun i => ?_, fun i j hij b hi hj => h.dist i j hij b (hb i b hi) (hb j b hj), fun i b hi => h.own i b (hb i b hi), fun i => ?_, h.keep, h.low⟩
  · rw [hg]
    split
    · rename_i ht; subst ht
      split
      · exact key _ _ hay hr
      · trivial
    · exact key _ _ (hal i) (h.rel i)
  · rw [hg]
    split
    · rename_i ht; subst ht
      split
      · exact hnd
      · simp [blks]
    · exact h.nd i
theorem Sim.noneOf (h : Sim P base pb w0 w e a.tmps) {t : Nat} (ho : owner (e.getD t .u) = false) : ∀ i, aliasOf t (e.getD i .u) = false := fun _ => h.no_alias ho

theorem RelL.get {w : World} {l : List C} {vs : List Value} (h : RelL base pb w l vs) : ∀ {i : Nat} {c : C}, l[i]? = some c → ∃ v, vs[i]? = some v ∧ RelC base pb w c v := by
  induction h with
  | nil => intro i c hc; simp at hc
  | cons h1 _ ih =>
    intro i c hc
    cases i with
    | zero => simp at hc; subst hc; exact ⟨_, rfl, h1⟩
    | succ i => simp at hc; obtain ⟨v, hv⟩ := ih hc; exact ⟨v, by simpa using hv⟩
theorem RelL.drop1 {w : World} {l : List C} {vs : List Value} (h : RelL base pb w l vs) : ∀ i, RelL base pb w (l.set i .u) vs := by
  induction h with
  | nil => intro i; exact .nil
  | cons h1 h2 ih =>
    intro i
    cases i with
    | zero => exact .cons trivial h2
    | succ i => exact .cons h1 (ih i)
theorem blksL_set (l : List C) : ∀ (vs : List Value) (i : Nat) b, b ∈ blksL (l.set i .u) vs → b ∈ blksL l vs := by
  induction l with
  | nil => intro vs i b hb; simpa using hb
  | cons c l ih =>
    intro vs i b hb
    cases vs with
    | nil => cases i <;> simp [blksL] at hb
    | cons v vs =>
      cases i with
      | zero => simp only [List.set_cons_zero, blksL, blksC, List.nil_append] at hb ⊢; simp [hb]
      | succ i =>
        simp only [List.set_cons_succ, blksL, List.mem_append] at hb ⊢
        exact hb.imp id (ih vs i b)
theorem blksL_setnd (l : List C) : ∀ (vs : List Value) (i : Nat), (blksL l vs).Nodup → (blksL (l.set i .u) vs).Nodup := by
  induction l with
  | nil => intro vs i hb; simpa using hb
  | cons c l ih =>
    intro vs i hb
    cases vs with
    | nil => cases i <;> simp [blksL]
    | cons v vs =>
      simp only [blksL] at hb
      cases i with
      | zero => simp only [List.set_cons_zero, blksL, blksC, List.nil_append]; exact (List.nodup_append.1 hb).2.1
      | succ i =>
        simp only [List.set_cons_succ, blksL]
        refine List.nodup_append.2 ⟨(List.nodup_append.1 hb).1, ih vs i (List.nodup_append.1 hb).2.1, fun x hx y hy => ?_⟩
        exact (List.nodup_append.1 hb).2.2 x hx y (blksL_set l vs i y hy)
theorem blksL_get (l : List C) : ∀ (vs : List Value) (i : Nat) {c : C} {v : Value}, l[i]? = some c → vs[i]? = some v → (blksL l vs).Nodup → (∀ b, b ∈ blksC c v → b ∈ blksL l vs ∧ b ∉ blksL (l.set i .u) vs) := by
  induction l with
  | nil => intro vs i c v hc; simp at hc
  | cons c' l ih =>
    intro vs i c v hc hv hnd b hb
    cases vs with
    | nil => simp at hv
    | cons v' vs =>
      simp only [blksL] at hnd
      cases i with
      | zero =>
        simp at hc hv; subst hc; subst hv
        refine ⟨by simp [blksL, hb], fun hm => ?_⟩
        simp only [List.set_cons_zero, blksL, blksC, List.nil_append] at hm
        exact (List.nodup_append.1 hnd).2.2 b hb b hm rfl
      | succ i =>
        simp at hc hv
        obtain ⟨h1, h2⟩ := ih vs i hc hv (List.nodup_append.1 hnd).2.1 b hb
        refine ⟨by simp [blksL, h1], fun hm => ?_⟩
        simp only [List.set_cons_succ, blksL, List.mem_append] at hm
        rcases hm with hm | hm
        · exact (List.nodup_append.1 hnd).2.2 b hm b h1 rfl
        · exact h2 hm
theorem noSelf_c (d : Nat) (c : C) : noSelf d (.c c) = .c c := rfl
theorem noSelf_tup (d : Nat) (l : List C) : noSelf d (.tup l) = .tup l := rfl
theorem execOp_extract {t i : Nat} (ho : o.op = .extract (.tmp t) i) {vs : List Value} {v : Value} (hv : a.tmps.getD t undef = .tuple vs.toArray) (hi : vs[i]? = some v) : (execOp a.eval o).run P w = .ok (.value v) w := by
  have he : a.eval (.tmp t) = .tuple vs.toArray := hv
  simp only [execOp, ho, he]
  refine run_v ?_
  simp [Instr.extract, hi]
theorem op_extract0 (h : Sim P base pb w0 w e a.tmps) {t i : Nat} (ho : o.op = .extract (.tmp t) i) {l : List C} (ht : e.getD t .u = .tup l) {c : C} (hc : l[i]? = some c) (hp : plainC c = true) (hK : K (putO e o.dst (.c c)) = some r) : Pure1 P base pb w e a K r o := by
  have hr := h.rel t
  rw [ht] at hr
  obtain ⟨vs, h1, h2⟩ := hr
  obtain ⟨v, h3, h4⟩ := h2.get hc
  refine pureA hK (v := v) (fun _ _ => execOp_extract ho h1 h3) h4 ?_
  cases c <;> first | rfl | cases hp
theorem op_extractO (h : Sim P base pb w0 w e a.tmps) (hn : Nx P base pb w0 w e a o K r next) {t i : Nat} (ho : o.op = .extract (.tmp t) i) {l : List C} (ht : e.getD t .u = .tup l) {x : Xs} (hc : l[i]? = some (.own x)) (hdt : o.dst ≠ some t) (hK : K (putO (e.set t (.tup (l.set i .u))) o.dst (.c (.own x))) = some r) : o.wp P a w next Q := by
  have hr := h.rel t
  rw [ht] at hr
  obtain ⟨vs, h1, h2⟩ := hr
  obtain ⟨v, h3, h4⟩ := h2.get hc
  have hbt : blks (e.getD t .u) (a.tmps.getD t undef) = blksL l vs := by rw [ht, h1]; simp [blks]
  have hbt' : blks (.tup (l.set i .u)) (a.tmps.getD t undef) = blksL (l.set i .u) vs := by rw [h1]; simp [blks]
  have hnd : (blksL l vs).Nodup := by have := h.nd t; rwa [hbt] at this
  have hw := h.weak t (.tup (l.set i .u)) ⟨vs, h1, h2.drop1 i⟩ (h.noneOf (by rw [ht]; rfl)) rfl (by rw [hbt, hbt']; exact blksL_set l vs i) (by rw [hbt']; exact blksL_setnd l vs i hnd)
  refine wp_val (v := v) (execOp_extract ho h1 h3) (hn _ _ _ hK ?_ (put_keeps _ _ _) fun _ => Ext.refl w)
  have hlt : t < e.length := by
    rcases Nat.lt_or_ge t e.length with h' | h'
    · exact h'
    · rw [List.getD_eq_getElem?_getD, List.getElem?_eq_none h'] at ht; cases ht
  cases hd : o.dst with
  | none => exact hw
  | some d =>
    have hdt' : d ≠ t := by rintro rfl; exact hdt hd
    refine hw.put d (.c (.own x)) v (Keep.refl _ _ _) (fun _ _ _ _ => rfl) (by rw [noSelf_c]; exact h4) ?_ ?_
    · rw [noSelf_c]
      intro b hb
      obtain ⟨k1, k2⟩ := blksL_get l vs i hc h3 hnd b hb
      refine ⟨h.own t b (by rw [hbt]; exact k1), fun j hj hm => ?_⟩
      rw [getD_set] at hm
      by_cases htj : t = j
      · subst htj
        rw [if_pos rfl, if_pos hlt, hbt'] at hm
        exact k2 hm
      · rw [if_neg htj] at hm
        exact h.dist t j htj b (by rw [hbt]; exact k1) hm
    · rw [noSelf_c]
      show (blkOf v).Nodup
      unfold blkOf; split <;> simp
theorem op_moveT (h : Sim P base pb w0 w e a.tmps) (hn : Nx P base pb w0 w e a o K r next) {t : Nat} (ho : o.op = .move (.tmp t)) {l : List C} (ht : e.getD t .u = .tup l) (hdt : o.dst ≠ some t) (hK : K (putO (e.set t .u) o.dst (.tup l)) = some r) : o.wp P a w next Q := by
  have hr := h.rel t
  have hw := h.weak t .u trivial (h.noneOf (by rw [ht]; rfl)) rfl (by simp [blks]) (by simp [blks])
  refine wp_val (v := a.tmps.getD t undef) (by simp only [execOp, ho]; rfl) (hn _ _ _ hK ?_ (put_keeps _ _ _) fun _ => Ext.refl w)
  cases hd : o.dst with
  | none => exact hw
  | some d =>
    have hdt' : d ≠ t := by rintro rfl; exact hdt hd
    rw [ht] at hr
    refine hw.put d (.tup l) _ (Keep.refl _ _ _) (fun _ _ _ _ => rfl) (by rw [noSelf_tup]; exact hr) ?_ ?_
    · rw [noSelf_tup]
      intro b hb
      have hb' : b ∈ blks (e.getD t .u) (a.tmps.getD t undef) := by rw [ht]; exact hb
      refine ⟨h.own t b hb', fun j hj hm => ?_⟩
      rw [getD_set] at hm
      by_cases htj : t = j
      · subst htj; rw [if_pos rfl] at hm; split at hm <;> simp [blks] at hm
      · rw [if_neg htj] at hm; exact h.dist t j htj b hb' hm
    · rw [noSelf_tup]
      have := h.nd t; rw [ht] at this; exact this
theorem op_moveT0 (h : Sim P base pb w0 w e a.tmps) {t : Nat} (ho : o.op = .move (.tmp t)) {l : List C} (ht : e.getD t .u = .tup l) (hl : l.all plainC = true) (hK : K (putO e o.dst (.tup l)) = some r) : Pure1 P base pb w e a K r o := by
  refine op_move h ho ?_
  have : ev e (.tmp t) = .tup l := by
    show rd e t = _
    unfold rd; rw [ht]; dsimp only; rw [hl]
  rw [this]; exact hK
end Go.Proofs.YtnfjggagenmkjaaDoor.AM
