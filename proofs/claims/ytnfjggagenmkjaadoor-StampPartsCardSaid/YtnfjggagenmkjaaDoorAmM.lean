/- Each operation of the interpreter is the machine's: lengths, appending, copying. -/
import Derived.Test.YtnfjggagenmkjaaDoorAmL
import Derived.Laws.Append
set_option linter.unusedSimpArgs false
namespace Go.Proofs.YtnfjggagenmkjaaDoor.AM
open Go

variable {P : Program} {base : Nat} {pb : Option Nat} {w0 w w' : World} {e : Env} {a : Act}
variable {K : Env → Option Out} {r : Out} {next : Act → World → Prop} {Q : Exit → Act → World → Prop} {o : Oper}

theorem toList2 {α : Type} {x : Array α} {p q : α} (h : x.toList = [p, q]) : x = #[p, q] := by apply Array.ext'; simpa using h
theorem toList1 {α : Type} {x : Array α} {p : α} (h : x.toList = [p]) : x = #[p] := by apply Array.ext'; simpa using h
theorem sliceish_some {t : Nat} (h : sliceish P t = true) : (∃ el, P.underlying t = some (.slice el)) ∨ P.underlying t = some .string := by
  unfold sliceish at h; split at h
  · exact .inl ⟨_, ‹_›⟩
  · exact .inr ‹_›
  · cases h
theorem op_len (h : Sim P base pb w0 w e a.tmps) {c : Call} (ho : o.op = .call c) (hc : c.callee = .builtin .len) {x : Operand} {t : Nat} (hx : c.args.toList = [x]) (ht : c.argTypes.toList = [t])
    (hK : lenK e (ev e x) (fun n => K (putO e o.dst (.c (.s (.int .i64 n))))) = some r) (hty : ∀ l, ev e x = .c (.s (.str l)) → P.underlying t = some .string) (hty' : (∀ l, ev e x ≠ .c (.s (.str l))) → ∃ el, P.underlying t = some (.slice el)) : Pure1 P base pb w e a K r o := by
  obtain ⟨callee, args, argTypes⟩ := c
  simp only at hc hx ht
  subst hc
  rw [toList1 hx, toList1 ht] at ho
  unfold lenK at hK
  have key : ∃ n : Nat, K (putO e o.dst (.c (.s (.int .i64 n)))) = some r ∧ ∀ w, (Builtin.len_ #[t] o.type #[a.eval x]).run P w = .ok (.int .i64 n) w := by
    split at hK
    · rename_i l hl
      refine ⟨_, hK, fun w => ?_⟩
      rw [ev_s h hl]
      simp [Builtin.len_, run_underlying (hty l hl), S.enc, goInt, size_mk]
    · rename_i hl
      obtain ⟨el, hu⟩ := hty' (by intro l; rw [hl]; simp)
      refine ⟨_, hK, fun w => ?_⟩
      rw [ev_s h hl]
      simp [Builtin.len_, run_underlying hu, S.enc, goInt]
    · rename_i s hl
      obtain ⟨el, hu⟩ := hty' (by intro l; rw [hl]; simp)
      split at hK
      · rename_i y hy
        refine ⟨_, hK, fun w => ?_⟩
        obtain ⟨A, cap, h3, h4, h5⟩ := owner_slice h hy
        have hv := (ev_rel h x).1
        rw [hl] at hv
        rw [hv.2, h3]
        simp [Builtin.len_, run_underlying hu, goInt]
      · cases hK
    · rename_i s lo n hl
      obtain ⟨el, hu⟩ := hty' (by intro l; rw [hl]; simp)
      refine ⟨_, hK, fun w => ?_⟩
      have hv := (ev_rel h x).1
      rw [hl] at hv
      obtain ⟨g1, ⟨A, c, g2, -⟩, -⟩ := hv
      rw [g2]
      simp [Builtin.len_, run_underlying hu, goInt]
    · cases hK
  obtain ⟨n, h1, h2⟩ := key
  refine pureA h1 (v := .int .i64 n) (fun w' hw => ?_) rfl rfl
  simp only [execOp, ho, resolve, invoke, builtin, Sem.run_bind, Sem.run_pure, Result.andThen_ok, List.map_toArray, List.map_cons, List.map_nil, h2]

/-- A source's cells. -/
theorem src_run (h : Sim P base pb w0 w e a.tmps) {x : Operand} {y : Xs} (hy : srcOf e (ev e x) = some y) : (Builtin.lenOf (a.eval x)).run P w = .ok y.len w ∧ ∀ n, n ≤ y.len → (Builtin.firstCells 1 n (a.eval x)).run P w = .ok (y.enc.take n).toArray w := by
  have hv := (ev_rel h x).1
  unfold srcOf at hy
  split at hy
  · rename_i s hx
    rw [hx] at hv
    obtain ⟨A, cap, h3, h4, h5⟩ := owner_slice h hy
    have hval : a.eval x = .slice A y.len cap := hv.2.trans h3
    rw [hval]
    refine ⟨rfl, fun n hl => ?_⟩
    cases A with
    | none =>
      have : n = 0 := by
        rcases Nat.eq_zero_or_pos n with h' | h'
        · exact h'
        · obtain ⟨b, hb⟩ := h5 (by omega); cases hb
      subst this; simp [Builtin.firstCells]
    | some A =>
      have hc := cells_at h (contentB_of hy) (lo := 0) (n := n) (by omega) (A := A) (fun _ => by rw [h3]; rfl)
      rw [cut_enc, List.drop_zero] at hc
      simpa [Builtin.firstCells, Addr.add] using hc
  · rename_i s lo n0 hx
    rw [hx] at hv
    obtain ⟨g1, ⟨A, c, g2, g3, g4, g5⟩, g6⟩ := hv
    split at hy
    · rename_i z hz
      cases hy
      have hlz := g6 z hz
      rw [g2, cut_len z lo n0 hlz]
      refine ⟨rfl, fun n hl => ?_⟩
      by_cases hn0 : n = 0
      · subst hn0
        cases A <;> simp [Builtin.firstCells, loadCells, loadCellsFrom]
      · obtain ⟨b, k1, rfl⟩ := g4 (by omega)
        have hc := cells_at h hz (lo := lo) (n := n) (by omega) (A := b) (fun _ => k1)
        rw [cut_enc] at hc
        rw [cut_enc, List.take_take, Nat.min_eq_left hl]
        simpa [Builtin.firstCells] using hc
    · cases hy
  · rename_i hx
    cases hy
    rw [ev_s h hx]
    refine ⟨rfl, fun n _ => by simp [S.enc, Builtin.firstCells, Xs.enc, Xs.toS]⟩
  · rename_i l hx
    cases hy
    rw [ev_s h hx]
    refine ⟨by simp [S.enc, Builtin.lenOf, size_mk, Xs.len], fun n hl => ?_⟩
    simp only [Xs.len, List.length_map] at hl
    simp only [S.enc, Builtin.firstCells, Sem.run_pure, extract_mk]
    congr 1
    apply Array.ext'
    simp [Xs.enc, Xs.toS, List.map_take]
    rfl
  · cases hy
theorem Xs.app_some {x y z : Xs} (h : x.app y = some z) : z.enc = x.enc ++ y.enc ∧ z.len = x.len + y.len := by
  unfold Xs.app at h
  split at h
  · split at h
    · rename_i hk; subst hk; cases h; simp [Xs.enc, Xs.toS, Xs.len]
    · cases h
  · cases h; simp [Xs.enc, Xs.toS, Xs.len]
  · cases h; simp [Xs.enc, Xs.toS, Xs.len]
  · cases h; simp [Xs.enc, Xs.toS, Xs.len]
  · cases h; simp [Xs.enc, Xs.toS, Xs.len]
  · cases h

theorem run_app_room {t u ty el : Nat} {i : TypeInfo} (ht : P.underlying t = some (.slice el)) (hu : sliceish P u = true) (hi : P.info? el = some i) (hs : i.size = 1) {b sLen sCap n T : Nat} {x : Value} {cur : Array Value} {fr : Nat × Nat} {news : List Value}
    (hg : w.heap[b]? = some (.cells cur T fr)) (hfr : ∀ j, j < cur.size → ¬ (fr.1 ≤ j ∧ j < fr.2)) (hx : (Builtin.lenOf x).run P w = .ok n w) (hf : (Builtin.firstCells 1 n x).run P w = .ok news.toArray w) (hnl : news.length = n) (h1 : ∀ v ∈ news, v.oneCell' = true)
    (hroom : sLen + n ≤ sCap) (hfit : sLen + n ≤ cur.size) :
    (Builtin.append_ #[t, u] ty #[.slice (some ⟨b, 0, none⟩) sLen sCap, x]).run P w = .ok (.slice (some ⟨b, 0, none⟩) (sLen + n) sCap) (w.setRow b (cur.toList.take sLen ++ news ++ cur.toList.drop (sLen + n)).toArray) := by
  have hst := run_storeCells_fr P b sLen T fr news 0 cur w hg (by omega) hfr h1
  rw [Nat.add_zero, hnl] at hst
  rcases sliceish_some hu with ⟨el', hd⟩ | hd
  · simp [Builtin.append_, run_underlying ht, run_underlying hd, sizeOf, typeInfo, hi, hs, hx, hf, hroom, Addr.zero_add]
    rw [hst]; simp
  · simp [Builtin.append_, run_underlying ht, run_underlying hd, sizeOf, typeInfo, hi, hs, hx, hf, hroom, Addr.zero_add]
    rw [hst]; simp
theorem run_app_nil {t u ty el : Nat} {i : TypeInfo} (ht : P.underlying t = some (.slice el)) (hu : sliceish P u = true) (hi : P.info? el = some i) (hs : i.size = 1) {x : Value} (hx : (Builtin.lenOf x).run P w = .ok 0 w) (hf : (Builtin.firstCells 1 0 x).run P w = .ok #[] w) :
    (Builtin.append_ #[t, u] ty #[.slice none 0 0, x]).run P w = .ok (.slice none 0 0) w := by
  rcases sliceish_some hu with ⟨el', hd⟩ | hd <;> simp [Builtin.append_, run_underlying ht, run_underlying hd, sizeOf, typeInfo, hi, hs, hx, hf]
theorem run_app_grow {t u ty el : Nat} {i : TypeInfo} {z : Value} (ht : P.underlying t = some (.slice el)) (hu : sliceish P u = true) (hi : P.info? el = some i) (hs : i.size = 1) (hby : i.bytes ≤ 16) (hz0 : i.zero = some z) {A : Option Addr} {sLen sCap n : Nat} {x : Value} {olds news : List Value}
    (hx : (Builtin.lenOf x).run P w = .ok n w) (hf : (Builtin.firstCells 1 n x).run P w.drew = .ok news.toArray w.drew) (ho : (Builtin.firstCells 1 sLen (.slice A sLen sCap)).run P w.drew = .ok olds.toArray w.drew)
    (hroom : sCap < sLen + n) (hsm : sLen + n ≤ 1099511627776) :
    (Builtin.append_ #[t, u] ty #[.slice A sLen sCap, x]).run P w = .ok (.slice (some ⟨w.heap.size, 0, none⟩) (sLen + n) (grownCap w (sLen + n) sCap el))
      (w.drew.alloc (.cells (olds.toArray ++ news.toArray ++ Builtin.zeroCells z.cells (grownCap w (sLen + n) sCap el - (sLen + n))) el)) := by
  have hn : ¬ (sLen + n ≤ sCap) := by omega
  have h63 : ¬ (9223372036854775807 < ((sLen : Int) + (n : Int))) := by omega
  have hfit : Builtin.nextslicecap (sLen + n) sCap * i.bytes ≤ 281474976710656 := by
    refine growslice_fits hroom ?_
    have : (sLen + n) * i.bytes ≤ 1099511627776 * 16 := Nat.mul_le_mul hsm hby
    omega
  have h48 : ¬ (281474976710656 < Builtin.nextslicecap (sLen + n) sCap * i.bytes) := by omega
  have hassoc : ∀ z : Array Value, olds.toArray ++ (news.toArray ++ z) = (olds ++ news).toArray ++ z := by intro z; apply Array.ext'; simp
  rcases sliceish_some hu with ⟨el', hd⟩ | hd <;> simp [Builtin.append_, run_underlying ht, run_underlying hd, sizeOf, typeInfo, zeroValue, hi, hs, hz0, hx, hn, h63, h48, Question.forced, hf, ho, newRow, grownCap] <;> rw [hassoc]

/-- A slot is set to an owner. -/
theorem Sim.putOwn (h : Sim P base pb w0 w e a.tmps) {d : Option Nat} {x : Xs} {v : Value} (hr : OwnRel w x v) (hb : ∀ b, b ∈ blkOf v → (b < w.heap.size ∧ (base ≤ b ∨ pb = some b)) ∧ ∀ i, b ∉ blks (e.getD i .u) (a.tmps.getD i undef)) :
    Sim P base pb w0 w (AM.putO e d (.c (.own x))) (a.put d v).tmps := by
  cases d with
  | none => exact h
  | some d =>
    refine h.put d _ v (Keep.refl _ _ _) (fun _ _ _ _ => rfl) hr (fun b hm => ⟨(hb b hm).1, fun i _ => (hb b hm).2 i⟩) ?_
    show (blkOf v).Nodup
    unfold blkOf; split <;> simp
theorem op_appendG (h : Sim P base pb w0 w e a.tmps) (hn : Nx P base pb w0 w e a o K r next) {e2 : Env} (h2 : Sim P base pb w0 w e2 a.tmps) {c : Call} (ho : o.op = .call c) (hc : c.callee = .builtin .append) {x y : Operand} {t u : Nat} (hxy : c.args.toList = [x, y]) (ht : c.argTypes.toList = [t, u])
    {el : Nat} {zz : S} (hz : elemZ P t = some (el, zz)) (hu : sliceish P u = true) {x0 y0 z : Xs} (hown : OwnRel w x0 (a.eval x)) (hblk : ∀ b, b ∈ blkOf (a.eval x) → (b < w.heap.size ∧ (base ≤ b ∨ pb = some b)) ∧ ∀ i, b ∉ blks (e2.getD i .u) (a.tmps.getD i undef))
    (hsrc : srcOf e (ev e y) = some y0) (happ : x0.app y0 = some z) (hlen : z.len ≤ 1099511627776) (hK : K (putO e2 o.dst (.c (.own z))) = some r) : o.wp P a w next Q := by
  obtain ⟨callee, args, argTypes⟩ := c
  simp only at hc hxy ht
  subst hc
  rw [toList2 hxy, toList2 ht] at ho
  obtain ⟨g1, g2, i, g3, g4, g5, g6, g7⟩ := elemZ_some hz
  obtain ⟨k1, k2⟩ := src_run h hsrc
  obtain ⟨z1, z2⟩ := Xs.app_some happ
  have hyl : y0.enc.length = y0.len := Xs.len_enc y0
  have hxl : x0.enc.length = x0.len := Xs.len_enc x0
  have hy1 := k2 y0.len (Nat.le_refl _)
  rw [List.take_of_length_le (by omega)] at hy1
  have hsd : Sim P base pb w0 w.drew e a.tmps := h.grow ⟨rfl, rfl, rfl, Nat.le_refl _, fun _ _ _ => rfl⟩ fun _ _ _ => rfl
  have hy2 := (src_run hsd hsrc).2 y0.len (Nat.le_refl _)
  rw [List.take_of_length_le (by omega)] at hy2
  have fin : ∀ v w', (Builtin.append_ #[t, u] o.type #[a.eval x, a.eval y]).run P w = .ok v w' → Keep base pb w w' → (∀ i b, b ∈ blks (e2.getD i .u) (a.tmps.getD i undef) → w'.heap[b]? = w.heap[b]?) → OwnRel w' z v →
      (∀ b, b ∈ blkOf v → (b < w'.heap.size ∧ (base ≤ b ∨ pb = some b)) ∧ ∀ i, b ∉ blks (e2.getD i .u) (a.tmps.getD i undef)) → o.wp P a w next Q := by
    intro v w' hrun hk hb hr hbv
    refine wp_val (v := v) (w' := w') ?_ (hn _ _ _ hK ((h2.grow hk hb).putOwn hr hbv) (put_keeps _ _ _) fun hq => by simp [quietE, ho] at hq)
    simp only [execOp, ho, resolve, invoke, builtin, Sem.run_bind, Sem.run_pure, Result.andThen_ok, List.map_toArray, List.map_cons, List.map_nil, hrun]
  have grow : ∀ A cap, a.eval x = .slice A x0.len cap → cap < x0.len + y0.len → (Builtin.firstCells 1 x0.len (.slice A x0.len cap)).run P w.drew = .ok x0.enc.toArray w.drew → o.wp P a w next Q := by
    intro A cap hA hroom hold
    have hrun := run_app_grow (P := P) (ty := o.type) g1 hu g3 g4 g5 g6 k1 hy2 hold hroom (by omega)
    refine fin _ (w.drew.alloc (.cells (x0.enc.toArray ++ y0.enc.toArray ++ Builtin.zeroCells zz.enc.cells (grownCap w (x0.len + y0.len) cap el - (x0.len + y0.len))) el)) (by rw [hA]; exact hrun) ⟨rfl, rfl, rfl, by simp, fun b hb _ => ?_⟩ (fun i b hm => ?_) ?_ ?_
    · exact heap_alloc_old w.drew _ b (by have := h.low; show b < w.heap.size; omega)
    · exact heap_alloc_old w.drew _ b (h2.own i b hm).1
    · refine .inr ⟨w.heap.size, grownCap w (x0.len + y0.len) cap el, el, _, (0, 0), by rw [z2], heap_alloc_new w.drew _, by rw [z2]; exact grownCap_ge _ _ _ _, ?_, by intro j _; simp, ?_⟩
      · have := grownCap_ge w (x0.len + y0.len) cap el
        simp only [Array.size_append, List.size_toArray, hxl, hyl, Builtin.zeroCells, g7, Array.size_map, Array.size_range]
        simp; omega
      · intro j hj
        rw [z1, Array.getElem?_append, if_pos (by simp [hxl, hyl]; omega)]
        simp
    · intro b hb
      simp only [blkOf, baseOf, List.mem_singleton] at hb
      subst hb
      refine ⟨⟨by simp, .inl h.low⟩, fun i hm => ?_⟩
      have := (h2.own i _ hm).1; omega
  rcases hown with ⟨hv, hl0⟩ | ⟨b, cap, T, Cs, fr, hv, p2, p3, p4, p5, p6⟩
  · by_cases hy0 : y0.len = 0
    · have hrun := run_app_nil (P := P) (ty := o.type) g1 hu g3 g4 (by rw [hy0] at k1; exact k1) (by rw [hy0] at hy1; rw [hy1]; rw [List.eq_nil_of_length_eq_zero (by omega : y0.enc.length = 0)])
      refine fin (.slice none 0 0) w (by rw [hv]; exact hrun) (Keep.refl _ _ _) (fun _ _ _ => rfl) (.inl ⟨rfl, by omega⟩) ?_
      intro b hb; simp [blkOf, baseOf] at hb
    · refine grow none 0 (by rw [hv, hl0]) (by omega) ?_
      have : x0.enc = [] := List.eq_nil_of_length_eq_zero (by omega)
      rw [this]; simp [Builtin.firstCells]
  · by_cases hroom : x0.len + y0.len ≤ cap
    · have hrun := run_app_room (P := P) (ty := o.type) g1 hu g3 g4 p2 p5 k1 hy1 hyl (enc_one y0) hroom (by omega)
      have hbx : b ∈ blkOf (a.eval x) := by rw [hv]; simp [blkOf, baseOf]
      obtain ⟨q1, q2⟩ := hblk b hbx
      refine fin _ _ (by rw [hv]; exact hrun) (setRow_keep q1.2 _) (fun i k hk => setRow_other w b k _ (by rintro rfl; exact q2 i hk)) ?_ ?_
      · refine .inr ⟨b, cap, T, _, fr, by rw [z2], setRow_heap w b _ _ _ _ p2, by omega, ?_, ?_, ?_⟩
        · simp [hyl]; omega
        · have : ((Cs.toList.take x0.len ++ y0.enc ++ Cs.toList.drop (x0.len + y0.len)).toArray).size = Cs.size := by simp [hyl]; omega
          rw [this]; exact p5
        · intro j hj
          have hxt : Cs.toList.take x0.len = x0.enc := by
            apply List.ext_getElem?
            intro k
            rw [List.getElem?_take]
            split
            · rename_i hk; rw [Array.getElem?_toList]; exact p6 k hk
            · rename_i hk; rw [List.getElem?_eq_none (by omega)]
          rw [z1, List.getElem?_toArray, hxt, List.getElem?_append, if_pos (by simp [hxl, hyl]; omega)]
      · intro b' hb'
        simp only [blkOf, baseOf, List.mem_singleton] at hb'
        subst hb'
        refine ⟨⟨by simpa [World.setRow] using q1.1, q1.2⟩, q2⟩
    · refine grow _ _ hv (by omega) ?_
      have hcells : ∀ j v, x0.enc[j]? = some v → w.drew.cell? ((⟨b, 0, none⟩ : Addr).add j) = some v := by
        intro j v hj
        have hjl : j < x0.len := by rw [← hxl]; exact (List.getElem?_eq_some_iff.1 hj).1
        rw [Addr.zero_add]
        show w.cell? _ = _
        simp [World.cell?, p2, p5 j (by omega), p6 j hjl, hj]
      exact run_firstCells_some w.drew 1 x0.len ⟨b, 0, none⟩ x0.len cap x0.enc (by omega) hcells
end Go.Proofs.YtnfjggagenmkjaaDoor.AM
