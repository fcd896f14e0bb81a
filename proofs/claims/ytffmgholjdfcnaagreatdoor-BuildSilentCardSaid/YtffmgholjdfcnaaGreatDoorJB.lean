/- Texts of this session, joined. -/
import Derived.Test.YtffmgholjdfcnaaGreatDoorJA
import Derived.Laws.Append
import Derived.Deep.LoopGhost
import Derived.Scope
import Derived.Below
import Derived.Sort.Grow
import Derived.Deep.Draws
set_option linter.unusedSimpArgs false
namespace Go.Proofs.YtffmgholjdfcnaaGreatDoor.AM
open Go
variable {P : Program} {base : Nat} {pb : Option Nat} {w0 w w' : World} {e : Env} {a : Act}
variable {K : Env → Option Out} {r : Out} {next : Act → World → Prop} {Q : Exit → Act → World → Prop} {o : Oper}
theorem toList2 {α : Type} {x : Array α} {p q : α} (h : x.toList = [p, q]) : x = #[p, q] := by apply Array.ext'; simpa using h
theorem toList1 {α : Type} {x : Array α} {p : α} (h : x.toList = [p]) : x = #[p] := by apply Array.ext'; simpa using h
theorem sliceish_some {t : Nat} (h : sliceish P t = true) : (∃ el, P.underlying t = some (.slice el)) ∨ P.underlying t = some .string := by
 unfold sliceish at h; split at h
 ·exact .inl ⟨_, ‹_›⟩
 ·exact .inr ‹_›
 ·cases h
theorem op_len (h : Sim P base pb w0 w e a.tmps) {c : Call} (ho : o.op = .call c) (hc : c.callee = .builtin .len) {x : Operand} {t : Nat} (hx : c.args.toList = [x]) (ht : c.argTypes.toList = [t])
  (hK : lenK e (ev e x) (fun n => K (putO e o.dst (.c (.s (.int .i64 n))))) = some r) (hty : ∀ l, ev e x = .c (.s (.str l)) → P.underlying t = some .string) (hty' : (∀ l, ev e x ≠ .c (.s (.str l))) → ∃ el, P.underlying t = some (.slice el)) : Pure1 P base pb w e a K r o := by
 obtain ⟨callee, args, argTypes⟩ := c
 simp only at hc hx ht
 subst hc
 rw [toList1 hx, toList1 ht] at ho
 unfold lenK at hK
 have key : ∃ n : Nat, K (putO e o.dst (.c (.s (.int .i64 n)))) = some r ∧ ∀ w, (Builtin.len_ #[t] o.type #[a.eval x]).run P w = .ok (.int .i64 n) w := by
  split at hK
  ·rename_i l hl
   refine ⟨_, hK, fun w => ?_⟩
   rw [ev_s h hl]
   simp [Builtin.len_, run_underlying (hty l hl), S.enc, goInt, size_mk]
  ·rename_i hl
   obtain ⟨el, hu⟩ := hty' (by intro l; rw [hl]; simp)
   refine ⟨_, hK, fun w => ?_⟩
   rw [ev_s h hl]
   simp [Builtin.len_, run_underlying hu, S.enc, goInt]
  ·rename_i s hl
   obtain ⟨el, hu⟩ := hty' (by intro l; rw [hl]; simp)
   split at hK
   ·rename_i y hy
    refine ⟨_, hK, fun w => ?_⟩
    obtain ⟨A, cap, h3, h4, h5⟩ := owner_slice h hy
    have hv := (ev_rel h x).1
    rw [hl] at hv
    rw [hv.2, h3]
    simp [Builtin.len_, run_underlying hu, goInt]
   ·cases hK
  ·rename_i s lo n hl
   obtain ⟨el, hu⟩ := hty' (by intro l; rw [hl]; simp)
   refine ⟨_, hK, fun w => ?_⟩
   have hv := (ev_rel h x).1
   rw [hl] at hv
   obtain ⟨g1, ⟨A, c, g2, -⟩, -⟩ := hv
   rw [g2]
   simp [Builtin.len_, run_underlying hu, goInt]
  ·cases hK
 obtain ⟨n, h1, h2⟩ := key
 refine pureA h1 (v := .int .i64 n) (fun w' hw => ?_) rfl rfl
 simp only [execOp, ho, resolve, invoke, builtin, Sem.run_bind, Sem.run_pure, Result.andThen_ok, List.map_toArray, List.map_cons, List.map_nil, h2]
theorem src_run (h : Sim P base pb w0 w e a.tmps) {x : Operand} {y : Xs} (hy : srcOf e (ev e x) = some y) : (Builtin.lenOf (a.eval x)).run P w = .ok y.len w ∧ ∀ n, n ≤ y.len → (Builtin.firstCells 1 n (a.eval x)).run P w = .ok (y.enc.take n).toArray w := by
 have hv := (ev_rel h x).1
 unfold srcOf at hy
 split at hy
 ·rename_i s hx
  rw [hx] at hv
  obtain ⟨A, cap, h3, h4, h5⟩ := owner_slice h hy
  have hval : a.eval x = .slice A y.len cap := hv.2.trans h3
  rw [hval]
  refine ⟨rfl, fun n hl => ?_⟩
  cases A with
  | none =>
   have : n = 0 := by
    rcases Nat.eq_zero_or_pos n with h' | h'
    ·exact h'
    ·obtain ⟨b, hb⟩ := h5 (by omega); cases hb
   subst this; simp [Builtin.firstCells]
  | some A =>
   have hc := cells_at h (contentB_of hy) (lo := 0) (n := n) (by omega) (A := A) (fun _ => by rw [h3]; rfl)
   rw [cut_enc, List.drop_zero] at hc
   simpa [Builtin.firstCells, Addr.add] using hc
 ·rename_i s lo n0 hx
  rw [hx] at hv
  obtain ⟨g1, ⟨A, c, g2, g3, g4, g5⟩, g6⟩ := hv
  split at hy
  ·rename_i z hz
   cases hy
   have hlz := g6.1 z hz
   rw [g2, cut_len z lo n0 hlz]
   refine ⟨rfl, fun n hl => ?_⟩
   by_cases hn0 : n = 0
   ·subst hn0
    cases A <;> simp [Builtin.firstCells, loadCells, loadCellsFrom]
   ·obtain ⟨b, k1, rfl⟩ := g4 (by omega)
    have hc := cells_at h hz (lo := lo) (n := n) (by omega) (A := b) (fun _ => k1)
    rw [cut_enc] at hc
    rw [cut_enc, List.take_take, Nat.min_eq_left hl]
    simpa [Builtin.firstCells] using hc
  ·cases hy
 ·rename_i hx
  cases hy
  rw [ev_s h hx]
  refine ⟨rfl, fun n _ => by simp [S.enc, Builtin.firstCells, Xs.enc, Xs.toS]⟩
 ·rename_i l hx
  cases hy
  rw [ev_s h hx]
  refine ⟨by simp [S.enc, Builtin.lenOf, size_mk, Xs.len], fun n hl => ?_⟩
  simp only [Xs.len, List.length_map] at hl
  simp only [S.enc, Builtin.firstCells, Sem.run_pure, extract_mk]
  congr 1
  apply Array.ext'
  simp [Xs.enc, Xs.toS, List.map_take]
  rfl
 ·cases hy
theorem Xs.app_some {x y z : Xs} (h : x.app y = some z) : z.enc = x.enc ++ y.enc ∧ z.len = x.len + y.len := by
 unfold Xs.app at h
 split at h
 ·split at h
  ·rename_i hk; subst hk; cases h; simp [Xs.enc, Xs.toS, Xs.len]
  ·cases h
 ·cases h; simp [Xs.enc, Xs.toS, Xs.len]
 ·cases h; simp [Xs.enc, Xs.toS, Xs.len]
 ·cases h; simp [Xs.enc, Xs.toS, Xs.len]
 ·cases h; simp [Xs.enc, Xs.toS, Xs.len]
 ·cases h
theorem run_app_room {t u ty el : Nat} {i : TypeInfo} (ht : P.underlying t = some (.slice el)) (hu : sliceish P u = true) (hi : P.info? el = some i) (hs : i.size = 1) {b sLen sCap n T : Nat} {x : Value} {cur : Array Value} {fr : Nat × Nat} {news : List Value}
  (hg : w.heap[b]? = some (.cells cur T fr)) (hfr : ∀ j, j < cur.size → ¬ (fr.1 ≤ j ∧ j < fr.2)) (hx : (Builtin.lenOf x).run P w = .ok n w) (hf : (Builtin.firstCells 1 n x).run P w = .ok news.toArray w) (hnl : news.length = n) (h1 : ∀ v ∈ news, v.oneCell' = true)
  (hroom : sLen + n ≤ sCap) (hfit : sLen + n ≤ cur.size) :
  (Builtin.append_ #[t, u] ty #[.slice (some ⟨b, 0, none⟩) sLen sCap, x]).run P w = .ok (.slice (some ⟨b, 0, none⟩) (sLen + n) sCap) (w.setRow b (cur.toList.take sLen ++ news ++ cur.toList.drop (sLen + n)).toArray) := by
 have hst := run_storeCells_fr P b sLen T fr news 0 cur w hg (by omega) hfr h1
 rw [Nat.add_zero, hnl] at hst
 rcases sliceish_some hu with ⟨el', hd⟩ | hd
 ·simp [Builtin.append_, run_underlying ht, run_underlying hd, sizeOf, typeInfo, hi, hs, hx, hf, hroom, Addr.zero_add]
  rw [hst]; simp
 ·simp [Builtin.append_, run_underlying ht, run_underlying hd, sizeOf, typeInfo, hi, hs, hx, hf, hroom, Addr.zero_add]
  rw [hst]; simp
theorem run_app_nil {t u ty el : Nat} {i : TypeInfo} (ht : P.underlying t = some (.slice el)) (hu : sliceish P u = true) (hi : P.info? el = some i) (hs : i.size = 1) {x : Value} (hx : (Builtin.lenOf x).run P w = .ok 0 w) (hf : (Builtin.firstCells 1 0 x).run P w = .ok #[] w) :
  (Builtin.append_ #[t, u] ty #[.slice none 0 0, x]).run P w = .ok (.slice none 0 0) w := by
 rcases sliceish_some hu with ⟨el', hd⟩ | hd <;> simp [Builtin.append_, run_underlying ht, run_underlying hd, sizeOf, typeInfo, hi, hs, hx, hf]
theorem run_app_grow {t u ty el : Nat} {i : TypeInfo} {z : Value} (ht : P.underlying t = some (.slice el)) (hu : sliceish P u = true) (hi : P.info? el = some i) (hs : i.size = 1) (hby : i.bytes ≤ 16) (hz0 : i.zero = some z) {A : Option Addr} {sLen sCap n : Nat} {x : Value} {olds news : List Value}
  (hx : (Builtin.lenOf x).run P w = .ok n w) (hf : (Builtin.firstCells 1 n x).run P w.drew = .ok news.toArray w.drew) (ho : (Builtin.firstCells 1 sLen (.slice A sLen sCap)).run P w.drew = .ok olds.toArray w.drew)
  (hroom : sCap < sLen + n) (hsm : sLen + n ≤ 1099511627776) :
  (Builtin.append_ #[t, u] ty #[.slice A sLen sCap, x]).run P w = .ok (.slice (some ⟨w.heap.size, 0, none⟩) (sLen + n) (grownCap w (sLen + n) sCap el))
   (w.drew.alloc (.cells (olds.toArray ++ news.toArray ++ Builtin.zeroCells z.cells (grownCap w (sLen + n) sCap el - (sLen + n))) el)) := by
 have hn : ¬ (sLen + n ≤ sCap) := by omega
 have h63 : ¬ (9223372036854775807 < ((sLen : Int) + (n : Int))) := by omega
 have hfit : Builtin.nextslicecap (sLen + n) sCap * i.bytes ≤ 281474976710656 := by
  refine growslice_fits hroom ?_
  have : (sLen + n) * i.bytes ≤ 1099511627776 * 16 := Nat.mul_le_mul hsm hby
  omega
 have h48 : ¬ (281474976710656 < Builtin.nextslicecap (sLen + n) sCap * i.bytes) := by omega
 have hassoc : ∀ z : Array Value, olds.toArray ++ (news.toArray ++ z) = (olds ++ news).toArray ++ z := by intro z; apply Array.ext'; simp
 rcases sliceish_some hu with ⟨el', hd⟩ | hd <;> simp [Builtin.append_, run_underlying ht, run_underlying hd, sizeOf, typeInfo, zeroValue, hi, hs, hz0, hx, hn, h63, h48, Question.forced, hf, ho, newRow, grownCap] <;> rw [hassoc]
theorem Sim.putOwn (h : Sim P base pb w0 w e a.tmps) {d : Option Nat} {x : Xs} {v : Value} (hr : OwnRel w x v) (hb : ∀ b, b ∈ blkOf v → (b < w.heap.size ∧ (base ≤ b ∨ pb = some b)) ∧ ∀ i, b ∉ blks (e.getD i .u) (a.tmps.getD i undef)) :
  Sim P base pb w0 w (AM.putO e d (.c (.own x))) (a.put d v).tmps := by
 cases d with
 | none => exact h
 | some d =>
  refine h.put d _ v (Keep.refl _ _ _) (fun _ _ _ _ => rfl) hr (fun b hm => ⟨(hb b hm).1, fun i _ => (hb b hm).2 i⟩) ?_
  show (blkOf v).Nodup
  unfold blkOf; split <;> simp
theorem op_appendG (h : Sim P base pb w0 w e a.tmps) (hn : Nx P base pb w0 w e a o K r next) {e2 : Env} (h2 : Sim P base pb w0 w e2 a.tmps) {c : Call} (ho : o.op = .call c) (hc : c.callee = .builtin .append) {x y : Operand} {t u : Nat} (hxy : c.args.toList = [x, y]) (ht : c.argTypes.toList = [t, u])
  {el : Nat} {zz : S} (hz : elemZ P t = some (el, zz)) (hu : sliceish P u = true) {x0 y0 z : Xs} (hown : OwnRel w x0 (a.eval x)) (hblk : ∀ b, b ∈ blkOf (a.eval x) → (b < w.heap.size ∧ (base ≤ b ∨ pb = some b)) ∧ ∀ i, b ∉ blks (e2.getD i .u) (a.tmps.getD i undef))
  (hsrc : srcOf e (ev e y) = some y0) (happ : x0.app y0 = some z) (hlen : z.len ≤ 1099511627776) (hK : K (putO e2 o.dst (.c (.own z))) = some r) : o.wp P a w next Q := by
 obtain ⟨callee, args, argTypes⟩ := c
 simp only at hc hxy ht
 subst hc
 rw [toList2 hxy, toList2 ht] at ho
 obtain ⟨g1, g2, i, g3, g4, g5, g6, g7⟩ := elemZ_some hz
 obtain ⟨k1, k2⟩ := src_run h hsrc
 obtain ⟨z1, z2⟩ := Xs.app_some happ
 have hyl : y0.enc.length = y0.len := Xs.len_enc y0
 have hxl : x0.enc.length = x0.len := Xs.len_enc x0
 have hy1 := k2 y0.len (Nat.le_refl _)
 rw [List.take_of_length_le (by omega)] at hy1
 have hsd : Sim P base pb w0 w.drew e a.tmps := h.grow ⟨rfl, rfl, rfl, Nat.le_refl _, fun _ _ _ => rfl⟩ fun _ _ _ => rfl
 have hy2 := (src_run hsd hsrc).2 y0.len (Nat.le_refl _)
 rw [List.take_of_length_le (by omega)] at hy2
 have fin : ∀ v w', (Builtin.append_ #[t, u] o.type #[a.eval x, a.eval y]).run P w = .ok v w' → Keep base pb w w' → (∀ i b, b ∈ blks (e2.getD i .u) (a.tmps.getD i undef) → w'.heap[b]? = w.heap[b]?) → OwnRel w' z v →
   (∀ b, b ∈ blkOf v → (b < w'.heap.size ∧ (base ≤ b ∨ pb = some b)) ∧ ∀ i, b ∉ blks (e2.getD i .u) (a.tmps.getD i undef)) → o.wp P a w next Q := by
  intro v w' hrun hk hb hr hbv
  refine wp_val (v := v) (w' := w') ?_ (hn _ _ _ hK ((h2.grow hk hb).putOwn hr hbv) (put_keeps _ _ _) fun hq => by simp [quietE, ho] at hq)
  simp only [execOp, ho, resolve, invoke, builtin, Sem.run_bind, Sem.run_pure, Result.andThen_ok, List.map_toArray, List.map_cons, List.map_nil, hrun]
 have grow : ∀ A cap, a.eval x = .slice A x0.len cap → cap < x0.len + y0.len → (Builtin.firstCells 1 x0.len (.slice A x0.len cap)).run P w.drew = .ok x0.enc.toArray w.drew → o.wp P a w next Q := by
  intro A cap hA hroom hold
  have hrun := run_app_grow (P := P) (ty := o.type) g1 hu g3 g4 g5 g6 k1 hy2 hold hroom (by omega)
  refine fin _ (w.drew.alloc (.cells (x0.enc.toArray ++ y0.enc.toArray ++ Builtin.zeroCells zz.enc.cells (grownCap w (x0.len + y0.len) cap el - (x0.len + y0.len))) el)) (by rw [hA]; exact hrun) ⟨rfl, rfl, rfl, by simp, fun b hb _ => ?_⟩ (fun i b hm => ?_) ?_ ?_
  ·exact heap_alloc_old w.drew _ b (by have := h.low; show b < w.heap.size; omega)
  ·exact heap_alloc_old w.drew _ b (h2.own i b hm).1
  ·refine .inr ⟨w.heap.size, grownCap w (x0.len + y0.len) cap el, el, _, (0, 0), by rw [z2], heap_alloc_new w.drew _, by rw [z2]; exact grownCap_ge _ _ _ _, ?_, by intro j _; simp, ?_⟩
   ·have := grownCap_ge w (x0.len + y0.len) cap el
    simp only [Array.size_append, List.size_toArray, hxl, hyl, Builtin.zeroCells, g7, Array.size_map, Array.size_range]
    simp; omega
   ·intro j hj
    rw [z1, Array.getElem?_append, if_pos (by simp [hxl, hyl]; omega)]
    simp
  ·intro b hb
   simp only [blkOf, baseOf, List.mem_singleton] at hb
   subst hb
   refine ⟨⟨by simp, .inl h.low⟩, fun i hm => ?_⟩
   have := (h2.own i _ hm).1; omega
 rcases hown with ⟨hv, hl0⟩ | ⟨b, cap, T, Cs, fr, hv, p2, p3, p4, p5, p6⟩
 ·by_cases hy0 : y0.len = 0
  ·have hrun := run_app_nil (P := P) (ty := o.type) g1 hu g3 g4 (by rw [hy0] at k1; exact k1) (by rw [hy0] at hy1; rw [hy1]; rw [List.eq_nil_of_length_eq_zero (by omega : y0.enc.length = 0)])
   refine fin (.slice none 0 0) w (by rw [hv]; exact hrun) (Keep.refl _ _ _) (fun _ _ _ => rfl) (.inl ⟨rfl, by omega⟩) ?_
   intro b hb; simp [blkOf, baseOf] at hb
  ·refine grow none 0 (by rw [hv, hl0]) (by omega) ?_
   have : x0.enc = [] := List.eq_nil_of_length_eq_zero (by omega)
   rw [this]; simp [Builtin.firstCells]
 ·by_cases hroom : x0.len + y0.len ≤ cap
  ·have hrun := run_app_room (P := P) (ty := o.type) g1 hu g3 g4 p2 p5 k1 hy1 hyl (enc_one y0) hroom (by omega)
   have hbx : b ∈ blkOf (a.eval x) := by rw [hv]; simp [blkOf, baseOf]
   obtain ⟨q1, q2⟩ := hblk b hbx
   refine fin _ _ (by rw [hv]; exact hrun) (setRow_keep q1.2 _) (fun i k hk => setRow_other w b k _ (by rintro rfl; exact q2 i hk)) ?_ ?_
   ·refine .inr ⟨b, cap, T, _, fr, by rw [z2], setRow_heap w b _ _ _ _ p2, by omega, ?_, ?_, ?_⟩
    ·simp [hyl]; omega
    ·have : ((Cs.toList.take x0.len ++ y0.enc ++ Cs.toList.drop (x0.len + y0.len)).toArray).size = Cs.size := by simp [hyl]; omega
     rw [this]; exact p5
    ·intro j hj
     have hxt : Cs.toList.take x0.len = x0.enc := by
      apply List.ext_getElem?
      intro k
      rw [List.getElem?_take]
      split
      ·rename_i hk; rw [Array.getElem?_toList]; exact p6 k hk
      ·rename_i hk; rw [List.getElem?_eq_none (by omega)]
     rw [z1, List.getElem?_toArray, hxt, List.getElem?_append, if_pos (by simp [hxl, hyl]; omega)]
   ·intro b' hb'
    simp only [blkOf, baseOf, List.mem_singleton] at hb'
    subst hb'
    refine ⟨⟨by simpa [World.setRow] using q1.1, q1.2⟩, q2⟩
  ·refine grow _ _ hv (by omega) ?_
   have hcells : ∀ j v, x0.enc[j]? = some v → w.drew.cell? ((⟨b, 0, none⟩ : Addr).add j) = some v := by
    intro j v hj
    have hjl : j < x0.len := by rw [← hxl]; exact (List.getElem?_eq_some_iff.1 hj).1
    rw [Addr.zero_add]
    show w.cell? _ = _
    simp [World.cell?, p2, p5 j (by omega), p6 j hjl, hj]
   exact run_firstCells_some w.drew 1 x0.len ⟨b, 0, none⟩ x0.len cap x0.enc (by omega) hcells
end Go.Proofs.YtffmgholjdfcnaaGreatDoor.AM
set_option linter.unusedSimpArgs false
namespace Go.Proofs.YtffmgholjdfcnaaGreatDoor.AM
open Go
variable {P : Program} {base : Nat} {pb : Option Nat} {w0 w w' : World} {e : Env} {a : Act}
variable {K : Env → Option Out} {r : Out} {next : Act → World → Prop} {Q : Exit → Act → World → Prop} {o : Oper}
theorem Xs.splice_some {x y z : Xs} {lo m : Nat} (h : x.splice lo m y = some z) (hm : m ≤ y.len) (hl : lo + m ≤ x.len) : z.enc = x.enc.take lo ++ y.enc.take m ++ x.enc.drop (lo + m) ∧ z.len = x.len := by
 have key : z.enc = x.enc.take lo ++ y.enc.take m ++ x.enc.drop (lo + m) := by
  unfold Xs.splice at h
  split at h
  ·split at h
   ·rename_i hk; subst hk; cases h; simp [Xs.enc, Xs.toS, List.map_take, List.map_drop]
   ·cases h
  ·cases h; simp [Xs.enc, Xs.toS, List.map_take, List.map_drop]
  ·cases h
   have : m = 0 := by simpa [Xs.len] using hm
   subst this
   simp [Xs.enc, Xs.toS]
  ·cases h
 refine ⟨key, ?_⟩
 have := congrArg List.length key
 rw [Xs.len_enc] at this
 rw [this]
 simp [Xs.len_enc]; omega
theorem op_copyG (h : Sim P base pb w0 w e a.tmps) (hn : Nx P base pb w0 w e a o K r next) {c : Call} (ho : o.op = .call c) (hc : c.callee = .builtin .copy) {x y : Operand} {t u : Nat} (hxy : c.args.toList = [x, y]) (ht : c.argTypes.toList = [t, u])
  {el : Nat} {zz : S} (hz : elemZ P t = some (el, zz)) {y0 : Xs} (hsrc : srcOf e (ev e y) = some y0) {s lo n : Nat} {A : Option Addr} {cp : Nat} (hd : a.eval x = .slice A n cp) (hA : 0 < n → ∃ b, baseOf (a.tmps.getD s undef) = some b ∧ A = some (b.add lo))
  (hln : ∀ x, contentB e s = some x → lo + n ≤ x.len) (hK : copyK e o.dst y0 K s lo n = some r) : o.wp P a w next Q := by
 obtain ⟨callee, args, argTypes⟩ := c
 simp only at hc hxy ht
 subst hc
 rw [toList2 hxy, toList2 ht] at ho
 obtain ⟨g1, g2, i, g3, g4, -, -, -⟩ := elemZ_some hz
 obtain ⟨k1, k2⟩ := src_run h hsrc
 have k3 := k2 (min y0.len n) (Nat.min_le_left _ _)
 have hcl : (y0.enc.take (min y0.len n)).length = min y0.len n := by simp [Xs.len_enc]
 have run0 : min y0.len n = 0 → (Builtin.copy_ #[t, u] o.type #[a.eval x, a.eval y]).run P w = .ok (.int .i64 (min y0.len n : Nat)) w := by
  intro h0
  rw [h0] at k3
  rw [hd, h0]
  have e1 : Nat.min y0.len n = 0 := h0
  cases A <;> simp [Builtin.copy_, run_underlying g1, sizeOf, typeInfo, g3, g4, k1, e1, k3, storeCells, goInt]
 have run1 : ∀ {b T : Nat} {Cs : Array Value} {fr : Nat × Nat}, baseOf (a.tmps.getD s undef) = some ⟨b, 0, none⟩ → w.heap[b]? = some (.cells Cs T fr) → (∀ j, j < Cs.size → ¬ (fr.1 ≤ j ∧ j < fr.2)) → lo + n ≤ Cs.size → 0 < min y0.len n →
   (Builtin.copy_ #[t, u] o.type #[a.eval x, a.eval y]).run P w = .ok (.int .i64 (min y0.len n : Nat)) (w.setRow b (Cs.toList.take lo ++ y0.enc.take (min y0.len n) ++ Cs.toList.drop (lo + min y0.len n)).toArray) := by
  intro b T Cs fr hb hg hfr hfit h0
  obtain ⟨b', q1, q2⟩ := hA (by omega)
  rw [hb] at q1; cases q1
  have hst := run_storeCells_fr P b lo T fr (y0.enc.take (min y0.len n)) 0 Cs w hg (by rw [hcl]; omega) hfr (fun v hv => enc_one y0 v (List.mem_of_mem_take hv))
  rw [hcl, Nat.add_zero] at hst
  rw [hd, q2, Addr.zero_add]
  simp only [Builtin.copy_, run_underlying g1, sizeOf, typeInfo, g3, g4, k1, Sem.run_bind, Sem.run_pure, Result.andThen_ok, run_program, List.getElem?_toArray, List.getElem?_cons_zero, List.getElem?_cons_succ]
  have e1 : Nat.min y0.len n = min y0.len n := rfl
  simp only [e1, k3, Result.andThen_ok, hst, goInt]
 have fin : ∀ {w' : World} {e' : Env}, (Builtin.copy_ #[t, u] o.type #[a.eval x, a.eval y]).run P w = .ok (.int .i64 (min y0.len n : Nat)) w' → Sim P base pb w0 w' e' a.tmps → K (putO e' o.dst (.c (.s (.int .i64 (min y0.len n : Nat))))) = some r → o.wp P a w next Q := by
  intro w' e' hrun hs hK
  refine wp_val (v := .int .i64 (min y0.len n : Nat)) (w' := w') ?_ (hn _ _ _ hK (hs.putO0 a rfl o.dst _ _ rfl rfl) (put_keeps _ _ _) fun hq => by simp [quietE, ho] at hq)
  simp only [execOp, ho, resolve, invoke, builtin, Sem.run_bind, Sem.run_pure, Result.andThen_ok, List.map_toArray, List.map_cons, List.map_nil, hrun]
 unfold copyK at hK
 split at hK
 ·rename_i x0 hx0
  have hl := hln x0 (by unfold contentB; rw [hx0])
  split at hK
  ·rename_i z hzz
   obtain ⟨s1, s2⟩ := Xs.splice_some hzz (Nat.min_le_left _ _) (by omega)
   have hr := h.rel s
   rw [hx0] at hr
   by_cases h0 : min y0.len n = 0
   ·have hze : z.enc = x0.enc := by rw [s1, h0]; simp
    refine fin (run0 h0) (e' := e.set s (.c (.own z))) ?_ hK
    rcases hr with ⟨q1, q2⟩ | ⟨b, cap, T, Cs, fr, q1, q2, q3, q4, q5, q6⟩
    ·have hbl : blks (.c (.own z)) (a.tmps.getD s undef) = blks (e.getD s .u) (a.tmps.getD s undef) := by rw [hx0]; rfl
     refine h.turn s (.c (.own z)) (Keep.refl _ _ _) (fun _ _ _ => rfl) (.inl ⟨q1, by omega⟩) hbl (fun _ => rfl) (by rw [hx0]; intro h'; cases h') (by rw [hx0]; rfl) rfl ?_ ?_ (by intro T2 y2 h2; cases h2)
     ·intro xx x' hxx hx'
      unfold contentB at hxx; rw [hx0] at hxx; cases hxx
      simp only [contentB, List.getD_cons_zero, Option.some.injEq] at hx'
      rw [← hx']; exact s2
     ·intro x' _; exact ⟨x0, by unfold contentB; rw [hx0]⟩
    ·have := h.setOwn hx0 q1 q2 q3 q4 q5 (y := z) s2 (Cs' := Cs) rfl (by rw [hze]; exact q6)
     rwa [setRow_self w b Cs T fr q2] at this
   ·rcases hr with ⟨q1, q2⟩ | ⟨b, cap, T, Cs, fr, q1, q2, q3, q4, q5, q6⟩
    ·omega
    ·refine fin (run1 (by rw [q1]; rfl) q2 q5 (by omega) (by omega)) (h.setOwn hx0 q1 q2 q3 q4 q5 (y := z) s2 ?_ ?_) hK
     ·simp only [List.size_toArray, List.length_append, List.length_take, List.length_drop, Array.length_toList, hcl, Xs.len_enc]; omega
     ·intro i hi
      rw [List.getElem?_toArray, s1]
      simp only [List.append_assoc, List.getElem?_append, List.length_take, Array.length_toList, Xs.len_enc, List.getElem?_take, List.getElem?_drop]
      have e1 : min lo Cs.size = lo := by omega
      have e2 : min lo x0.len = lo := by omega
      rw [e1, e2]
      by_cases c1 : i < lo
      ·rw [if_pos c1, if_pos c1, if_pos c1, if_pos c1, Array.getElem?_toList, q6 i hi]
      ·rw [if_neg c1, if_neg c1]
       split
       ·rfl
       ·rename_i c2
        have e3 : lo + min y0.len n + (i - lo - min (min y0.len n) y0.len) = i := by omega
        rw [e3, Array.getElem?_toList, q6 i hi]
  ·cases hK
 ·rename_i T0 x0 hx0
  have hl := hln x0 (by unfold contentB; rw [hx0])
  split at hK
  ·rename_i z hzz
   obtain ⟨s1, s2⟩ := Xs.splice_some hzz (Nat.min_le_left _ _) (by omega)
   obtain ⟨b, q1, q2, q3⟩ := h.setBox hx0
   have hs := q3 z s2
   by_cases h0 : min y0.len n = 0
   ·have hze : z.enc = x0.enc := by rw [s1, h0]; simp
    rw [hze, setRow_self w b _ _ _ q2] at hs
    exact fin (run0 h0) hs hK
   ·refine fin (run1 (by rw [q1]; rfl) q2 (by simp) (by simp [Xs.len_enc]; exact hl) (by omega)) ?_ hK
    rw [s1] at hs
    exact hs
  ·cases hK
 ·cases hK
theorem Sim.killed (h : Sim P base pb w0 w e a.tmps) (d : Nat) : Sim P base pb w0 w (kill d e) a.tmps := by
 have hb : ∀ i b, b ∈ blks ((kill d e).getD i .u) (a.tmps.getD i undef) → b ∈ blks (e.getD i .u) (a.tmps.getD i undef) := by
  intro i b hm
  rw [getD_kill] at hm
  unfold noSelf at hm
  split at hm
  ·simp [blks] at hm
  ·exact hm
 refine ⟨by rw [length_kill]; exact h.size, fun i => ?_, fun i j hij b hi hj => h.dist i j hij b (hb i b hi) (hb j b hj), fun i b hi => h.own i b (hb i b hi), fun i => ?_, h.keep, h.low⟩
 ·rw [getD_kill]
  unfold noSelf; split
  ·trivial
  ·exact (h.rel i).env fun s hs hso => ⟨kill_owner d e s hso, rfl⟩
 ·rw [getD_kill]
  unfold noSelf; split
  ·simp [blks]
  ·exact h.nd i
theorem kill_none (d : Nat) (e : Env) (i : Nat) : aliasOf d ((kill d e).getD i .u) = false := by rw [getD_kill]; exact noSelf_alias d _
theorem kill_keeps {d s : Nat} {e : Env} (h : ∀ i, aliasOf s (e.getD i .u) = false) (i : Nat) : aliasOf s ((kill d e).getD i .u) = false := by
 rw [getD_kill]; unfold noSelf; split
 ·rfl
 ·exact h i
theorem set_keeps {s d : Nat} {y : V} {e : Env} (h : ∀ i, aliasOf s (e.getD i .u) = false) (hy : aliasOf s y = false) (i : Nat) : aliasOf s ((e.set d y).getD i .u) = false := by
 rw [getD_set]; split
 ·split
  ·exact hy
  ·rfl
 ·exact h i
theorem kill_id {d : Nat} {e : Env} (h : ∀ i, aliasOf d (e.getD i .u) = false) : kill d e = e := by
 apply List.ext_getElem?
 intro i
 have := h i
 simp only [kill, List.getElem?_map, List.getD_eq_getElem?_getD] at this ⊢
 cases hi : e[i]? with
 | none => rfl
 | some v => rw [hi] at this; simp only [Option.getD_some] at this; simp [noSelf_no this]
theorem put_set {d : Nat} {e : Env} {v : V} (h : ∀ i, aliasOf d (e.getD i .u) = false) (hv : aliasOf d v = false) : put e d v = e.set d v := by
 unfold put; rw [noSelf_no hv, kill_id h]; split <;> rfl
theorem Sim.give (h : Sim P base pb w0 w e a.tmps) (s d : Nat) (hs : s < e.length) (y : V) (v : Value) (hy : ∀ q, aliasOf q y = false) (hr : RelV P base pb w e a.tmps y v) (hb : ∀ b, b ∈ blks y v → b ∈ blks (e.getD s .u) (a.tmps.getD s undef)) (hnd : (blks y v).Nodup) :
  Sim P base pb w0 w (((kill s (kill d e)).set s .u).set d y) (a.tmps.setIfInBounds d v) := by
 have h1 := (h.killed d).killed s
 have n1 := kill_none s (kill d e)
 have n2 : ∀ i, aliasOf d ((kill s (kill d e)).getD i .u) = false := kill_keeps (kill_none d e)
 have h2 := h1.weak s .u trivial n1 rfl (by simp [blks]) (by simp [blks])
 have n3 : ∀ i, aliasOf d (((kill s (kill d e)).set s .u).getD i .u) = false := set_keeps n2 rfl
 rw [← put_set n3 (hy d)]
 have hbe : ∀ i b, b ∈ blks (((kill s (kill d e)).set s .u).getD i .u) (a.tmps.getD i undef) → i ≠ s ∧ b ∈ blks (e.getD i .u) (a.tmps.getD i undef) := by
  intro i b hm
  rw [getD_set, length_kill, length_kill] at hm
  by_cases hsi : s = i
  ·rw [if_pos hsi] at hm; split at hm <;> simp [blks] at hm
  ·rw [if_neg hsi] at hm
   refine ⟨Ne.symm hsi, ?_⟩
   rw [getD_kill, getD_kill] at hm
   unfold noSelf at hm
   split at hm
   ·simp [blks] at hm
   ·split at hm
    ·simp [blks] at hm
    ·exact hm
 refine h2.put d y v (Keep.refl _ _ _) (fun _ _ _ _ => rfl) ?_ ?_ ?_
 ·rw [noSelf_no (hy d)]
  exact hr.env fun q hq _ => by rw [hy q] at hq; cases hq
 ·rw [noSelf_no (hy d)]
  intro b hm
  have hm' := hb b hm
  refine ⟨h.own s b hm', fun i _ hi => ?_⟩
  obtain ⟨k1, k2⟩ := hbe i b hi
  exact h.dist s i (Ne.symm k1) b hm' k2
 ·rw [noSelf_no (hy d)]; exact hnd
theorem lt_of_owner {s : Nat} (h : owner (e.getD s .u) = true) : s < e.length := by
 by_cases hl : s < e.length
 ·exact hl
 ·rw [List.getD_eq_getElem?_getD, List.getElem?_eq_none (by omega)] at h; simp [owner] at h
theorem nodup_blkOf (v : Value) : (blkOf v).Nodup := by unfold blkOf; split <;> simp
theorem cut_own {w : World} {x : Xs} {n c : Nat} {A : Option Addr} {v : Value} (h : OwnRel w x v) (hn : n ≤ x.len) (hnc : n ≤ c) (hA : ∀ A' len cap, v = .slice A' len cap → A = A' ∧ c = cap) : OwnRel w (x.cut 0 n) (.slice A n c) := by
 have hcl : (x.cut 0 n).len = n := cut_len x 0 n (by omega)
 rcases h with ⟨h1, h2⟩ | ⟨b, cap, T, Cs, fr, h1, h2, h3, h4, h5, h6⟩
 ·obtain ⟨rfl, rfl⟩ := hA _ _ _ h1
  have : n = 0 := by omega
  subst this
  exact .inl ⟨rfl, hcl⟩
 ·obtain ⟨rfl, rfl⟩ := hA _ _ _ h1
  refine .inr ⟨b, c, T, Cs, fr, by rw [hcl], h2, by rw [hcl]; exact hnc, h4, h5, fun i hi => ?_⟩
  rw [hcl] at hi
  rw [h6 i (by omega), cut_enc, List.drop_zero, List.getElem?_take, if_pos hi]
theorem cut_ro {w : World} {x : Xs} {n lo c : Nat} {A : Option Addr} {v : Value} (h : RoRel base pb w x v) (hn : lo + n ≤ x.len) (hnc : n ≤ c) (hA : 0 < n → ∃ b, baseOf v = some b ∧ A = some (b.add lo)) : RoRel base pb w (x.cut lo n) (.slice A n c) := by
 have hcl : (x.cut lo n).len = n := cut_len x lo n hn
 obtain ⟨a', cap, h1, h2, h3⟩ := h
 refine ⟨A, c, by rw [hcl], by rw [hcl]; exact hnc, fun i hi => ?_⟩
 rw [hcl] at hi
 obtain ⟨b, q1, rfl⟩ := hA (by omega)
 obtain ⟨b', q2, q3, q4, q5⟩ := h3 (lo + i) (by omega)
 rw [h1] at q1
 simp only [baseOf] at q1
 rw [q1] at q2; cases q2
 refine ⟨b.add lo, rfl, by rw [Addr.block_add]; exact q3, by rw [Addr.block_add]; exact q4, ?_⟩
 rw [Addr.add_add', q5, cut_enc, List.getElem?_take, if_pos hi, List.getElem?_drop]
theorem op_assign (h : Sim P base pb w0 w e a.tmps) (hn : Nx P base pb w0 w e a o K r next) {nn : Nat} {x : Operand} (ho : o.op = .assign x) {d : Nat} (hd : o.dst = some d) (hK : asgK nn e d (ev e x) K = some r) : o.wp P a w next Q := by
 have hv := (ev_rel h x).1
 have hvb := (ev_rel h x).2
 have plain : K (put e d (ev e x)) = some r → o.wp P a w next Q := by
  intro hK
  exact (pureA (x := ev e x) (v := a.eval x) (by rw [hd]; exact hK) (fun _ _ => by simp only [execOp, ho]; rfl) hv hvb).wp h hn
 have gives : ∀ {s : Nat} {y : V}, K (((kill s (kill d e)).set s .u).set d y) = some r → s < e.length → (∀ q, aliasOf q y = false) → RelV P base pb w e a.tmps y (a.eval x) → (∀ b, b ∈ blks y (a.eval x) → b ∈ blks (e.getD s .u) (a.tmps.getD s undef)) → (blks y (a.eval x)).Nodup → o.wp P a w next Q := by
  intro s y hK hs hy hr hb hnd
  refine wp_val (v := a.eval x) (by simp only [execOp, ho]; rfl) (hn _ _ _ hK ?_ (put_keeps _ _ _) fun _ => Ext.refl w)
  rw [hd]
  exact h.give s d hs y _ hy hr hb hnd
 unfold asgK at hK
 split at hK
 ·rename_i s off hx
  rw [hx] at hv
  obtain ⟨h1, A, h2, h3⟩ := hv
  split at hK
  ·rename_i T y hs _
   have hr := h.rel s
   rw [hs] at hr
   obtain ⟨b, k1, k2, k3⟩ := hr
   rw [k1] at h2; cases h2
   have hav : a.eval x = a.tmps.getD s undef := by rw [h3, k1, Addr.zero_add]
   refine gives hK (lt_of_owner h1) (fun _ => rfl) ?_ ?_ ?_
   ·rw [hav]; exact ⟨b, k1, k2, k3⟩
   ·rw [hav, hs]; exact fun _ => id
   ·exact nodup_blkOf _
  ·split at hK
   ·cases hK
   ·exact plain hK
 ·rename_i s hx
  rw [hx] at hv
  obtain ⟨h1, h2⟩ := hv
  split at hK
  ·rename_i y hs _ _
   have hr := h.rel s
   rw [hs] at hr
   exact gives hK (lt_of_owner (isSl_owner h1)) (fun _ => rfl) (by rw [h2]; exact hr) (by rw [h2, hs]; exact fun _ => id) (nodup_blkOf _)
  ·rename_i y hs _ _
   have hr := h.rel s
   rw [hs] at hr
   exact gives hK (lt_of_owner (isSl_owner h1)) (fun _ => rfl) (by rw [h2]; exact hr) (by intro b hb; cases hb) (by simp [blks, blksC])
  ·rename_i hsd
   have hsd : s = d := by simpa using hsd
   subst hsd
   refine wp_val (v := a.eval x) (by simp only [execOp, ho]; rfl) (hn _ _ _ hK ?_ (put_keeps _ _ _) fun _ => Ext.refl w)
   rw [hd]
   have : (a.put (some s) (a.eval x)).tmps = a.tmps := by
    show a.tmps.setIfInBounds s (a.eval x) = a.tmps
    rw [h2]
    apply Array.ext
    ·simp
    ·intro i hi1 hi2
     rw [Array.getElem_setIfInBounds]
     split
     ·rename_i hsi; subst hsi; simp [hi2]
     ·rfl
   rw [this]; exact h
  ·exact plain hK
 ·rename_i s lo n hx
  rw [hx] at hv
  obtain ⟨h1, ⟨A, c, h2, h3, h4, h5⟩, h6⟩ := hv
  split at hK
  ·rename_i y hs _
   have hr := h.rel s
   rw [hs] at hr
   refine gives hK (lt_of_owner h1) (fun _ => rfl) ?_ (by intro b hb; cases hb) (by simp [blks, blksC])
   rw [h2]
   exact cut_ro hr (h6.1 y (by unfold contentB; rw [hs])) h3 h4
  ·rename_i y hs _
   split at hK
   ·have hr := h.rel s
    rw [hs] at hr
    have hl := h6.1 y (by unfold contentB; rw [hs])
    refine gives hK (lt_of_owner h1) (fun _ => rfl) ?_ ?_ (nodup_blkOf _)
    ·rw [h2]; exact cut_own hr (by omega) h3 (h5 rfl)
    ·rw [h2, hs]
     rcases hr with ⟨q1, q2⟩ | ⟨b, cap, T, Cs, fr, q1, -⟩
     ·obtain ⟨rfl, -⟩ := h5 rfl _ _ _ q1
      intro b hb; simp [blks, blksC, blkOf, baseOf] at hb
     ·obtain ⟨rfl, -⟩ := h5 rfl _ _ _ q1
      rw [q1]; exact fun _ => id
   ·split at hK
    ·cases hK
    ·exact plain hK
  ·split at hK
   ·cases hK
   ·exact plain hK
 ·cases hK
 ·exact plain hK
end Go.Proofs.YtffmgholjdfcnaaGreatDoor.AM
set_option linter.unusedSimpArgs false
namespace Go.Proofs.YtffmgholjdfcnaaGreatDoor.AM
open Go
section
variable (P : Program) (G : World → Prop) (ng : Nat)
def CallOk (g : Nat) (args : Array Value) (w : World) (R : Value → World → Prop) : Prop :=
 ((callFunc g args).run P w = .ok (.enter g args) w ∧ Calls P g args w fun | .returned v, w' => R v w' | _, _ => False) ∨ ∃ v w', (callFunc g args).run P w = .ok (.value v) w' ∧ R v w'
def RecvRel (w : World) : Option (Nat × Xs) → List Value → Option Nat → Prop
 | none, vs, pb => vs = [] ∧ pb = none
 | some (T, x), vs, pb => ∃ b, pb = some b ∧ vs = [.pointer (some ⟨b, 0, none⟩)] ∧ w.heap[b]? = some (.cells x.enc.toArray T (0, 0)) ∧ P.cellsOf T = x.len ∧ ng ≤ b
def BackRel (w' : World) : Option (Nat × Xs) → Option Xs → Option Nat → Prop
 | none, _, _ => True
 | some (T, x), some y, pb => y.len = x.len ∧ ∃ b, pb = some b ∧ w'.heap[b]? = some (.cells y.enc.toArray T (0, 0))
 | some _, none, _ => False
def RetRel (w w' : World) (rc : Option (Nat × Xs)) (pb : Option Nat) (p : Out) (v : Value) : Prop :=
 Keep w.heap.size pb w w' ∧ (∀ base pb e tm, RelV P base pb w' e tm (ofRes p.1) v) ∧ (∀ b, b ∈ blks (ofRes p.1) v → w.heap.size ≤ b ∧ b < w'.heap.size) ∧ (blks (ofRes p.1) v).Nodup ∧ BackRel w' rc p.2 pb
def LentRel (w w' : World) (n b : Nat) : Option Xs → Prop
 | none => True
 | some y => y.len = n ∧ ∀ Cs T fr, w.heap[b]? = some (.cells Cs T fr) → w'.heap[b]? = some (.cells (y.enc ++ Cs.toList.drop n).toArray T fr)
def OwnRet (w w' : World) (n b : Nat) (p : Out) (v : Value) : Prop :=
 Keep w.heap.size (some b) w w' ∧ (∀ base pb e tm, RelV P base pb w' e tm (ofRes p.1) v) ∧ (∀ k, k ∈ blks (ofRes p.1) v → ((k = b ∧ p.2 = none) ∨ w.heap.size ≤ k) ∧ k < w'.heap.size) ∧ (blks (ofRes p.1) v).Nodup ∧ LentRel w w' n b p.2
def FnOwn (Γ : Gam) (g : Nat) : Prop := ∀ x cs K r, Γ g none (.own x :: cs) K = some r → ∀ w v b vs, G w → ng ≤ w.heap.size → OwnRel w x v → (∀ k, k ∈ blkOf v → k = b) → b < w.heap.size → ng ≤ b → RelL w.heap.size (some b) w cs vs → cs.all plainC = true →
 CallOk P g (v :: vs).toArray w fun v' w' => ∃ p, K p = some r ∧ OwnRet P w w' x.len b p v'
def FnOk (Γ : Gam) (g : Nat) : Prop := (∀ rc as K r, Γ g rc as K = some r → ∀ w rv pb vs, G w → ng ≤ w.heap.size → RecvRel P ng w rc rv pb → RelL w.heap.size pb w as vs → as.all plainC = true →
 CallOk P g (rv ++ vs).toArray w fun v w' => ∃ p, K p = some r ∧ RetRel P w w' rc pb p v) ∧ FnOwn P G ng Γ g
end
variable {P : Program} {G : World → Prop} {ng : Nat} {base : Nat} {pb : Option Nat} {w0 w w' : World} {e : Env} {a : Act}
variable {K : Env → Option Out} {r : Out} {next : Act → World → Prop} {Q : Exit → Act → World → Prop} {o : Oper}
theorem lt_of_heap {w : World} {b : Nat} {ob : Obj} (h : w.heap[b]? = some ob) : b < w.heap.size := (Array.getElem?_eq_some_iff.1 h).1
theorem own_ro {w : World} {x : Xs} {v : Value} {pb' : Option Nat} (h : OwnRel w x v) (hb : ∀ b, b ∈ blkOf v → pb' ≠ some b) : RoRel w.heap.size pb' w x v := by
 rcases h with ⟨rfl, h2⟩ | ⟨b, cap, T, Cs, fr, rfl, h2, h3, h4, h5, h6⟩
 ·exact ⟨none, 0, by rw [h2], by omega, fun i hi => by omega⟩
 ·refine ⟨_, cap, rfl, h3, fun i hi => ⟨⟨b, 0, none⟩, rfl, lt_of_heap h2, hb b (by simp [blkOf, baseOf]), ?_⟩⟩
  rw [Addr.zero_add]
  simp [World.cell?, h2, h5 i (by omega), h6 i hi]
theorem ro_ro {w : World} {x : Xs} {v : Value} {pb' : Option Nat} (h : RoRel base pb w x v) (hl : base ≤ w.heap.size) (hb : ∀ b, pb' = some b → base ≤ b ∨ pb = some b) : RoRel w.heap.size pb' w x v := by
 obtain ⟨A, cap, h1, h2, h3⟩ := h
 refine ⟨A, cap, h1, h2, fun i hi => ?_⟩
 obtain ⟨b, k1, k2, k3, k4⟩ := h3 i hi
 exact ⟨b, k1, by omega, fun hp => by rcases hb _ hp with h | h; omega; exact k3 h, k4⟩
theorem argC_rel (h : Sim P base pb w0 w e a.tmps) {x : Operand} {c : C} (hc : argC e (ev e x) = some c) {pb' : Option Nat} (hp : ∀ b, pb' = some b → (base ≤ b ∨ pb = some b) ∧ ∀ s, isSl (e.getD s .u) = true → b ∉ blks (e.getD s .u) (a.tmps.getD s undef)) :
  RelC w.heap.size pb' w c (a.eval x) ∧ plainC c = true := by
 have hv := (ev_rel h x).1
 have slot : ∀ {s : Nat} {y : Xs} {A : V}, e.getD s .u = A → (A = .c (.own y) ∨ A = .c (.ro y)) → RoRel w.heap.size pb' w y (a.tmps.getD s undef) := by
  intro s y A hs hA
  have hr := h.rel s
  rcases hA with rfl | rfl
  ·rw [hs] at hr
   refine own_ro hr fun b hb hpb => (hp b hpb).2 s (by rw [hs]; rfl) ?_
   rw [hs]; exact hb
  ·rw [hs] at hr
   exact ro_ro hr h.low fun b hb => (hp b hb).1
 unfold argC at hc
 split at hc
 ·rename_i s hx
  cases hc; rw [hx] at hv; exact ⟨hv, rfl⟩
 ·rename_i y hx
  cases hc; rw [hx] at hv; exact ⟨hv, rfl⟩
 ·rename_i s hx
  rw [hx] at hv
  split at hc
  ·rename_i y hs
   cases hc; exact ⟨by rw [hv.2]; exact slot hs (.inl rfl), rfl⟩
  ·rename_i y hs
   cases hc; exact ⟨by rw [hv.2]; exact slot hs (.inr rfl), rfl⟩
  ·cases hc
 ·rename_i s lo n hx
  rw [hx] at hv
  obtain ⟨h1, ⟨A, c', h2, h3, h4, h5⟩, h6⟩ := hv
  split at hc
  ·rename_i y hs
   cases hc
   refine ⟨?_, rfl⟩
   rw [h2]
   exact cut_ro (slot hs (.inl rfl)) (h6.1 y (by unfold contentB; rw [hs])) h3 h4
  ·rename_i y hs
   cases hc
   refine ⟨?_, rfl⟩
   rw [h2]
   exact cut_ro (slot hs (.inr rfl)) (h6.1 y (by unfold contentB; rw [hs])) h3 h4
  ·cases hc
 ·cases hc
theorem argCs_rel (h : Sim P base pb w0 w e a.tmps) {pb' : Option Nat} (hp : ∀ b, pb' = some b → (base ≤ b ∨ pb = some b) ∧ ∀ s, isSl (e.getD s .u) = true → b ∉ blks (e.getD s .u) (a.tmps.getD s undef)) : ∀ {l : List Operand} {as : List C}, argCs e (l.map (ev e)) = some as →
  RelL w.heap.size pb' w as (l.map a.eval) ∧ as.all plainC = true
 | [], as, hc => by simp only [List.map_nil, argCs, Option.some.injEq] at hc; subst hc; exact ⟨.nil, rfl⟩
 | x :: l, as, hc => by
  simp only [List.map_cons, argCs] at hc
  split at hc
  ·rename_i c cs h1 h2
   cases hc
   obtain ⟨k1, k2⟩ := argC_rel h h1 hp
   obtain ⟨k3, k4⟩ := argCs_rel h hp h2
   exact ⟨.cons k1 k3, by simp [k2, k4]⟩
  ·cases hc
theorem wp_call {g : Nat} {c : Call} (ho : o.op = .call c) {f : Operand} (hc : c.callee = .value f) (hf : a.eval f = .func (.func g) #[] #[]) {R : Value → World → Prop} (h : CallOk P g (c.args.toList.map a.eval).toArray w R)
  (hn : ∀ v w', R v w' → next (a.put o.dst v) w') : o.wp P a w next Q := by
 obtain ⟨callee, args, argTypes⟩ := c
 simp only at hc h
 subst hc
 have hargs : (args.toList.map a.eval).toArray = args.map a.eval := by apply Array.ext'; simp
 rw [hargs] at h
 have hrun : (execOp a.eval o).run P w = (callFunc g (args.map a.eval)).run P w := by
  simp only [execOp, ho, resolve, hf, Deferred.ofValue, invoke, Sem.run_bind, Sem.run_pure, Result.andThen_ok, Array.empty_append, Array.append_empty]
 unfold Oper.wp
 rw [hrun]
 rcases h with ⟨h1, h2⟩ | ⟨v, w', h1, h2⟩
 ·rw [h1]
  exact Calls.mono h2 fun e w'' he => by cases e <;> first | exact hn _ _ he | exact he.elim
 ·rw [h1]
  exact hn _ _ h2
theorem ofRes_alias (l : List C) (s : Nat) : aliasOf s (ofRes l) = false := by
 unfold ofRes; split <;> rfl
theorem op_callP {Γ : Gam} {g : Nat} (hΓ : FnOk P G ng Γ g) (hG : G w) (hng : ng ≤ base ∧ ∀ b, pb = some b → ng ≤ b) (h : Sim P base pb w0 w e a.tmps) (hn : Nx P base pb w0 w e a o K r next) {c : Call} (ho : o.op = .call c) {f : Operand} (hc : c.callee = .value f) (hf : ev e f = .c (.s (.fn g)))
  (hK : callP Γ e o.dst g (c.args.toList.map (ev e)) K = some r) : o.wp P a w next Q := by
 have hfv : a.eval f = .func (.func g) #[] #[] := ev_s h hf
 unfold callP at hK
 split at hK
 ·rename_i as has
  obtain ⟨k1, k2⟩ := argCs_rel h (pb' := none) (fun b hb => by cases hb) has
  have hcall := hΓ.1 _ _ _ _ hK w [] none _ hG (Nat.le_trans hng.1 h.low) ⟨rfl, rfl⟩ k1 k2
  rw [List.nil_append] at hcall
  refine wp_call ho hc hfv hcall ?_
  rintro v w' ⟨p, hp1, hk, hrel, hblk, hnd, -⟩
  refine hn _ _ _ hp1 ?_ (put_keeps _ _ _) fun _ => hk
  exact h.putNew a rfl o.dst (ofRes p.1) v (Ext.keep hk h.low pb) (fun b hb => Ext.at hk hb) (ofRes_alias _) (hrel _ _ _ _) hblk hnd
 ·cases hK
theorem op_callO {Γ : Gam} {g : Nat} (hΓ : FnOk P G ng Γ g) (hG : G w) (hng : ng ≤ base ∧ ∀ b, pb = some b → ng ≤ b) (h : Sim P base pb w0 w e a.tmps) (hn : Nx P base pb w0 w e a o K r next) {c : Call} (ho : o.op = .call c) {f : Operand} (hc : c.callee = .value f) (hf : ev e f = .c (.s (.fn g)))
  {s lo n : Nat} {l : List V} (hl : c.args.toList.map (ev e) = .ali s lo n :: l) {T : Nat} {x : Xs} (hs : e.getD s .u = .box T x) (hK : callO Γ e o.dst g s lo n T x l K = some r) : o.wp P a w next Q := by
 have hfv : a.eval f = .func (.func g) #[] #[] := ev_s h hf
 unfold callO at hK
 split at hK
 ·split at hK
  ·rename_i as has
   cases hca : c.args.toList with
   | nil => rw [hca] at hl; cases hl
   | cons x0 xs =>
    rw [hca] at hl
    simp only [List.map_cons, List.cons.injEq] at hl
    obtain ⟨hx0, rfl⟩ := hl
    have hr := h.rel s
    rw [hs] at hr
    obtain ⟨b, h1, h2, h3⟩ := hr
    have hbl : blks (e.getD s .u) (a.tmps.getD s undef) = [b] := by rw [hs, h1]; rfl
    have hown := h.own s b (by rw [hbl]; simp)
    have hv := (ev_rel h x0).1
    rw [hx0] at hv
    obtain ⟨-, ⟨A', c', g1, g2, -, -⟩, g5, g6⟩ := hv
    have hn5 := g5 x (by unfold contentB; rw [hs])
    have hsl : (x.cut 0 n).len = n := cut_len x 0 n hn5
    obtain ⟨A, cp, q1, q2, q3⟩ := g6 T x hs rfl
    rw [h1] at q1
    cases q1
    rw [g1] at q2
    cases q2
    have q2 := g1
    have hor : OwnRel w (x.cut 0 n) (a.eval x0) := by
     refine .inr ⟨b, c', T, x.enc.toArray, (0, 0), by rw [q2, hsl], h2, ?_, ?_, fun i _ => by simp, fun i hi => ?_⟩
     ·rw [hsl]; exact g2
     ·simpa [Xs.len_enc] using q3
     ·rw [hsl] at hi
      rw [cut_enc, List.drop_zero, List.getElem?_take, if_pos hi]
      simp
    have hp : ∀ b', (some b : Option Nat) = some b' → (base ≤ b' ∨ pb = some b') ∧ ∀ s', isSl (e.getD s' .u) = true → b' ∉ blks (e.getD s' .u) (a.tmps.getD s' undef) := by
     intro b' hb'
     cases hb'
     refine ⟨hown.2, fun s' hs' hm => ?_⟩
     have hne : s ≠ s' := by rintro rfl; rw [hs] at hs'; cases hs'
     exact h.dist s s' hne b (by rw [hbl]; simp) hm
    obtain ⟨k1, k2⟩ := argCs_rel h (pb' := some b) hp has
    have hcall := hΓ.2 _ _ _ _ hK w (a.eval x0) b _ hG (Nat.le_trans hng.1 h.low) hor (fun k hk => by rw [g1] at hk; simpa [blkOf, baseOf] using hk) hown.1 (by rcases hown.2 with h' | h'; omega; exact hng.2 _ h') k1 k2
    rw [← List.map_cons, ← hca] at hcall
    refine wp_call ho hc hfv hcall ?_
    rintro v w' ⟨p, hp1, hk, hrel, hblk, hnd, hlent⟩
    have hkeep : Keep base pb w w' := ⟨hk.os, hk.tape, hk.output, hk.size, fun k hk1 hk2 => hk.old k (by have := h.low; omega) (by
      rintro heq; cases heq
      rcases hown.2 with h' | h'
      ·omega
      ·exact hk2 h')⟩
    split at hp1
    ·rename_i hp2
     have hw := (h.killed s).weak s .u trivial (kill_none s e) rfl (by simp [blks]) (by simp [blks])
     have hout : ∀ i k, k ∈ blks (((kill s e).set s .u).getD i .u) (a.tmps.getD i undef) → s ≠ i ∧ k ∈ blks (e.getD i .u) (a.tmps.getD i undef) := by
      intro i k hi
      rw [getD_set, length_kill] at hi
      by_cases hsi : s = i
      ·subst hsi; rw [if_pos rfl] at hi; split at hi <;> simp [blks] at hi
      ·rw [if_neg hsi, getD_kill] at hi
       unfold noSelf at hi
       split at hi
       ·simp [blks] at hi
       ·exact ⟨hsi, hi⟩
     have hnb : ∀ i k, k ∈ blks (((kill s e).set s .u).getD i .u) (a.tmps.getD i undef) → k ≠ b := by
      intro i k hi
      obtain ⟨r1, r2⟩ := hout i k hi
      rintro rfl
      exact h.dist s i r1 k (by rw [hbl]; simp) r2
     have hsim : Sim P base pb w0 w' ((kill s e).set s .u) a.tmps :=
      hw.grow hkeep fun i k hi => hk.old k (hw.own i k hi).1 (by rintro heq; cases heq; exact hnb i b hi rfl)
     refine hn _ _ _ hp1 ?_ (put_keeps _ _ _) ?_
     ·cases hd : o.dst with
      | none => exact hsim
      | some d =>
       have hns : noSelf d (ofRes p.1) = ofRes p.1 := noSelf_no (ofRes_alias _ _)
       refine hsim.put d (ofRes p.1) v (Keep.refl _ _ _) (fun _ _ _ _ => rfl) (by rw [hns]; exact hrel _ _ _ _) ?_ (by rw [hns]; exact hnd)
       rw [hns]
       intro k hkm
       obtain ⟨r1, r2⟩ := hblk k hkm
       refine ⟨⟨r2, ?_⟩, fun i _ hi => ?_⟩
       ·rcases r1 with ⟨rfl, -⟩ | r1
        ·exact hown.2
        ·exact .inl (Nat.le_trans h.low r1)
       ·rcases r1 with ⟨rfl, -⟩ | r1
        ·exact hnb i k hi rfl
        ·have := (hw.own i k hi).1; omega
     ·intro hq
      unfold quietE at hq
      rw [ho] at hq
      simp only [hc, hca, List.map_cons, hx0, hs] at hq
      cases hq
    ·rename_i y hy
     split at hp1
     ·rename_i z hz
      rw [hy] at hlent
      obtain ⟨hyl, hheap⟩ := hlent
      have hheap := hheap _ _ _ h2
      rw [hsl] at hyl hheap
      obtain ⟨z1, z2⟩ := Xs.splice_some hz (by omega) hn5
      have hzc : (y.enc ++ x.enc.toArray.toList.drop n) = z.enc := by
       rw [z1, List.take_zero, List.nil_append, Nat.zero_add, List.take_of_length_le (by rw [Xs.len_enc]; omega)]
      rw [hzc] at hheap
      have hsim : Sim P base pb w0 w' (e.set s (.box T z)) a.tmps := by
       refine h.turn s (.box T z) hkeep (fun k hk1 hk2 => hk.old k hk1 (by rintro heq; cases heq; exact hk2 (by rw [hbl]; simp))) ⟨b, h1, hheap, by rw [z2]; exact h3⟩ (by rw [hbl, h1]; rfl) ?_ ?_ (by rw [hs]; rfl) rfl ?_ ?_ (by intro T2 y2 e2; cases e2; exact ⟨T, x, hs, z2.symm⟩)
       ·rw [hs]; intro h'; cases h'
       ·rw [hs]; intro h'; cases h'
       ·intro x0' x' hx hx'
        unfold contentB at hx; rw [hs] at hx; cases hx
        simp only [contentB, List.getD_cons_zero, Option.some.injEq] at hx'
        rw [← hx']; exact z2
       ·intro x' _; exact ⟨x, by unfold contentB; rw [hs]⟩
      refine hn _ _ _ hp1 ?_ (put_keeps _ _ _) ?_
      ·cases hd : o.dst with
       | none => exact hsim
       | some d =>
        have hns : noSelf d (ofRes p.1) = ofRes p.1 := noSelf_no (ofRes_alias _ _)
        refine hsim.put d (ofRes p.1) v (Keep.refl _ _ _) (fun _ _ _ _ => rfl) (by rw [hns]; exact hrel _ _ _ _) ?_ (by rw [hns]; exact hnd)
        rw [hns]
        intro k hkm
        obtain ⟨r1, r2⟩ := hblk k hkm
        rcases r1 with ⟨-, r1⟩ | r1
        ·rw [hy] at r1; cases r1
        refine ⟨⟨r2, .inl (Nat.le_trans h.low r1)⟩, fun i _ hi => ?_⟩
        have hi' : k ∈ blks (e.getD i .u) (a.tmps.getD i undef) := by
         rw [getD_set] at hi
         by_cases hsi : s = i
         ·subst hsi; rw [if_pos rfl] at hi
          split at hi
          ·rw [h1] at hi; rw [hbl]; exact hi
          ·simp [blks] at hi
         ·rw [if_neg hsi] at hi; exact hi
        have := (h.own i k hi').1; omega
      ·intro hq
       unfold quietE at hq
       rw [ho] at hq
       simp only [hc, hca, List.map_cons, hx0, hs] at hq
       cases hq
     ·cases hp1
  ·cases hK
 ·cases hK
theorem op_call {Γ : Gam} {g : Nat} (hΓ : FnOk P G ng Γ g) (hG : G w) (hng : ng ≤ base ∧ ∀ b, pb = some b → ng ≤ b) (h : Sim P base pb w0 w e a.tmps) (hn : Nx P base pb w0 w e a o K r next) {c : Call} (ho : o.op = .call c) {f : Operand} (hc : c.callee = .value f) (hf : ev e f = .c (.s (.fn g)))
  (hK : callK Γ e o.dst g (c.args.toList.map (ev e)) K = some r) : o.wp P a w next Q := by
 have hfv : a.eval f = .func (.func g) #[] #[] := ev_s h hf
 unfold callK at hK
 split at hK
 ·rename_i s l hl
  split at hK
  ·rename_i T x as hs has
   cases hca : c.args.toList with
   | nil => rw [hca] at hl; cases hl
   | cons x0 xs =>
    rw [hca] at hl
    simp only [List.map_cons, List.cons.injEq] at hl
    obtain ⟨hx0, rfl⟩ := hl
    have hr := h.rel s
    rw [hs] at hr
    obtain ⟨b, h1, h2, h3⟩ := hr
    have hbl : blks (e.getD s .u) (a.tmps.getD s undef) = [b] := by rw [hs, h1]; rfl
    have hown := h.own s b (by rw [hbl]; simp)
    have hv0 : a.eval x0 = .pointer (some ⟨b, 0, none⟩) := via_at h hx0 (by rw [h1]; rfl)
    have hp : ∀ b', (some b : Option Nat) = some b' → (base ≤ b' ∨ pb = some b') ∧ ∀ s', isSl (e.getD s' .u) = true → b' ∉ blks (e.getD s' .u) (a.tmps.getD s' undef) := by
     intro b' hb'
     cases hb'
     refine ⟨hown.2, fun s' hs' hm => ?_⟩
     have hne : s ≠ s' := by rintro rfl; rw [hs] at hs'; cases hs'
     exact h.dist s s' hne b (by rw [hbl]; simp) hm
    obtain ⟨k1, k2⟩ := argCs_rel h (pb' := some b) hp has
    have hcall := hΓ.1 _ _ _ _ hK w [.pointer (some ⟨b, 0, none⟩)] (some b) _ hG (Nat.le_trans hng.1 h.low) ⟨b, rfl, rfl, h2, h3, by rcases hown.2 with h' | h'; omega; exact hng.2 _ h'⟩ k1 k2
    rw [List.singleton_append, ← hv0, ← List.map_cons, ← hca] at hcall
    refine wp_call ho hc hfv hcall ?_
    rintro v w' ⟨p, hp1, hk, hrel, hblk, hnd, hback⟩
    split at hp1
    ·rename_i y hy
     rw [hy] at hback
     obtain ⟨hyl, b', hb', hheap⟩ := hback
     cases hb'
     have hkeep : Keep base pb w w' := ⟨hk.os, hk.tape, hk.output, hk.size, fun k hk1 hk2 => hk.old k (by have := h.low; omega) (by
      rintro heq; cases heq
      rcases hown.2 with h' | h'
      ·omega
      ·exact hk2 h')⟩
     have hsim : Sim P base pb w0 w' (e.set s (.box T y)) a.tmps := by
      refine h.turn s (.box T y) hkeep (fun k hk1 hk2 => hk.old k hk1 (by rintro heq; cases heq; exact hk2 (by rw [hbl]; simp))) ⟨b, h1, hheap, by rw [hyl]; exact h3⟩ (by rw [hbl, h1]; rfl) ?_ ?_ (by rw [hs]; rfl) rfl ?_ ?_ (by intro T2 y2 h2; cases h2; exact ⟨T, x, hs, hyl.symm⟩)
      ·rw [hs]; intro h'; cases h'
      ·rw [hs]; intro h'; cases h'
      ·intro x0' x' hx hx'
       unfold contentB at hx; rw [hs] at hx; cases hx
       simp only [contentB, List.getD_cons_zero, Option.some.injEq] at hx'
       rw [← hx']; exact hyl
      ·intro x' _; exact ⟨x, by unfold contentB; rw [hs]⟩
     refine hn _ _ _ hp1 ?_ (put_keeps _ _ _) ?_
     ·cases hd : o.dst with
      | none => exact hsim
      | some d =>
       have hns : noSelf d (ofRes p.1) = ofRes p.1 := noSelf_no (ofRes_alias _ _)
       refine hsim.put d (ofRes p.1) v (Keep.refl _ _ _) (fun _ _ _ _ => rfl) (by rw [hns]; exact hrel _ _ _ _) ?_ (by rw [hns]; exact hnd)
       rw [hns]
       intro k hkm
       obtain ⟨q1, q2⟩ := hblk k hkm
       refine ⟨⟨q2, .inl (Nat.le_trans h.low q1)⟩, fun i _ hi => ?_⟩
       have hi' : k ∈ blks (e.getD i .u) (a.tmps.getD i undef) := by
        rw [getD_set] at hi
        by_cases hsi : s = i
        ·subst hsi; rw [if_pos rfl] at hi
         split at hi
         ·rw [h1] at hi; rw [hbl]; exact hi
         ·simp [blks] at hi
        ·rw [if_neg hsi] at hi; exact hi
       have := (h.own i k hi').1; omega
     ·intro hq
      unfold quietE at hq
      rw [ho] at hq
      simp only [hc, hca, List.map_cons, hx0] at hq
      cases hq
    ·cases hp1
  ·cases hK
 ·rename_i s lo n l hl
  split at hK
  ·rename_i T x hs
   exact op_callO hΓ hG hng h hn ho hc hf hl hs hK
  ·exact op_callP hΓ hG hng h hn ho hc hf hK
 ·exact op_callP hΓ hG hng h hn ho hc hf hK
end Go.Proofs.YtffmgholjdfcnaaGreatDoor.AM
set_option linter.unusedSimpArgs false
set_option maxHeartbeats 1000000
namespace Go.Proofs.YtffmgholjdfcnaaGreatDoor.AM
open Go
variable {P : Program} {G : World → Prop} {ng : Nat} {base : Nat} {pb : Option Nat} {w0 w w' : World} {e : Env} {a : Act}
variable {K : Env → Option Out} {r : Out} {next : Act → World → Prop} {Q : Exit → Act → World → Prop} {o : Oper}
def Told (P : Program) (base : Nat) (pb : Option Nat) (w0 w : World) (e : Env) (a : Act) (o : Oper) (K : Env → Option Out) (r : Out) : Prop :=
 Pure1 P base pb w e a K r o ∨ (simpleE P e o = false ∧ ∀ (next : Act → World → Prop) (Q : Exit → Act → World → Prop), Nx P base pb w0 w e a o K r next → o.wp P a w next Q)
theorem Told.wp (ht : Told P base pb w0 w e a o K r) (h : Sim P base pb w0 w e a.tmps) (hn : Nx P base pb w0 w e a o K r next) : o.wp P a w next Q := by
 rcases ht with ht | ⟨-, ht⟩
 ·exact ht.wp h hn
 ·exact ht next Q hn
theorem told_load (h : Sim P base pb w0 w e a.tmps) {t : TypeId} {x : Operand} (ho : o.op = .load t x) {s off T : Nat} (hx : ev e x = .via s off) {y : Xs} (hy : e.getD s .u = .box T y) (hc1 : cell1 P t = false) (hc : isAggB P t = some true) {c : C} (hp : partC P t y off = some c) (hK : K (putO e o.dst (.c c)) = some r) : Pure1 P base pb w e a K r o := by
 unfold partC at hp
 rw [hc1, hc] at hp
 dsimp only at hp
 split at hp
 ·rename_i hb
  cases hp
  refine op_loadA h ho hx hy hc (c := .ss ((y.toS.drop off).take (P.cellsOf t))) ?_ ?_ hK
  ·have := Nat.le_of_ble_eq_true hb; rwa [Xs.len_toS] at this
  ·simp [Xs.enc, Xs.toS, List.map_take, List.map_drop]
 ·cases hp
theorem store_told {Γ : Gam} {nn : Nat} (h : Sim P base pb w0 w e a.tmps) {t : TypeId} {x v : Operand} (hop : o.op = .store t x v) (hK : opK P Γ nn e o K = some r) {next : Act → World → Prop} {Q : Exit → Act → World → Prop} (hn : NxS P base pb w0 w a o K r next x) : o.wp P a w next Q := by
 unfold opK at hK
 rw [hop] at hK
 dsimp only at hK
 split at hK
 ·rename_i s off c hd hx hv
  split at hK
  ·rename_i T y c hs hc
   split at hK
   ·rename_i z hz
    cases hdd : decide (off < y.len)
    ·rw [hdd] at hK; cases hK
    ·rw [hdd] at hK; exact op_storeB h hn hop hd hx hs hv hc hz (by simpa using hdd) hK
   ·cases hK
  ·rename_i y c hs hc
   split at hK
   ·rename_i z hz
    cases hdd : decide (off < y.len)
    ·rw [hdd] at hK; cases hK
    ·rw [hdd] at hK; exact op_storeO h hn hop hd hx hs hv hc hz (by simpa using hdd) hK
   ·cases hK
  ·rename_i T y c hs hc
   split at hK
   ·rename_i hag hl
    have hl : c.len = P.cellsOf t := by rw [← Xs.len_toS]; simpa using hl
    have hr := h.rel s
    rw [hs] at hr
    obtain ⟨b, -, -, h3⟩ := hr
    split at hK
    ·rename_i hT
     have hT : T = t := by simpa using hT
     subst hT
     refine op_storeA h hn hop hd hx hs hv hag hl (by omega) ?_ hK
     rw [lay_seg _ _ _ (by simp [Xs.len_enc]; omega)]
     have e1 : 0 + c.enc.length = y.enc.length := by rw [Xs.len_enc, Xs.len_enc]; omega
     rw [e1]; simp
    ·split at hK
     ·rename_i z hb hz
      have hb := Nat.le_of_ble_eq_true hb
      rw [Xs.len_toS, Xs.len_toS] at hb
      exact op_storeA h hn hop hd hx hs hv hag hl hb (by rw [(Xs.lay_some hz).1]; rfl) hK
     ·cases hK
   ·cases hK
  ·cases hK
 ·cases hK
theorem opK_told {Γ : Gam} {nn : Nat} (hΓ : ∀ g, FnOk P G ng Γ g) (hG : G w) (hng : ng ≤ base ∧ ∀ b, pb = some b → ng ≤ b) (h : Sim P base pb w0 w e a.tmps) (hK : opK P Γ nn e o K = some r) : Told P base pb w0 w e a o K r := by
 unfold opK at hK
 cases hop : o.op with
 | move x =>
  rw [hop] at hK
  dsimp only at hK
  cases x with
  | tmp t =>
   dsimp only at hK
   split at hK
   ·rename_i l ht hd
    split at hK
    ·rename_i hl; exact .inl (op_moveT0 h hop ht hl hK)
    ·rename_i hl; refine .inr ⟨by simp only [simpleE, hop, ht, hl], fun next Q hn => op_moveT h hn hop ht (by simpa using hd) hK⟩
   ·exact .inl (op_move h hop hK)
  | _ => exact .inl (op_move h hop hK)
 | assign x =>
  rw [hop] at hK
  dsimp only at hK
  split at hK
  ·rename_i d hd
   by_cases hs : simpleE P e o = false
   ·exact .inr ⟨hs, fun next Q hn => op_assign h hn hop hd hK⟩
   ·simp only [simpleE, hop] at hs
    split at hs
    ·rename_i c hc
     rw [hc] at hK
     have hrel := ev_rel h x
     rw [hc] at hrel
     exact .inl (pureA (x := .c c) (v := a.eval x) (by rw [hd]; exact hK) (fun _ _ => by simp only [execOp, hop]; rfl) hrel.1 hrel.2)
    ·exact absurd rfl hs
  ·cases hK
 | pick c x y =>
  rw [hop] at hK
  dsimp only at hK
  split at hK
  ·rename_i t hc; exact .inl (op_pick h hop hc hK)
  ·cases hK
 | binOp op t x y t' =>
  rw [hop] at hK
  dsimp only at hK
  split at hK
  ·rename_i p q hx hy
   split at hK
   ·rename_i ht; exact .inl (op_bool h hop hx hy ht (.inl rfl) hK)
   ·rename_i ht; exact .inl (op_bool h hop hx hy ht (.inr rfl) hK)
   ·cases hK
  ·rename_i p q _ hx hy; exact .inl (op_bin h hop hx hy hK)
  ·rename_i p q hx hy
   split at hK
   ·rename_i b hb; exact .inl (op_binAgg h hop hx hy hb (.inl rfl) hK)
   ·rename_i b hb; exact .inl (op_binAgg h hop hx hy hb (.inr rfl) hK)
   ·cases hK
  ·cases hK
 | unOp op t x =>
  rw [hop] at hK
  dsimp only at hK
  split at hK
  ·rename_i p hx
   split at hK
   ·rename_i q hq; exact .inl (op_un h hop hx hq hK)
   ·cases hK
  ·cases hK
 | convert s d x =>
  rw [hop] at hK
  dsimp only at hK
  split at hK
  ·rename_i ds k k' n hs hd hx; exact .inl (op_convI h hop hs hd hx hK)
  ·rename_i ds k' n hs hd hx; exact .inl (op_convR h hop hs hd hx hK)
  ·rename_i ds l hs hd hx; exact .inl (op_convS h hop hs hd hx hK)
  ·rename_i ds t l hs hd hx
   split at hK
   ·rename_i ht
    exact .inr ⟨by simp only [simpleE, hop, hd], fun next Q hn => op_convO h hn hop hs hd ht hx hK⟩
   ·cases hK
  ·rename_i t _ _ hs hd _ _
   split at hK
   ·rename_i s' ht hx
    split at hK
    ·rename_i y hy
     split at hK
     ·rename_i l hl
      refine .inl (op_convB h hop hs hd ht (lo := 0) (n := y.len) (.inl ⟨hx, hy, rfl, rfl⟩) (contentB_of hy) ?_ hK)
      have : y.cut 0 y.len = y := by cases y <;> simp [Xs.cut, Xs.len]
      rw [this]; exact hl
     ·cases hK
    ·cases hK
   ·rename_i s' lo n ht hx
    split at hK
    ·rename_i y hy
     split at hK
     ·rename_i l hl; exact .inl (op_convB h hop hs hd ht (.inr hx) hy hl hK)
     ·cases hK
    ·cases hK
   ·rename_i ht hx; exact .inl (op_convN h hop hs hd ht hx hK)
   ·cases hK
  ·cases hK
 | index t x i =>
  rw [hop] at hK
  dsimp only at hK
  split at hK
  ·rename_i l k n ht hx hi; exact .inl (op_indexS h hop ht hx hi hK)
  ·rename_i m el l k n ht hx hi
   split at hK
   ·rename_i hc; exact .inl (op_indexA h hop ht hx hi hc hK)
   ·cases hK
  ·cases hK
 | slice t x lo hi mx =>
  rw [hop] at hK
  cases mx with
  | some m => cases hK
  | none =>
   dsimp only at hK
   split at hK
   ·rename_i i j h1 h2
    split at hK
    ·rename_i l ht hx; exact .inl (op_sliceS h hop ht hx h1 h2 hK)
    ·rename_i el s ht hx
     split at hK
     ·rename_i y hc hy; exact .inl (op_sliceAll h hop ht hc hx hy h1 h2 hK)
     ·cases hK
    ·rename_i el s lo0 n ht hx
     split at hK
     ·rename_i hc; exact .inl (op_sliceAli h hop ht hc hx h1 h2 hK)
     ·cases hK
    ·rename_i el ht hx
     split at hK
     ·rename_i hc; exact .inl (op_sliceNil h hop ht ⟨1, fun w => run_sizeOf1 hc w⟩ hx h1 h2 hK)
     ·cases hK
    ·rename_i m el s off ht hx
     split at hK
     ·rename_i T y hc hy
      cases hd : decide (off + m ≤ y.len)
      ·rw [hd] at hK; cases hK
      ·rw [hd] at hK
       exact .inl (op_sliceArr h hop ht hc hx hy (by simpa using hd) h1 h2 hK)
     ·cases hK
    ·cases hK
   ·cases hK
 | field t x f =>
  rw [hop] at hK
  dsimp only at hK
  split at hK
  ·rename_i y off ft hx hf
   split at hK
   ·rename_i c hc; exact .inl (op_field h hop hx hf hc hK)
   ·cases hK
  ·cases hK
 | build t parts =>
  rw [hop] at hK
  dsimp only at hK
  split at hK
  ·rename_i fs z ht hz
   split at hK
   ·rename_i places hp
    split at hK
    ·rename_i x hx; exact .inl (op_buildS h hop ht hz hp hx hK)
    ·cases hK
   ·cases hK
  ·rename_i m el z ht hz
   split at hK
   ·rename_i ie hie
    split at hK
    ·rename_i x hx; exact .inl (op_buildA h hop ht hz hie hx hK)
    ·cases hK
   ·cases hK
  ·cases hK
 | buildSlice t n parts =>
  rw [hop] at hK
  dsimp only at hK
  split at hK
  ·rename_i el z hz hnn
   split at hK
   ·rename_i x hx
    exact .inr ⟨by simp only [simpleE, hop], fun next Q hn => op_buildSlice h hn hop hz (Nat.le_of_ble_eq_true hnn) hx hK⟩
   ·cases hK
  ·cases hK
 | alloc t =>
  rw [hop] at hK
  dsimp only at hK
  split at hK
  ·rename_i x hx; exact .inr ⟨by simp only [simpleE, hop], fun next Q hn => op_alloc h hn hop hx hK⟩
  ·cases hK
 | box t x =>
  rw [hop] at hK
  dsimp only at hK
  split at hK
  ·rename_i y hx
   split at hK
   ·rename_i hl
    refine .inr ⟨by simp only [simpleE, hop], fun next Q hn => op_box h hn hop (.inl hx) ?_ hK⟩
    rw [← Xs.len_toS]; exact (by simpa using hl : _ = _).symm
   ·cases hK
  ·rename_i s hx
   split at hK
   ·rename_i hl
    exact .inr ⟨by simp only [simpleE, hop], fun next Q hn => op_box h hn hop (.inr ⟨s, rfl, hx⟩) hl hK⟩
   ·cases hK
  ·cases hK
 | load t x =>
  rw [hop] at hK
  dsimp only at hK
  split at hK
  ·rename_i s off hx
   split at hK
   ·rename_i T y hs hc; exact .inl (op_load1 h hop hx (by unfold contentB; rw [hs]) hc hK)
   ·rename_i y hs hc; exact .inl (op_load1 h hop hx (by unfold contentB; rw [hs]) hc hK)
   ·rename_i y hs hc; exact .inl (op_load1 h hop hx (by unfold contentB; rw [hs]) hc hK)
   ·rename_i T y hs hc1 hc
    split at hK
    ·rename_i hT
     have hT : T = t := by simpa using hT
     subst hT
     have hr := h.rel s
     rw [hs] at hr
     obtain ⟨b, -, -, h3⟩ := hr
     refine .inl (op_loadA h hop hx hs hc (c := y) (by omega) ?_ hK)
     rw [List.drop_zero, h3, ← Xs.len_enc, List.take_length]
    ·split at hK
     ·rename_i c hp; exact .inl (told_load h hop hx hs hc1 hc hp hK)
     ·cases hK
   ·cases hK
  ·cases hK
 | store t x v =>
  exact .inr ⟨by simp only [simpleE, hop], fun next Q hn => store_told h hop (by unfold opK; exact hK) fun e' a' b off row _ hK' hS hp => hn e' a' _ hK' hS hp fun hq => by simp [quietE, hop] at hq⟩
 | nilCheck x =>
  rw [hop] at hK
  dsimp only at hK
  split at hK
  ·rename_i s off hx; exact .inl (op_nilCheck h hop hx hK)
  ·cases hK
 | fieldAddr t x f =>
  rw [hop] at hK
  dsimp only at hK
  split at hK
  ·rename_i s off fo ft hx hf; exact .inl (op_fieldAddr h hop hx hf hK)
  ·cases hK
 | indexAddr t x i =>
  rw [hop] at hK
  dsimp only at hK
  split at hK
  ·rename_i m el s off k n ht hx hi
   split at hK
   ·rename_i hc; exact .inl (op_indexAddrA h hop ht hc hx hi hK)
   ·cases hK
  ·rename_i el s k n ht hx hi
   split at hK
   ·rename_i y hc hy; exact .inl (op_indexAddrS h hop ht hc (lo := 0) (.inl ⟨hx, rfl, y, hy, rfl⟩) hi (by rw [Nat.zero_add]; exact hK))
   ·cases hK
  ·rename_i el s lo m k n ht hx hi
   split at hK
   ·rename_i hc; exact .inl (op_indexAddrS h hop ht hc (.inr hx) hi hK)
   ·cases hK
  ·cases hK
 | range t x =>
  rw [hop] at hK
  dsimp only at hK
  split at hK
  ·rename_i l ht hx; exact .inr ⟨by simp only [simpleE, hop], fun next Q hn => op_range h hn hop ht hx hK⟩
  ·cases hK
 | next x s =>
  rw [hop] at hK
  cases s with
  | false => cases hK
  | true =>
   dsimp only at hK
   refine .inr ⟨by simp only [simpleE, hop], fun next Q hn => ?_⟩
   split at hK
   ·rename_i s hx
    split at hK
    ·rename_i l pos hs
     cases hd : decide (pos < l.length)
     ·rw [hd] at hK; exact (op_nextEnd h ⟨hop, rfl⟩ hx hs (by simpa using hd) hK).wp h hn
     ·rw [hd] at hK; exact op_nextMore h hn ⟨hop, rfl⟩ hx hs (by simpa using hd) hK
    ·cases hK
   ·cases hK
 | extract x i =>
  rw [hop] at hK
  cases x with
  | tmp t =>
   dsimp only at hK
   split at hK
   ·rename_i l ht
    split at hK
    ·rename_i y hc hd
     exact .inr ⟨by simp only [simpleE, hop, ht, hc], fun next Q hn => op_extractO h hn hop ht hc (by simpa using hd) hK⟩
    ·rename_i s hc; exact .inl (op_extract0 h hop ht hc rfl hK)
    ·rename_i y hc; exact .inl (op_extract0 h hop ht hc rfl hK)
    ·cases hK
   ·cases hK
  | _ => cases hK
 | makeSlice t l c =>
  rw [hop] at hK
  dsimp only at hK
  split at hK
  ·rename_i el z k n k' m hz hl hc
   exact .inr ⟨by simp only [simpleE, hop], fun next Q hn => op_makeSlice h hn hop hz hl hc hK⟩
  ·cases hK
 | call c =>
  rw [hop] at hK
  dsimp only at hK
  split at hK
  ·rename_i f hc
   split at hK
   ·rename_i g hf
    exact .inr ⟨by simp only [simpleE, hop, hc], fun next Q hn => op_call (hΓ g) hG hng h hn hop hc hf hK⟩
   ·cases hK
  ·rename_i hc
   split at hK
   ·rename_i x t hx ht
    split at hK
    ·rename_i hty
     unfold lenTy at hty
     refine .inl (op_len h hop hc hx ht hK ?_ ?_)
     ·intro l hl
      split at hty
      ·assumption
      ·cases hty
      ·rename_i hne; exact absurd hl (hne l)
      ·cases hty
     ·intro hne
      split at hty
      ·rename_i l _ hl; exact absurd hl (hne l)
      ·cases hty
      ·exact ⟨_, by assumption⟩
      ·cases hty
    ·cases hK
   ·cases hK
  ·rename_i hc
   split at hK
   ·rename_i x y t u hxy ht
    split at hK
    ·rename_i q y0 hz hu hy
     refine .inr ⟨by simp only [simpleE, hop, hc], fun next Q hn => ?_⟩
     obtain ⟨el, zz⟩ := q
     have hv := (ev_rel h x).1
     unfold appendK at hK
     split at hK
     ·rename_i s hx
      rw [hx] at hv
      split at hK
      ·rename_i x0 hs
       split at hK
       ·rename_i z hzz
        cases hdd : decide (z.len ≤ 1099511627776)
        ·rw [hdd] at hK; cases hK
        ·rw [hdd] at hK
         have hr := h.rel s
         rw [hs] at hr
         have hw := (h.killed s).weak s .u trivial (kill_none s e) rfl (by simp [blks]) (by simp [blks])
         refine op_appendG h hn hw hop hc hxy ht hz hu (by rw [hv.2]; exact hr) ?_ hy hzz (by simpa using hdd) hK
         intro b hb
         have hb' : b ∈ blks (e.getD s .u) (a.tmps.getD s undef) := by rw [hs, ← hv.2]; exact hb
         refine ⟨h.own s b hb', fun i hi => ?_⟩
         rw [getD_set, length_kill] at hi
         by_cases hsi : s = i
         ·subst hsi; rw [if_pos rfl] at hi; split at hi <;> simp [blks] at hi
         ·rw [if_neg hsi, getD_kill] at hi
          unfold noSelf at hi
          split at hi
          ·simp [blks] at hi
          ·exact h.dist s i hsi b hb' hi
       ·cases hK
      ·cases hK
     ·rename_i s lo n hx
      rw [hx] at hv
      obtain ⟨h1, ⟨A, cp, h2, h3, h4, h5⟩, h6⟩ := hv
      split at hK
      ·rename_i x0 hs
       split at hK
       ·rename_i z hzz
        cases hdd : decide (z.len ≤ 1099511627776)
        ·rw [hdd] at hK; cases hK
        ·rw [hdd] at hK
         have hr := h.rel s
         rw [hs] at hr
         have hl := h6.1 x0 (by unfold contentB; rw [hs])
         have hw := (h.killed s).weak s .u trivial (kill_none s e) rfl (by simp [blks]) (by simp [blks])
         refine op_appendG h hn hw hop hc hxy ht hz hu (by rw [h2]; exact cut_own hr (by omega) h3 (h5 rfl)) ?_ hy hzz (by simpa using hdd) hK
         intro b hb
         have hb' : b ∈ blks (e.getD s .u) (a.tmps.getD s undef) := by
          rw [hs]
          rw [h2] at hb
          rcases hr with ⟨q1, q2⟩ | ⟨b', cap, T, Cs, fr, q1, -⟩
          ·obtain ⟨rfl, -⟩ := h5 rfl _ _ _ q1
           simp [blkOf, baseOf] at hb
          ·obtain ⟨rfl, -⟩ := h5 rfl _ _ _ q1
           rw [q1]; exact hb
         refine ⟨h.own s b hb', fun i hi => ?_⟩
         rw [getD_set, length_kill] at hi
         by_cases hsi : s = i
         ·subst hsi; rw [if_pos rfl] at hi; split at hi <;> simp [blks] at hi
         ·rw [if_neg hsi, getD_kill] at hi
          unfold noSelf at hi
          split at hi
          ·simp [blks] at hi
          ·exact h.dist s i hsi b hb' hi
       ·cases hK
      ·cases hK
     ·rename_i hx
      rw [hx] at hv
      cases hdd : decide (y0.len ≤ 1099511627776)
      ·rw [hdd] at hK; cases hK
      ·rw [hdd] at hK
       have hv' : a.eval x = .slice none 0 0 := hv
       refine op_appendG h hn h hop hc hxy ht hz hu (x0 := .ss []) (z := y0) (.inl ⟨hv', rfl⟩) ?_ hy ?_ (by simpa using hdd) hK
       ·intro b hb; rw [hv'] at hb; simp [blkOf, baseOf] at hb
       ·unfold Xs.app; cases y0 <;> rfl
     ·cases hK
    ·cases hK
   ·cases hK
  ·rename_i hc
   split at hK
   ·rename_i x y t u hxy ht
    split at hK
    ·rename_i q y0 s hz hy hx
     split at hK
     ·rename_i x0 hx0
      obtain ⟨el, zz⟩ := q
      have hv := (ev_rel h x).1
      rw [hx] at hv
      obtain ⟨A, cap, h3, h4, h5⟩ := owner_slice h hx0
      refine .inr ⟨by simp only [simpleE, hop, hc], fun next Q hn => op_copyG h hn hop hc hxy ht hz hy (s := s) (hv.2.trans h3) ?_ ?_ hK⟩
      ·intro hl
       obtain ⟨b, rfl⟩ := h5 hl
       exact ⟨b, by rw [h3]; rfl, by simp [Addr.add]⟩
      ·intro x' hx'
       rw [contentB_of hx0] at hx'; cases hx'; omega
     ·cases hK
    ·rename_i q y0 s lo n hz hy hx
     obtain ⟨el, zz⟩ := q
     have hv := (ev_rel h x).1
     rw [hx] at hv
     obtain ⟨h1, ⟨A, cp, h2, h3, h4, h5⟩, h6⟩ := hv
     exact .inr ⟨by simp only [simpleE, hop, hc], fun next Q hn => op_copyG h hn hop hc hxy ht hz hy (s := s) h2 h4 h6.1 hK⟩
    ·cases hK
   ·cases hK
  ·cases hK
 | _ => rw [hop] at hK; cases hK
end Go.Proofs.YtffmgholjdfcnaaGreatDoor.AM
set_option linter.unusedSimpArgs false
namespace Go.Proofs.YtffmgholjdfcnaaGreatDoor.AM
open Go
structure Ctx (P : Program) (G : World → Prop) (ng base : Nat) (pb : Option Nat) (w0 : World) (Γ : Gam) : Prop where
 fn : ∀ g, FnOk P G ng Γ g
 good : ∀ w', Keep base pb w0 w' → G w'
 low : ng ≤ base ∧ ∀ b, pb = some b → ng ≤ b
 mixed : P.follows .mixedOrders = true
def Pin (z : Bool) (a a' : Act) : Prop := a'.defers = a.defers ∧ (z = true → a'.tmps.getD 0 undef = a.tmps.getD 0 undef)
theorem Pin.refl (z : Bool) (a : Act) : Pin z a a := ⟨rfl, fun _ => rfl⟩
theorem Pin.trans {z : Bool} {a b c : Act} (h : Pin z a b) (k : Pin z b c) : Pin z a c := ⟨k.1.trans h.1, fun hz => (k.2 hz).trans (h.2 hz)⟩
variable {P : Program} {G : World → Prop} {ng : Nat} {base : Nat} {pb : Option Nat} {w0 w w' : World} {e : Env} {a : Act} {Γ : Gam} {nn : Nat}
variable {K : Env → Option Out} {r : Out} {next : Act → World → Prop} {Q : Exit → Act → World → Prop} {o : Oper}
theorem set_self {d : Nat} {v : V} (h : e.getD d .u = v) : e.set d v = e := by
 by_cases hd : d < e.length
 ·apply List.ext_getElem?
  intro i
  rw [List.getElem?_set]
  by_cases hi : d = i
  ·subst hi
   rw [if_pos rfl, if_pos hd, ← h, List.getD_eq_getElem?_getD, List.getElem?_eq_getElem hd]; rfl
  ·rw [if_neg hi]
 ·exact List.set_eq_of_length_le (by omega)
theorem stepK_cases (h : Sim P base pb w0 w e a.tmps) {ops : Array Oper} (hK : stepK P Γ nn ops.toList o e K = some r) :
  (Region.wanted o (yielded ops a.tmps) = true ∧ opK P Γ nn e o K = some r) ∨ (Region.wanted o (yielded ops a.tmps) = false ∧ K (putO e o.dst (.tup [])) = some r) := by
 unfold stepK at hK
 split at hK
 ·rename_i hg
  exact .inl ⟨by simp [Region.wanted, hg], hK⟩
 ·rename_i j want hg
  split at hK
  ·cases hK
  ·rename_i d hd
   split at hK
   ·rename_i t ht
    have hr := h.rel d
    rw [ht] at hr
    have hr' : a.tmps.getD d undef = .bool t := hr
    have htm : a.tmps[d]? = some (.bool t) := by
     rw [Array.getD_eq_getD_getElem?] at hr'
     cases hq : a.tmps[d]? with
     | none => rw [hq] at hr'; simp [undef] at hr'
     | some v => rw [hq] at hr'; exact congrArg some hr'
    have hy : yielded ops a.tmps j = some t := by
     unfold yielded
     rw [Array.getElem?_toList] at hd
     rw [hd]
     simp [htm]
    have hw : Region.wanted o (yielded ops a.tmps) = (t == want) := by
     simp only [Region.wanted, hg, hy]; cases t <;> cases want <;> rfl
    rw [hw]
    cases t with
    | true =>
     rw [set_self ht] at hK
     cases want with
     | true => exact .inl ⟨rfl, hK⟩
     | false => exact .inr ⟨rfl, hK⟩
    | false =>
     rw [set_self ht] at hK
     cases want with
     | true => exact .inr ⟨rfl, hK⟩
     | false => exact .inl ⟨rfl, hK⟩
   ·rename_i ht
    have hr := h.rel d
    rw [ht] at hr
    obtain ⟨vs, hr1, hr2⟩ := hr
    cases hr2
    refine .inr ⟨?_, hK⟩
    rw [Array.getElem?_toList] at hd
    have hy : yielded ops a.tmps j = none := by
     unfold yielded
     rw [hd]
     rw [Array.getD_eq_getD_getElem?] at hr1
     cases hq : a.tmps[d]? with
     | none => simp [hq]
     | some v => rw [hq] at hr1; have hv : v = .tuple [].toArray := hr1; subst hv; simp [hq]
    simp only [Region.wanted, hg, hy]
    rfl
   ·cases hK
theorem Sim.skip (h : Sim P base pb w0 w e a.tmps) (d : Option Nat) : Sim P base pb w0 w (putO e d (.tup [])) (a.put d undef).tmps := h.putO0 a rfl d (.tup []) undef ⟨[], rfl, .nil⟩ rfl
theorem forceV_eq (v : V) (K : V → Option Out) : forceV v K = K v := by cases v <;> rfl
theorem forceE_eq : ∀ (e : Env) (K : Env → Option Out), forceE e K = K e
 | [], _ => rfl
 | v :: e, K => by simp only [forceE, forceV_eq, forceE_eq e]
theorem opsK_wp (C : Ctx P G ng base pb w0 Γ) {z : Bool} {ops : Array Oper} (hz : z = true → ∀ o ∈ ops.toList, o.dst ≠ some 0) : ∀ (os : List Oper) (i : Nat) (e : Env) (a : Act) (w : World), ops.toList.drop i = os → opsK P Γ nn ops.toList os e K = some r → Sim P base pb w0 w e a.tmps →
  (∀ e' a' w', K e' = some r → Sim P base pb w0 w' e' a'.tmps → Pin z a a' → Q .normal a' w') → wpOps P ops Q (List.range' i os.length) a w
 | [], i, e, a, w, _, hK, h, hQ => hQ e a w hK h (Pin.refl _ _)
 | o :: os, i, e, a, w, ho, hK, h, hQ => by
  have hi : ops[i]? = some o := by
   have := congrArg (·[0]?) ho
   simpa [List.getElem?_drop] using this
  have hos : ops.toList.drop (i + 1) = os := by
   rw [← List.drop_drop, ho]; rfl
  have hmem : o ∈ ops.toList := List.mem_of_getElem? (i := i) (by rw [Array.getElem?_toList]; exact hi)
  simp only [List.length_cons, List.range'_succ, wpOps, hi]
  rcases stepK_cases h hK with ⟨hw, hK⟩ | ⟨hw, hK⟩
  ·rw [if_pos hw]
   refine .inl ((opK_told C.fn (C.good w h.keep) C.low h hK).wp h fun e' a' w' hK' h' hpin _ => ?_)
   have hp : Pin z a a' := ⟨hpin.1, fun hz1 => hpin.2 0 (hz hz1 o hmem)⟩
   replace hK' := (forceE_eq _ _).symm.trans hK'
   exact opsK_wp C hz os (i + 1) e' a' w' hos hK' h' fun e2 a2 w2 k1 k2 k3 => hQ e2 a2 w2 k1 k2 (hp.trans k3)
  ·rw [if_neg (by rw [hw]; simp)]
   have hp : Pin z a (a.put o.dst undef) := ⟨(put_keeps a o.dst undef).1, fun hz1 => (put_keeps a o.dst undef).2 0 (hz hz1 o hmem)⟩
   replace hK := (forceE_eq _ _).symm.trans hK
   exact opsK_wp C hz os (i + 1) _ _ w hos hK (h.skip o.dst) fun e2 a2 w2 k1 k2 k3 => hQ e2 a2 w2 k1 k2 (hp.trans k3)
theorem region_wp (C : Ctx P G ng base pb w0 Γ) {z : Bool} {id : Nat} {ops : Array Oper} (hz : z = true → ∀ o ∈ ops.toList, o.dst ≠ some 0) (hK : opsK P Γ nn ops.toList ops.toList e K = some r) (h : Sim P base pb w0 w e a.tmps)
  (hQ : ∀ e' a' w', K e' = some r → Sim P base pb w0 w' e' a'.tmps → Pin z a a' → Q .normal a' w') : (Code.region id ops false).wp P Q a w := by
 refine wp_region ?_
 have := opsK_wp C (Q := Q) hz ops.toList 0 e a w rfl hK h hQ
 rw [List.range_eq_range']
 rwa [Array.length_toList] at this
end Go.Proofs.YtffmgholjdfcnaaGreatDoor.AM
set_option linter.unusedSimpArgs false
namespace Go.Proofs.YtffmgholjdfcnaaGreatDoor.AM
open Go
section
variable {P : Program} {ops : Array Oper} {Q : Exit → Act → World → Prop}
def YE (P : Program) (ops : Array Oper) (E : World → Prop) (o : Oper) (v : Value) (a : Act) : Prop :=
 (Region.wanted o (yielded ops a.tmps) = true ∧ ∀ w, E w → (execOp a.eval o).run P w = .ok (.value v) w) ∨ (Region.wanted o (yielded ops a.tmps) = false ∧ v = undef)
theorem YE.step {E : World → Prop} {i : Nat} {o : Oper} {v : Value} {a : Act} {w : World} (hi : ops[i]? = some o) (hy : YE P ops E o v a) (hE : E w) {K : Act → World → Prop} (h : K (a.put o.dst v) w) : wpOp P ops Q i K a w := by
 unfold wpOp
 rw [hi]
 dsimp only
 rcases hy with ⟨h1, h2⟩ | ⟨h1, rfl⟩
 ·rw [if_pos h1]; unfold Oper.wp; rw [h2 w hE]; exact .inl h
 ·rw [if_neg (by rw [h1]; simp)]; exact h
theorem wpOp_ahead {E : World → Prop} {j : Nat} {oi oj : Oper} {v : Value} (hj : ops[j]? = some oj) (hap : oi.apart ops oj = true) (hsi : ∀ cs b, oi.op ≠ .select cs b) (hsj : ∀ cs b, oj.op ≠ .select cs b)
  (hQ : ∀ c a w, ¬ Q (.panic c) a w) (hO : ¬ LetsOut Q) {K : Act → World → Prop} {a : Act} {w : World} (hy : YE P ops E oi v a) (h : wpOp P ops Q j K (a.put oi.dst v) w) :
  wpOp P ops Q j (fun a' w' => YE P ops E oi v a' ∧ K (a'.put oi.dst v) w') a w := by
 obtain ⟨q1, q2, q3⟩ := Oper.apart_spec hap
 have stays : ∀ b : Act, YE P ops E oi v b → ∀ u, YE P ops E oi v (b.put oj.dst u) := by
  intro b hb u
  unfold YE
  rw [execOp_put (ops := ops) oi hsi b oj.dst u q3, wanted_put oi b oj.dst u q3]
  exact hb
 have swap : ∀ u, (a.put oi.dst v).put oj.dst u = (a.put oj.dst u).put oi.dst v := fun u => Act.put_comm a v u q2
 unfold wpOp at h ⊢
 rw [hj] at h ⊢
 dsimp only at h ⊢
 rw [wanted_put oj a oi.dst v q1] at h
 by_cases hw : Region.wanted oj (yielded ops a.tmps) = true
 ·rw [if_pos hw] at h ⊢
  rcases h with h | ⟨-, h⟩
  ·refine .inl ?_
   unfold Oper.wp at h ⊢
   rw [execOp_put (ops := ops) oj hsj a oi.dst v q1] at h
   cases hr : (execOp a.eval oj).run P w with
   | ok n w' =>
    rw [hr] at h
    cases n with
    | value u => exact ⟨stays a hy u, by rw [← swap]; exact h⟩
    | skip => exact ⟨stays a hy undef, by rw [← swap]; exact h⟩
    | enter f args =>
     refine Calls.mono h fun en w'' hen => ?_
     cases en with
     | returned u => exact ⟨stays a hy u, by rw [← swap]; exact hen⟩
     | panicked c => exact absurd hen (hQ _ _ _)
     | outgrown => exact hen
    | row row args => exact Rows.mono h fun u w'' hu => ⟨stays a hy u, by rw [← swap]; exact hu⟩
    | defer d =>
     refine ⟨stays { a with defers := d :: a.defers } hy undef, ?_⟩
     have h' : K ({ a.put oi.dst v with defers := d :: (a.put oi.dst v).defers }.put oj.dst undef) w' := h
     rw [Act.put_defers a oi.dst v d, Act.put_comm _ v undef q2] at h'
     exact h'
    | _ => exact h.elim
   | halt x w' =>
    rw [hr] at h
    cases x with
    | panic u => exact absurd h (hQ _ _ _)
    | _ => exact h.elim
  ·exact absurd h hO
 ·rw [if_neg hw] at h ⊢
  exact ⟨stays a hy undef, by rw [← swap]; exact h⟩
inductive Dep (ops : Array Oper) : Nat → Nat → Prop
 | one {j i} : i ∈ onsOf ops.toList j → Dep ops j i
 | more {j k i} : k ∈ onsOf ops.toList j → Dep ops k i → Dep ops j i
def Shut (ops : Array Oper) (listed : Array Bool) : Prop := ∀ j, listed.getD j false = true → ∀ i, i ∈ onsOf ops.toList j → listed.getD i false = true
theorem onsOf_after {j i : Nat} (h : i ∈ onsOf ops.toList j) : ∃ o, ops[j]? = some o ∧ ∃ e ∈ o.after, Region.binds .any e = true ∧ e.on = i := by
 unfold onsOf at h
 rw [Array.getElem?_toList] at h
 split at h
 ·rename_i o ho
  obtain ⟨e, he, h2⟩ := List.mem_filterMap.1 h
  refine ⟨o, ho, e, by simpa using he, ?_⟩
  split at h2
  ·rename_i hb; cases h2; exact ⟨hb, rfl⟩
  ·cases h2
 ·cases h
theorem ready_ons {listed : Array Bool} {j i : Nat} (hr : j ∈ Region.ready .any ops listed) (h : i ∈ onsOf ops.toList j) : listed.getD i false = true := by
 obtain ⟨-, o, ho, hall⟩ := mem_ready.1 hr
 obtain ⟨o', ho', e, he, hb, rfl⟩ := onsOf_after h
 rw [ho] at ho'; cases ho'
 exact hall e he hb
theorem dep_listed {listed : Array Bool} (hs : Shut ops listed) {k i : Nat} (h : Dep ops k i) : listed.getD k false = true → listed.getD i false = true := by
 induction h with
 | one h => exact fun hk => hs _ hk _ h
 | more h _ ih => exact fun hk => ih (hs _ hk _ h)
theorem unlisted {listed : Array Bool} {i : Nat} (h : listed.getD i true = false) : listed.getD i false = false := by
 simp only [Array.getD_eq_getD_getElem?] at h ⊢
 cases hi : listed[i]? with
 | none => rfl
 | some v => rw [hi] at h; exact h
theorem ready_nodep {listed : Array Bool} (hs : Shut ops listed) {j i : Nat} (hr : j ∈ Region.ready .any ops listed) (hi : listed.getD i true = false) : ¬ Dep ops j i := by
 intro h
 have hl := unlisted hi
 cases h with
 | one h => rw [ready_ons hr h] at hl; cases hl
 | more h k => rw [dep_listed hs k (ready_ons hr h)] at hl; cases hl
theorem Shut.set {listed : Array Bool} (hs : Shut ops listed) {j : Nat} (hr : j ∈ Region.ready .any ops listed) : Shut ops (listed.setIfInBounds j true) := by
 intro k hk i hi
 by_cases hjk : j = k
 ·subst hjk; exact getD_set_true (ready_ons hr hi)
 ·rw [getD_set_ne false hjk] at hk; exact getD_set_true (hs k hk i hi)
def Like (X : Nat → Prop) (u w : World) : Prop := w.os = u.os ∧ w.tape = u.tape ∧ w.output = u.output ∧ u.heap.size ≤ w.heap.size ∧ ∀ b, b < u.heap.size → ¬ X b → w.heap[b]? = u.heap[b]?
theorem Like.refl (X : Nat → Prop) (u : World) : Like X u u := ⟨rfl, rfl, rfl, Nat.le_refl _, fun _ _ _ => rfl⟩
theorem Like.trans {X : Nat → Prop} {a b c : World} (h : Like X a b) (k : Like X b c) : Like X a c :=
 ⟨k.1.trans h.1, k.2.1.trans h.2.1, k.2.2.1.trans h.2.2.1, Nat.le_trans h.2.2.2.1 k.2.2.2.1, fun i hi hx => (k.2.2.2.2 i (Nat.lt_of_lt_of_le hi h.2.2.2.1) hx).trans (h.2.2.2.2 i hi hx)⟩
theorem Ext.like {X : Nat → Prop} {u w : World} (h : Ext u w) : Like X u w := ⟨h.os, h.tape, h.output, h.size, fun _ hb _ => h.at hb⟩
theorem Like.ext {X : Nat → Prop} (hX : ∀ b, ¬ X b) {u w : World} (h : Like X u w) : Ext u w := ⟨h.1, h.2.1, h.2.2.1, h.2.2.2.1, fun b hb _ => h.2.2.2.2 b hb (hX b)⟩
def wpE (P : Program) (ops : Array Oper) (X : Nat → Prop) (Q : Exit → Act → World → Prop) : Nat → (Nat → World → Prop) → Array Bool → Act → World → Prop
 | 0, _, listed, a, w => Region.ready .any ops listed = [] ∧ Q .normal a w
 | f + 1, pen, listed, a, w => (Region.ready .any ops listed = [] → Q .normal a w) ∧ ∀ j, j ∈ Region.ready .any ops listed →
   wpOp P ops Q j (fun a' w' => (∀ i v, pen i v → ¬ Dep ops j i → Like X v w') ∧ wpE P ops X Q f (fun i v => pen i v ∧ ¬ Dep ops j i) (listed.setIfInBounds j true) a' w') a w
theorem wpE_mono {X : Nat → Prop} : ∀ (f : Nat) {pen pen' : Nat → World → Prop} {listed : Array Bool} {a : Act} {w : World}, (∀ i v, pen' i v → pen i v) → wpE P ops X Q f pen listed a w → wpE P ops X Q f pen' listed a w
 | 0, _, _, _, _, _, _, h => h
 | f + 1, _, _, _, _, _, hp, h => ⟨h.1, fun j hj => wpOp_mono (fun _ _ hh => ⟨fun i v hi hd => hh.1 i v (hp i v hi) hd, wpE_mono f (fun i v hi => ⟨hp i v hi.1, hi.2⟩) hh.2⟩) (h.2 j hj)⟩
theorem wpAny_of_wpE {X : Nat → Prop} : ∀ (f : Nat) {pen : Nat → World → Prop} {listed : Array Bool} {a : Act} {w : World}, wpE P ops X Q f pen listed a w → wpAny P .any ops Q f listed a w
 | 0, _, _, _, _, h => h
 | f + 1, _, _, _, _, h => ⟨h.1, fun j hj => wpOp_mono (fun _ _ hh => wpAny_of_wpE f hh.2) (h.2 j hj)⟩
theorem wpE_first {X : Nat → Prop} {E : World → Prop} {i : Nat} {oi : Oper} {v : Value} (hi : ops[i]? = some oi) (hsel : ∀ (j : Nat) (o : Oper) cs b, ops[j]? = some o → o.op ≠ .select cs b) (hQ : ∀ c a w, ¬ Q (.panic c) a w) (hO : ¬ LetsOut Q) :
  ∀ (f : Nat) (pen : Nat → World → Prop) (new : World → Prop) (listed : Array Bool) (a : Act) (w : World), Shut ops listed →
   (∀ j oj, ops[j]? = some oj → j ≠ i → listed.getD j true = false → (∀ e ∈ oj.after, Region.binds .any e = true → e.on ≠ i) → oi.apart ops oj = true) →
   i ∈ Region.ready .any ops listed → YE P ops E oi v a → E w → (∀ w', (∀ u, new u → Like X u w') → E w') → (∀ k u, pen k u → Like X u w) →
   wpE P ops X Q f (fun k u => pen k u ∨ (k = i ∧ new u)) (listed.setIfInBounds i true) (a.put oi.dst v) w → wpE P ops X Q (f + 1) pen listed a w := by
 intro f
 induction f with
 | zero =>
  intro pen new listed a w hs _ hr hy hE hnew hp H
  refine ⟨fun h => (by rw [h] at hr; cases hr), fun j hj => ?_⟩
  by_cases hji : j = i
  ·subst hji
   exact hy.step hi hE ⟨fun k u hk _ => hp k u hk, H⟩
  ·have := ready_mono hj hji
   rw [H.1] at this; cases this
 | succ f ih =>
  intro pen new listed a w hs hfree hr hy hE hnew hp H
  refine ⟨fun h => (by rw [h] at hr; cases hr), fun j hj => ?_⟩
  by_cases hji : j = i
  ·subst hji
   exact hy.step hi hE ⟨fun k u hk _ => hp k u hk, wpE_mono _ (fun k u hk => .inl hk.1) H⟩
  ·obtain ⟨hjun, oj, hoj, hall⟩ := mem_ready.1 hj
   have hiun := (mem_ready.1 hr).1
   have hnd := ready_nodep hs hj hiun
   have hnot : ∀ e ∈ oj.after, Region.binds .any e = true → e.on ≠ i := by
    intro e he hb heq
    have h1 := hall e he hb
    rw [heq, unlisted hiun] at h1; cases h1
   have h2 := wpOp_ahead (E := E) hoj (hfree j oj hoj hji hjun hnot) (fun cs b => hsel i oi cs b hi) (fun cs b => hsel j oj cs b hoj) hQ hO hy (H.2 j (ready_mono hj hji))
   refine wpOp_mono (fun a' w' h3 => ?_) h2
   obtain ⟨h4, h5, h6⟩ := h3
   refine ⟨fun k u hk hd => h5 k u (.inl hk) hd, ?_⟩
   refine ih (fun k u => pen k u ∧ ¬ Dep ops j k) new (listed.setIfInBounds j true) a' w' (hs.set hj) ?_ (ready_mono hr (Ne.symm hji)) h4 (hnew w' fun u hu => h5 i u (.inr ⟨rfl, hu⟩) hnd) hnew (fun k u hk => h5 k u (.inl hk.1) hk.2) ?_
   ·intro k ok hk hki hun hno
    refine hfree k ok hk hki ?_ hno
    by_cases hjk : j = k
    ·subst hjk; exact hjun
    ·rw [getD_set_ne true hjk] at hun; exact hun
   ·rw [Array.setIfInBounds_comm _ _ hji]
    refine wpE_mono _ (fun k u hk => ?_) h6
    rcases hk with hk | ⟨rfl, hk⟩
    ·exact ⟨.inl hk.1, hk.2⟩
    ·exact ⟨.inr ⟨rfl, hk⟩, hnd⟩
theorem ancL_dep {j : Nat} : ∀ (f : Nat) (S : List Nat), (∀ i, i ∈ S → Dep ops j i) → ∀ i, i ∈ ancL ops.toList f S → Dep ops j i
 | 0, S, h, i, hi => h i hi
 | f + 1, S, h, i, hi => by
  refine ancL_dep f _ (fun k hk => ?_) i hi
  rcases List.mem_append.1 hk with hk | hk
  ·exact h k hk
  ·obtain ⟨hk, -⟩ := List.mem_filter.1 hk
   obtain ⟨m, hm, hk⟩ := List.mem_flatMap.1 (List.mem_eraseDups.1 hk)
   have : ∀ {x y z}, Dep ops x y → z ∈ onsOf ops.toList y → Dep ops x z := by
    intro x y z hxy hz
    induction hxy with
    | one h => exact .more h (.one hz)
    | more h _ ih => exact .more h (ih hz)
   exact this (h m hm) hk
end
variable {P : Program} {G : World → Prop} {ng : Nat} {base : Nat} {pb : Option Nat} {w0 w w' : World} {e : Env} {a : Act} {Γ : Gam} {nn : Nat}
variable {K : Env → Option Out} {r : Out} {next : Act → World → Prop} {Q : Exit → Act → World → Prop} {o : Oper}
theorem isLate_some {D : List Nat} (h : isLate D o = true) : ∃ t s y, o.op = .store t (.tmp s) y ∧ s ∈ D := by
 unfold isLate at h
 split at h
 ·rename_i t s y hop; exact ⟨t, s, y, hop, by simpa using h⟩
 ·cases h
theorem lates_dst {ops : List Oper} : ∀ s, s ∈ lates ops → ∀ o ∈ ops, o.dst ≠ some s := by
 intro s hs o ho hd
 unfold lates at hs
 obtain ⟨p, -, hp⟩ := List.mem_filterMap.1 hs
 split at hp
 ·split at hp
  ·rename_i hall
   cases hp
   have := List.all_eq_true.1 hall o ho
   rw [hd] at this
   simp at this
  ·cases hp
 ·cases hp
theorem ldOk_of {D : List Nat} {X : Nat → Prop} {tm0 : Array Value} (hX : ∀ b, X b ↔ ∃ s ∈ D, b ∈ blkOf (tm0.getD s undef)) (hT : ∀ s, s ∈ D → a.tmps.getD s undef = tm0.getD s undef) (h : Sim P base pb w0 w e a.tmps) (hd : dOk D e o = true) (hm : memO o = true) (hK : opK P Γ nn e o K = some r)
  (hw : Like X w w') : Ext w w' ∨ LdOk P base pb e a o w' := by
 cases hDD : D with
 | nil => exact .inl (hw.ext fun b hb => by obtain ⟨s, hs, -⟩ := (hX b).1 hb; rw [hDD] at hs; cases hs)
 | cons d0 D0 =>
  have hd' : (match o.op with
    | .load _ x => (match ev e x with
     | .via s _ => !D.contains s && D.all fun d => isBox (e.getD d .u)
     | .tup [] => true
     | _ => false)
    | _ => false) = true := by
   rw [hDD] at hd ⊢
   unfold dOk at hd
   rw [hm] at hd
   exact hd
  split at hd'
  ·rename_i t x hop
   split at hd'
   ·rename_i s off hx
    have hs : ldSlot e o = some s := by simp only [ldSlot, hop, hx]
    simp only [Bool.and_eq_true, List.all_eq_true] at hd'
    obtain ⟨hd1, hd2⟩ := hd'
    have hsD : s ∉ D := by simpa using hd1
    have hbx : ∀ d, d ∈ D → ∀ b, b ∈ blkOf (a.tmps.getD d undef) → b ∈ blks (e.getD d .u) (a.tmps.getD d undef) := by
     intro d hdD b hb
     have := hd2 d hdD
     unfold isBox at this
     split at this
     ·rename_i T x heq; rw [heq]; exact hb
     ·cases this
    refine .inr ⟨s, hs, (h.rel s).mono (fun b hb => ?_) fun b hb hpb => ?_⟩
    ·refine hw.2.2.2.2 b (h.own s b hb).1 fun hxb => ?_
     obtain ⟨d, hdD, hbd⟩ := (hX b).1 hxb
     rw [← hT d hdD] at hbd
     have hne : s ≠ d := by rintro rfl; exact hsD hdD
     exact h.dist s d hne b hb (hbx d hdD b hbd)
    ·refine hw.2.2.2.2 b (Nat.lt_of_lt_of_le hb h.low) fun hxb => ?_
     obtain ⟨d, hdD, hbd⟩ := (hX b).1 hxb
     rw [← hT d hdD] at hbd
     rcases (h.own d b (hbx d hdD b hbd)).2 with h' | h'
     ·omega
     ·exact hpb h'
   ·rename_i hx
    unfold opK at hK
    rw [hop] at hK
    dsimp only at hK
    rw [hx] at hK
    cases hK
   ·cases hd'
  ·cases hd'
theorem drawK_wp (C : Ctx P G ng base pb w0 Γ) {z : Bool} {ops : Array Oper} (hz : z = true → ∀ o ∈ ops.toList, o.dst ≠ some 0) (hsel : Region.noSelect ops = true) (hQp : ∀ c a w, ¬ Q (.panic c) a w) (hQo : ¬ LetsOut Q) {D : List Nat} (hD : ∀ s, s ∈ D → ∀ o ∈ ops.toList, o.dst ≠ some s) {X : Nat → Prop} {tm0 : Array Value} (hX : ∀ b, X b ↔ ∃ s ∈ D, b ∈ blkOf (tm0.getD s undef)) :
  ∀ (f : Nat) (l : List (Nat × Bool)) (mem : List Nat) (pen : Nat → World → Prop) (listed : Array Bool) (e : Env) (a : Act) (w : World), planGo P D ops.toList f listed mem = some l → drawK P Γ nn D ops.toList l e K = some r → Sim P base pb w0 w e a.tmps → Shut ops listed → (∀ s, s ∈ D → a.tmps.getD s undef = tm0.getD s undef) →
   (∀ k u, pen k u → k ∈ mem) → (∀ k u, pen k u → Like X u w) → (∀ e' a' w', K e' = some r → Sim P base pb w0 w' e' a'.tmps → Pin z a a' → Q .normal a' w') → wpE P ops X Q f pen listed a w := by
 have hops : ops.toList.toArray = ops := by simp
 intro f
 induction f with
 | zero =>
  intro l mem pen listed e a w hp hK h hs _ _ _ hQ
  simp only [planGo, hops] at hp
  split at hp
  ·rename_i hr; cases hp
   exact ⟨hr, hQ e a w hK h (Pin.refl _ _)⟩
  ·cases hp
 | succ f ih =>
  intro l mem pen listed e a w hp hK h hs hT hm hE hQ
  simp only [planGo, hops] at hp
  split at hp
  ·rename_i hr; cases hp
   exact ⟨fun _ => hQ e a w hK h (Pin.refl _ _), fun j hj => (by rw [hr] at hj; cases hj)⟩
  ·rename_i r0 rs hr
   split at hp
   ·rename_i i hfind
    have hprop := List.find?_some hfind
    have hir : i ∈ Region.ready .any ops listed := by rw [hr]; exact List.mem_of_find?_eq_some hfind
    split at hp
    ·rename_i o ho
     rw [ho] at hprop
     simp only [Bool.and_eq_true] at hprop
     split at hp
     ·rename_i l' hl'
      cases hp
      rw [Array.getElem?_toList] at ho
      have hmem : o ∈ ops.toList := List.mem_of_getElem? (i := i) (by rw [Array.getElem?_toList]; exact ho)
      simp only [drawK] at hK
      rw [Array.getElem?_toList, ho] at hK
      simp only [hprop.1] at hK
      split at hK
      ·cases hK
      ·cases hK
      ·rename_i hns _
       have hsd : (simpleE P e o && dOk D e o) = true := by
        cases hse : (simpleE P e o && dOk D e o) with
        | true => rfl
        | false => exact absurd hse (hns rfl)
       have hsim : simpleE P e o = true := (Bool.and_eq_true_iff.1 hsd).1
       have hdok : dOk D e o = true := (Bool.and_eq_true_iff.1 hsd).2
       have hnew : ∀ {K2 : Env → Option Out}, opK P Γ nn e o K2 = some r → ∀ w', Like X w w' → memO o = true → Ext w w' ∨ LdOk P base pb e a o w' := fun hK2 w' hw hmo => ldOk_of hX hT h hdok hmo hK2 hw
       have main : ∀ (x : V) (v : Value) (hd : drawK P Γ nn D ops.toList l' (putO e o.dst x) K = some r) (hS : Sim P base pb w0 w (putO e o.dst x) (a.put o.dst v).tmps) (hy : YE P ops (fun w' => memO o = true → Like X w w') o v a), wpE P ops X Q (f + 1) pen listed a w := by
        intro x v hd hS hy
        refine wpE_first ho (Region.noSelect_spec hsel) hQp hQo f pen (fun u => memO o = true ∧ u = w) listed a w hs (Region.free_spec ho hprop.2) hir hy (fun _ => Like.refl X w) (fun w' hw' hmo => hw' w ⟨hmo, rfl⟩) hE ?_
        have hp : Pin z a (a.put o.dst v) := ⟨(put_keeps a o.dst v).1, fun hz1 => (put_keeps a o.dst v).2 0 (hz hz1 o hmem)⟩
        refine ih l' _ _ (listed.setIfInBounds i true) _ _ w hl' hd hS (hs.set hir) (fun s hs1 => ((put_keeps a o.dst v).2 s (hD s hs1 o hmem)).trans (hT s hs1)) ?_ ?_ fun e2 a2 w2 k1 k2 k3 => hQ e2 a2 w2 k1 k2 (hp.trans k3)
        ·rintro k u (hk | ⟨rfl, hmo, rfl⟩)
         ·split
          ·exact List.mem_cons_of_mem _ (hm k u hk)
          ·exact hm k u hk
         ·rw [hmo]; exact List.mem_cons_self
        ·rintro k u (hk | ⟨rfl, hmo, rfl⟩)
         ·exact hE k u hk
         ·exact Like.refl _ _
       rcases stepK_cases h hK with ⟨hw, hK⟩ | ⟨hw, hK⟩
       ·have hnew := hnew hK
        rcases opK_told C.fn (C.good w h.keep) C.low h hK with ⟨x, v, hd, hrun, hrel, hb⟩ | ⟨hf, -⟩
        ·exact main x v ((forceE_eq _ _).symm.trans hd) (h.putO0 a rfl o.dst x v hrel hb) (.inl ⟨hw, fun w' hw' => hrun w' fun hmo => hnew w' (hw' hmo) hmo⟩)
        ·rw [hsim] at hf; cases hf
       ·exact main (.tup []) undef ((forceE_eq _ _).symm.trans hK) (h.skip o.dst) (.inr ⟨hw, rfl⟩)
     ·cases hp
    ·cases hp
   ·split at hp
    ·rename_i o ho _
     split at hp
     ·rename_i hcalm
      split at hp
      ·rename_i l' hl'
       cases hp
       rw [Array.getElem?_toList] at ho
       have hmem : o ∈ ops.toList := List.mem_of_getElem? (i := r0) (by rw [Array.getElem?_toList]; exact ho)
       have hrr : r0 ∈ Region.ready .any ops listed := by rw [hr]; simp
       simp only [drawK] at hK
       rw [Array.getElem?_toList, ho] at hK
       dsimp only at hK
       refine ⟨fun h0 => (by rw [hr] at h0; cases h0), fun j hj => ?_⟩
       rw [hr] at hj
       have hj : j = r0 := by simpa using hj
       subst hj
       have rest : ∀ (e' : Env) (a' : Act) (w' : World), drawK P Γ nn D ops.toList l' e' K = some r → Sim P base pb w0 w' e' a'.tmps → Pin z a a' → (∀ s, s ∈ D → a'.tmps.getD s undef = a.tmps.getD s undef) → ((isLate D o = true → calm o = false → Like X w w') → (quietE e o = true → Ext w w') → ((calm o && !(mem.all fun i => (ancL ops.toList ops.toList.length (onsOf ops.toList j)).contains i)) = true → quietE e o = true) → (∀ i v, pen i v → ¬ Dep ops j i → Like X v w') ∧ wpE P ops X Q f (fun i v => pen i v ∧ ¬ Dep ops j i) (listed.setIfInBounds j true) a' w') := by
        intro e' a' w' hd hS hpin hTs hla hq hcq
        have key : ∀ i v, pen i v → ¬ Dep ops j i → Like X v w' := by
         intro i v hi hnd
         cases hmm : (mem.all fun i => (ancL ops.toList ops.toList.length (onsOf ops.toList j)).contains i) with
         | true =>
          rw [List.all_eq_true] at hmm
          have := hmm i (hm i v hi)
          exact absurd (ancL_dep _ _ (fun k hk => .one hk) i (by simpa using this)) hnd
         | false =>
          cases hc : calm o with
          | true => exact (hE i v hi).trans (hq (hcq (by rw [hc, hmm]; rfl))).like
          | false =>
           cases hl : isLate D o with
           | true => exact (hE i v hi).trans (hla hl hc)
           | false => rw [hc, hl, hmm] at hcalm; cases hcalm
        exact ⟨key, ih l' mem _ _ e' a' w' hl' hd hS (hs.set hrr) (fun s hs1 => (hTs s hs1).trans (hT s hs1)) (fun k u hk => hm k u hk.1) (fun k u hk => key k u hk.1 hk.2) fun e2 a2 w2 k1 k2 k3 => hQ e2 a2 w2 k1 k2 (hpin.trans k3)⟩
       have fin : stepK P Γ nn ops.toList o e (fun e => forceE e fun e => drawK P Γ nn D ops.toList l' e K) = some r → ((calm o && !(mem.all fun i => (ancL ops.toList ops.toList.length (onsOf ops.toList j)).contains i)) = true → quietE e o = true) → wpOp P ops Q j (fun a' w' => (∀ i v, pen i v → ¬ Dep ops j i → Like X v w') ∧ wpE P ops X Q f (fun i v => pen i v ∧ ¬ Dep ops j i) (listed.setIfInBounds j true) a' w') a w := by
        intro hK hcq
        unfold wpOp
        rw [ho]
        dsimp only
        rcases stepK_cases h hK with ⟨hw, hK⟩ | ⟨hw, hK⟩
        ·rw [if_pos hw]
         cases hl : isLate D o with
         | false =>
          refine .inl ((opK_told C.fn (C.good w h.keep) C.low h hK).wp h fun e' a' w' hK' h' hpin hq => ?_)
          replace hK' := (forceE_eq _ _).symm.trans hK'
          exact rest e' a' w' hK' h' ⟨hpin.1, fun hz1 => hpin.2 0 (hz hz1 o hmem)⟩ (fun s hs1 => hpin.2 s (hD s hs1 o hmem)) (fun hl' => by rw [hl] at hl'; cases hl') hq hcq
         | true =>
          obtain ⟨t, s, y, hop, hsD⟩ := isLate_some hl
          refine .inl (store_told h hop hK fun e' a' b off row hx hK' h' hpin => ?_)
          replace hK' := (forceE_eq _ _).symm.trans hK'
          refine rest e' a' _ hK' h' ⟨hpin.1, fun hz1 => hpin.2 0 (hz hz1 o hmem)⟩ (fun s hs1 => hpin.2 s (hD s hs1 o hmem)) (fun _ _ => ?_) (fun hq => by simp [quietE, hop] at hq) hcq
          refine ⟨rfl, rfl, rfl, by simp [World.setRow], fun k hk hkx => setRow_other w b k row ?_⟩
          rintro rfl
          refine hkx ((hX k).2 ⟨s, hsD, ?_⟩)
          rw [← hT s hsD]
          have hx' : a.tmps.getD s undef = .pointer (some ⟨k, off, none⟩) := hx
          rw [hx']; simp [blkOf, baseOf]
        ·rw [if_neg (by rw [hw]; simp)]
         replace hK := (forceE_eq _ _).symm.trans hK
         exact rest _ _ w hK (h.skip o.dst) ⟨(put_keeps a o.dst undef).1, fun hz1 => (put_keeps a o.dst undef).2 0 (hz hz1 o hmem)⟩ (fun s hs1 => (put_keeps a o.dst undef).2 s (hD s hs1 o hmem)) (fun _ _ => Like.refl X w) (fun _ => Ext.refl w) hcq
       split at hK
       ·cases hK
       ·cases hK
       ·rename_i hnq
        refine fin hK fun hc => ?_
        cases hqe : quietE e o with
        | true => rfl
        | false => exact absurd hqe (hnq hc)
      ·cases hp
     ·cases hp
    ·cases hp
theorem region_draw_wp (C : Ctx P G ng base pb w0 Γ) {z : Bool} {id : Nat} {ops : Array Oper} (hz : z = true → ∀ o ∈ ops.toList, o.dst ≠ some 0) {D : List Nat} {l : List (Nat × Bool)} (hp : plan P ops.toList = some (D, l)) (hK : drawK P Γ nn D ops.toList l e K = some r) (h : Sim P base pb w0 w e a.tmps)
  (hQ : ∀ e' a' w', K e' = some r → Sim P base pb w0 w' e' a'.tmps → Pin z a a' → Q .normal a' w') : (Code.region id ops true).wp P Q a w := by
 have hops : ops.toList.toArray = ops := by simp
 have both : Region.noSelect ops = true ∧ (∀ s, s ∈ D → ∀ o ∈ ops.toList, o.dst ≠ some s) ∧ planGo P D ops.toList ops.toList.length (Array.replicate ops.toList.length false) [] = some l := by
  unfold plan at hp
  rw [hops] at hp
  split at hp
  ·rename_i hsel
   refine ⟨hsel, ?_⟩
   split at hp
   ·rename_i l' hl'; cases hp; exact ⟨fun s hs => (by cases hs), hl'⟩
   ·split at hp
    ·rename_i l' hl'
     simp only [Option.some.injEq, Prod.mk.injEq] at hp
     obtain ⟨rfl, rfl⟩ := hp
     exact ⟨lates_dst, hl'⟩
    ·cases hp
  ·cases hp
 obtain ⟨hsel, hD, hp⟩ := both
 refine wp_mono (Q := fun x a' w' => x = .normal ∧ ∃ e', K e' = some r ∧ Sim P base pb w0 w' e' a'.tmps ∧ Pin z a a') ?_ ?_
 ·refine wp_region_any C.mixed ?_
  have hw : Sim P base pb w0 { w with drawn := w.drawn + 1 } e a.tmps := h.ext ⟨rfl, rfl, rfl, Nat.le_refl _, fun _ _ _ => rfl⟩
  rw [Array.length_toList] at hp
  refine wpAny_of_wpE _ (pen := fun _ _ => False) (drawK_wp (Q := fun x a' w' => x = .normal ∧ ∃ e', K e' = some r ∧ Sim P base pb w0 w' e' a'.tmps ∧ Pin z a a') C hz hsel (fun c a w hq => by cases hq.1) (fun hl => by obtain ⟨a, w, hq⟩ := hl; cases hq.1) hD (X := fun b => ∃ s ∈ D, b ∈ blkOf (a.tmps.getD s undef)) (tm0 := a.tmps) (fun _ => Iff.rfl) _ l [] _ _ e a _ hp hK hw ?_ (fun _ _ => rfl) (fun _ _ h => h.elim) (fun _ _ h => h.elim) ?_)
  ·intro j hj
   simp only [Array.getD_eq_getD_getElem?, Array.getElem?_replicate] at hj
   split at hj <;> cases hj
  ·intro e' a' w' k1 k2 k3; exact ⟨rfl, e', k1, k2, k3⟩
 ·rintro x a' w' ⟨rfl, e', k1, k2, k3⟩
  exact hQ e' a' w' k1 k2 k3
end Go.Proofs.YtffmgholjdfcnaaGreatDoor.AM
set_option linter.unusedSimpArgs false
namespace Go.Proofs.YtffmgholjdfcnaaGreatDoor.AM
open Go
section
variable {P : Program} {Q : Exit → Act → World → Prop}
def ScopeQ (P : Program) (c : Code) (Q : Exit → Act → World → Prop) : Nat → Exit → Act → World → Prop
 | 0, .goto l, a, w => findLabel c l = none ∧ Q (.goto l) a w
 | j + 1, .goto l, a, w => (∃ rest, findLabel c l = some rest ∧ rest.wp P (ScopeQ P c Q j) a w) ∨ (findLabel c l = none ∧ Q (.goto l) a w)
 | _, x, a, w => Q x a w
theorem wp_scope_n {c : Code} {j : Nat} {a : Act} {w : World} (h : c.wp P (ScopeQ P c Q j) a w) : (Code.scope c).wp P Q a w := by
 intro b k cs
 have key : ∀ (j : Nat) (x : Code) (a : Act) (w : World), x.wp P (ScopeQ P c Q j) a w → ∃ e a' w', Q e a' w' ∧ Arrives P (lone (b.at a (.code x :: .inScope c :: k)) cs w) b k cs e a' w' := by
  intro j
  induction j with
  | zero =>
   intro x a w hx
   obtain ⟨e, a1, w1, hq, harr⟩ := hx b (.inScope c :: k) cs
   cases e with
   | normal => exact ⟨.normal, a1, w1, hq, Steps.trans harr (.one step_inScope)⟩
   | exit id => exact ⟨.exit id, a1, w1, hq, fun k' hk => harr k' (by simp [exitTo, hk])⟩
   | goto l =>
    obtain ⟨hf, hq⟩ := hq
    exact ⟨.goto l, a1, w1, hq, fun k' hk => harr k' (by simp [gotoIn, hf, hk])⟩
   | ret => exact ⟨_, a1, w1, hq, harr⟩
   | panic ch => exact ⟨_, a1, w1, hq, harr⟩
   | outgrown => exact ⟨_, a1, w1, hq, harr⟩
  | succ j ih =>
   intro x a w hx
   obtain ⟨e, a1, w1, hq, harr⟩ := hx b (.inScope c :: k) cs
   cases e with
   | normal => exact ⟨.normal, a1, w1, hq, Steps.trans harr (.one step_inScope)⟩
   | exit id => exact ⟨.exit id, a1, w1, hq, fun k' hk => harr k' (by simp [exitTo, hk])⟩
   | goto l =>
    rcases hq with ⟨rest, hf, hr⟩ | ⟨hf, hq⟩
    ·obtain ⟨e2, a2, w2, hq2, harr2⟩ := ih rest a1 w1 hr
     exact ⟨e2, a2, w2, hq2, .of_steps (harr _ (by simp [gotoIn, hf])) harr2⟩
    ·exact ⟨.goto l, a1, w1, hq, fun k' hk => harr k' (by simp [gotoIn, hf, hk])⟩
   | ret => exact ⟨_, a1, w1, hq, harr⟩
   | panic ch => exact ⟨_, a1, w1, hq, harr⟩
   | outgrown => exact ⟨_, a1, w1, hq, harr⟩
 obtain ⟨e, a', w', hq, harr⟩ := key j c a w h
 exact ⟨e, a', w', hq, .of_steps (.one step_scope) harr⟩
theorem hasLabel_find (l : Nat) : ∀ c : Code, hasLabel l c = (findLabel c l).isSome := by
 intro c
 induction c with
 | seq a b iha ihb =>
  simp only [hasLabel, findLabel, iha, ihb]
  cases findLabel a l <;> simp
 | label l' => simp only [hasLabel, findLabel]; split <;> simp_all
 | _ => rfl
end
variable {P : Program} {G : World → Prop} {ng : Nat} {base : Nat} {pb : Option Nat} {w0 w w' : World} {e : Env} {a : Act} {Γ : Gam} {nn : Nat} {Lv : Nat → Option (List (Nat × Co))} {Cut : Nat → Env → (Env → Option Out) → Option Out}
variable {r : Out} {Q : Exit → Act → World → Prop}
theorem keepFrom_at (lv : List (Nat × Co)) (e0 : Env) : ∀ (e : Env) (n i : Nat), i < e.length → (keepFrom lv e0 n e).getD i .u = keepV lv e0 (n + i) (e.getD i .u)
 | [], n, i, h => by simp at h
 | v :: e, n, 0, _ => by simp [keepFrom]
 | v :: e, n, i + 1, h => by
  have := keepFrom_at lv e0 e (n + 1) i (by simpa using h)
  simp only [keepFrom, List.getD_cons_succ]
  rw [this, show n + 1 + i = n + (i + 1) by omega]
theorem keepFrom_length (lv : List (Nat × Co)) (e0 : Env) : ∀ (e : Env) (n : Nat), (keepFrom lv e0 n e).length = e.length
 | [], _ => rfl
 | v :: e, n => by simp [keepFrom, keepFrom_length lv e0 e (n + 1)]
theorem keepV_owner {lv : List (Nat × Co)} {i : Nat} {v : V} (ho : owner v = true) (hk : (findCo lv i).isSome = true) : keepV lv e i v = v := by
 obtain ⟨c, hc⟩ := Option.isSome_iff_exists.1 hk
 unfold keepV
 rw [hc]
 cases v with
 | box T x => cases c <;> rfl
 | iter l p => cases c <;> rfl
 | c x => cases x <;> first | (cases ho; done) | (cases c <;> rfl)
 | _ => cases ho
theorem Sim.kept (h : Sim P base pb w0 w e a.tmps) (lv : List (Nat × Co)) : Sim P base pb w0 w (keepFrom lv e 0 e) a.tmps := by
 have hg : ∀ i, i < e.length → (keepFrom lv e 0 e).getD i .u = keepV lv e i (e.getD i .u) := by
  intro i hi; have := keepFrom_at lv e e 0 i hi; rwa [Nat.zero_add] at this
 have hout : ∀ i, ¬ i < e.length → (keepFrom lv e 0 e).getD i .u = .u := by
  intro i hi
  rw [List.getD_eq_getElem?_getD, List.getElem?_eq_none (by rw [keepFrom_length]; omega)]; rfl
 have hown : ∀ s, owner (e.getD s .u) = true → (findCo lv s).isSome = true → (keepFrom lv e 0 e).getD s .u = e.getD s .u := by
  intro s ho hk
  rw [hg s (lt_of_owner ho), keepV_owner ho hk]
 have main : ∀ i, RelV P base pb w (keepFrom lv e 0 e) a.tmps ((keepFrom lv e 0 e).getD i .u) (a.tmps.getD i undef) ∧ (∀ b, b ∈ blks ((keepFrom lv e 0 e).getD i .u) (a.tmps.getD i undef) → b ∈ blks (e.getD i .u) (a.tmps.getD i undef)) ∧ (blks ((keepFrom lv e 0 e).getD i .u) (a.tmps.getD i undef)).Nodup := by
  intro i
  by_cases hi : i < e.length
  ·rw [hg i hi]
   unfold keepV
   split
   ·rename_i c hc hk
    have same : RelV P base pb w (keepFrom lv e 0 e) a.tmps (e.getD i .u) (a.tmps.getD i undef) := by
     refine (h.rel i).env fun s hs hso => ⟨hown s hso ?_, rfl⟩
     cases hv : e.getD i .u with
     | via s' off => rw [hv] at hs hk; simp only [aliasOf, beq_iff_eq] at hs; subst hs; exact hk
     | all s' => rw [hv] at hs hk; simp only [aliasOf, beq_iff_eq] at hs; subst hs; exact hk
     | ali s' lo n => rw [hv] at hs hk; simp only [aliasOf, beq_iff_eq] at hs; subst hs; exact hk
     | it s' => rw [hv] at hs hk; simp only [aliasOf, beq_iff_eq] at hs; subst hs; exact hk
     | _ => rw [hv] at hs; cases hs
    have hr := h.rel i
    unfold coV
    split
    ·rename_i x hv
     rw [hv] at hr
     have hval : a.tmps.getD i undef = .slice none 0 0 := hr
     split
     ·rename_i hl
      rw [hval]
      refine ⟨.inl ⟨rfl, hl⟩, fun b hb => ?_, by simp [blks, blksC, blkOf, baseOf]⟩
      simp [blks, blksC, blkOf, baseOf] at hb
     ·exact ⟨trivial, fun b hb => by simp [blks] at hb, by simp [blks]⟩
    ·rename_i s hv
     rw [hv] at hr hk
     split
     ·rename_i x hx
      obtain ⟨A, cap, h3, h4, h5⟩ := owner_slice h hx
      have hso := isSl_owner (isSl_of hx)
      have hval : a.tmps.getD i undef = .slice A x.len cap := hr.2.trans h3
      rw [hval]
      refine ⟨⟨by rw [hown s hso hk]; exact hso, ⟨A, cap, rfl, h4, fun hl => ?_, fun _ A' len' cap' hA => ?_⟩, fun x' hx' => ?_, ?_⟩, fun b hb => by simp [blks] at hb, by simp [blks]⟩
      ·obtain ⟨b, rfl⟩ := h5 hl
       exact ⟨b, by rw [h3]; rfl, by simp [Addr.add]⟩
      ·rw [h3] at hA; cases hA; exact ⟨rfl, rfl⟩
      ·unfold contentB at hx'
       rw [hown s hso hk] at hx'
       have := contentB_of hx
       unfold contentB at this
       rw [this] at hx'; cases hx'; omega
      ·intro T' y' hT'
       rw [hown s hso hk] at hT'
       rw [content, hT'] at hx; cases hx
     ·exact ⟨trivial, fun b hb => by simp [blks] at hb, by simp [blks]⟩
    ·exact ⟨same, fun b hb => hb, h.nd i⟩
   ·exact ⟨trivial, fun b hb => by simp [blks] at hb, by simp [blks]⟩
  ·rw [hout i hi]
   exact ⟨trivial, fun b hb => by simp [blks] at hb, by simp [blks]⟩
 exact ⟨by rw [keepFrom_length]; exact h.size, fun i => (main i).1, fun i j hij b hi hj => h.dist i j hij b ((main i).2.1 b hi) ((main j).2.1 b hj), fun i b hi => h.own i b ((main i).2.1 b hi), fun i => (main i).2.2, h.keep, h.low⟩
theorem Sim.trimmed (h : Sim P base pb w0 w e a.tmps) (lv : Option (List (Nat × Co))) : Sim P base pb w0 w (trim lv e) a.tmps := by
 cases lv with
 | none => exact h
 | some l => exact h.kept l
def CodeOk (P : Program) (base : Nat) (pb : Option Nat) (w0 : World) (Γ : Gam) (nn : Nat) (Lv : Nat → Option (List (Nat × Co))) (Cut : Nat → Env → (Env → Option Out) → Option Out) (z : Bool) (c : Code) : Prop :=
 (∀ (k : Nat) (e : Env) (K : Exit → Env → Option Out) (r : Out) (a : Act) (w : World) (Q : Exit → Act → World → Prop), execK P Γ nn Lv Cut k c e K = some r → Sim P base pb w0 w e a.tmps →
  (∀ x e' a' w', K x e' = some r → Sim P base pb w0 w' e' a'.tmps → Pin z a a' → Q x a' w') → c.wp P Q a w) ∧
 ∀ (k l : Nat) (rest : Code) (e : Env) (K : Exit → Env → Option Out) (r : Out) (a : Act) (w : World) (Q : Exit → Act → World → Prop), findLabel c l = some rest → fromK P Γ nn Lv Cut k l c e K = some r → Sim P base pb w0 w e a.tmps →
  (∀ x e' a' w', K x e' = some r → Sim P base pb w0 w' e' a'.tmps → Pin z a a' → Q x a' w') → rest.wp P Q a w
theorem atCut_some (hC : ∀ key e t, Cut key e t = t e) {lv : Option (List (Nat × Co))} {key : Nat} {t : Env → Option Out} (h : atCut Cut lv key e t = some r) : t (trim lv e) = some r := by
 unfold atCut at h
 split at h
 ·rwa [hC] at h
 ·exact h
theorem seq_then (hC : ∀ key e t, Cut key e t = t e) (b : Code) {z : Bool} (hb : CodeOk P base pb w0 Γ nn Lv Cut z b) {k : Nat} {K : Exit → Env → Option Out} {a0 : Act}
  (hQ : ∀ x e' a' w', K x e' = some r → Sim P base pb w0 w' e' a'.tmps → Pin z a0 a' → Q x a' w') (x : Exit) (e' : Env) (a' : Act) (w' : World)
  (h : (match x with | .normal => atCut Cut (Lv (hid2 b)) (hid2 b) e' (fun e => execK P Γ nn Lv Cut k b e K) | x => K x e') = some r) (hs : Sim P base pb w0 w' e' a'.tmps) (hp : Pin z a0 a') : Exit.then (b.wp P Q) Q x a' w' := by
 cases x with
 | normal => exact hb.1 k _ K r a' w' Q (atCut_some hC h) (hs.trimmed _) fun y e2 a2 w2 k1 k2 k3 => hQ y e2 a2 w2 k1 k2 (hp.trans k3)
 | exit id => exact hQ _ _ _ _ h hs hp
 | goto l => exact hQ _ _ _ _ h hs hp
 | ret => exact hQ _ _ _ _ h hs hp
 | panic c => exact hQ _ _ _ _ h hs hp
 | outgrown => exact hQ _ _ _ _ h hs hp
theorem code_ok (C : Ctx P G ng base pb w0 Γ) (hC : ∀ key e t, Cut key e t = t e) {z : Bool} : ∀ c : Code, (z = true → 0 ∉ dsts c) → CodeOk P base pb w0 Γ nn Lv Cut z c := by
 intro c
 induction c with
 | skip => exact fun _ => ⟨fun k e K r a w Q hK h hQ => wp_skip (hQ _ _ _ _ hK h (Pin.refl _ _)), fun k l rest e K r a w Q hf => (by cases hf)⟩
 | label l => exact fun _ => ⟨fun k e K r a w Q hK h hQ => wp_label (hQ _ _ _ _ hK h (Pin.refl _ _)), fun k l' rest e K r a w Q hf hK h hQ => by
   simp only [findLabel] at hf
   split at hf
   ·cases hf; exact wp_skip (hQ _ _ _ _ hK h (Pin.refl _ _))
   ·cases hf⟩
 | exit id => exact fun _ => ⟨fun k e K r a w Q hK h hQ => wp_exit (hQ _ _ _ _ hK h (Pin.refl _ _)), fun k l rest e K r a w Q hf => (by cases hf)⟩
 | goto l => exact fun _ => ⟨fun k e K r a w Q hK h hQ => wp_goto (hQ _ _ _ _ hK (h.trimmed _) (Pin.refl _ _)), fun k l rest e K r a w Q hf => (by cases hf)⟩
 | ret => exact fun _ => ⟨fun k e K r a w Q hK h hQ => wp_ret (hQ _ _ _ _ hK h (Pin.refl _ _)), fun k l rest e K r a w Q hf => (by cases hf)⟩
 | refuse why => exact fun _ => ⟨fun k e K r a w Q hK => (by cases hK), fun k l rest e K r a w Q hf => (by cases hf)⟩
 | rangeFunc f ps as bd _ _ => exact fun _ => ⟨fun k e K r a w Q hK => (by cases hK), fun k l rest e K r a w Q hf => (by cases hf)⟩
 | region id ops draw =>
  intro hz
  have hz' : z = true → ∀ o ∈ ops.toList, o.dst ≠ some 0 := by
   intro h o ho hd
   exact hz h (List.mem_flatMap.2 ⟨o, ho, by rw [hd]; simp⟩)
  refine ⟨fun k e K r a w Q hK h hQ => ?_, fun k l rest e K r a w Q hf => (by cases hf)⟩
  cases draw with
  | false =>
   simp only [execK] at hK
   replace hK := (forceE_eq _ _).symm.trans hK
   exact region_wp C hz' hK h fun e' a' w' k1 k2 k3 => hQ _ _ _ _ k1 k2 k3
  | true =>
   simp only [execK] at hK
   split at hK
   ·rename_i D l hl
    replace hK := (forceE_eq _ _).symm.trans hK
    exact region_draw_wp C hz' hl hK h fun e' a' w' k1 k2 k3 => hQ _ _ _ _ k1 k2 k3
   ·cases hK
 | seq a b iha ihb =>
  intro hz
  have ha := iha fun h hm => hz h (List.mem_append_left _ hm)
  have hb := ihb fun h hm => hz h (List.mem_append_right _ hm)
  refine ⟨fun k e K r ac w Q hK h hQ => wp_seq ?_, fun k l rest e K r ac w Q hf hK h hQ => ?_⟩
  ·exact ha.1 k e _ r ac w _ hK h fun x e' a' w' k1 k2 k3 => seq_then hC b hb hQ x e' a' w' k1 k2 k3
  ·simp only [findLabel] at hf
   simp only [fromK] at hK
   split at hf
   ·rename_i ra hra
    cases hf
    rw [hasLabel_find, hra] at hK
    exact wp_seq (ha.2 k l ra e _ r ac w _ hra hK h fun x e' a' w' k1 k2 k3 => seq_then hC b hb hQ x e' a' w' k1 k2 k3)
   ·rename_i hra
    rw [hasLabel_find, hra] at hK
    exact hb.2 k l rest e K r ac w Q hf hK h hQ
 | cond c a b iha ihb =>
  intro hz
  have ha := iha fun h hm => hz h (List.mem_append_left _ hm)
  have hb := ihb fun h hm => hz h (List.mem_append_right _ hm)
  refine ⟨fun k e K r ac w Q hK h hQ => ?_, fun k l rest e K r a w Q hf => (by cases hf)⟩
  simp only [execK] at hK
  split at hK
  ·rename_i t ht
   have hc : ac.eval c = .bool t := ev_s h ht
   cases t with
   | true => exact wp_cond hc (ha.1 k e K r ac w Q hK h hQ)
   | false => exact wp_cond hc (hb.1 k e K r ac w Q hK h hQ)
  ·cases hK
 | block id a iha =>
  intro hz
  have ha := iha hz
  refine ⟨fun k e K r ac w Q hK h hQ => wp_block ?_, fun k l rest e K r a w Q hf => (by cases hf)⟩
  refine ha.1 k e _ r ac w _ hK h fun x e' a' w' k1 k2 k3 => ?_
  cases x with
  | exit id' =>
   dsimp only at k1
   by_cases hid : id' = id
   ·subst hid
    simp only [beq_self_eq_true] at k1
    show Exit.inBlock id' Q (.exit id') a' w'
    simp only [Exit.inBlock, if_true]
    exact hQ _ _ _ _ k1 k2 k3
   ·have hid' : (id' == id) = false := by simpa using hid
    simp only [hid'] at k1
    show Exit.inBlock id Q (.exit id') a' w'
    simp only [Exit.inBlock, if_neg hid]
    exact hQ _ _ _ _ k1 k2 k3
  | normal => exact hQ _ _ _ _ k1 k2 k3
  | goto l => exact hQ _ _ _ _ k1 k2 k3
  | ret => exact hQ _ _ _ _ k1 k2 k3
  | panic c => exact hQ _ _ _ _ k1 k2 k3
  | outgrown => exact hQ _ _ _ _ k1 k2 k3
 | loop a iha =>
  intro hz
  have ha := iha hz
  refine ⟨fun k e K r ac w Q hK h hQ => ?_, fun k l rest e K r a w Q hf => (by cases hf)⟩
  refine wp_loop_ghost (fun n a' w' => ∃ e', loopK Cut (fun e K => execK P Γ nn Lv Cut k a e K) (Lv (1000000 + hid (.loop a))) (1000000 + hid (.loop a)) n e' K = some r ∧ Sim P base pb w0 w' e' a'.tmps ∧ Pin z ac a') k ⟨_, atCut_some hC hK, h.trimmed _, Pin.refl _ _⟩ ?_
  rintro n a1 w1 ⟨e1, h1, h2, h3⟩
  cases n with
  | zero => cases h1
  | succ n =>
   simp only [loopK] at h1
   refine ha.1 k _ _ r a1 w1 _ h1 h2 fun x e' a' w' k1 k2 k3 => ?_
   cases x with
   | normal => exact ⟨n, Nat.lt_succ_self _, _, atCut_some hC k1, k2.trimmed _, h3.trans k3⟩
   | exit id => exact hQ _ _ _ _ k1 k2 (h3.trans k3)
   | goto l => exact hQ _ _ _ _ k1 k2 (h3.trans k3)
   | ret => exact hQ _ _ _ _ k1 k2 (h3.trans k3)
   | panic c => exact hQ _ _ _ _ k1 k2 (h3.trans k3)
   | outgrown => exact hQ _ _ _ _ k1 k2 (h3.trans k3)
 | scope a iha =>
  intro hz
  have ha := iha hz
  refine ⟨fun k e K r ac w Q hK h hQ => ?_, fun k l rest e K r a w Q hf => (by cases hf)⟩
  simp only [execK] at hK
  have hand : ∀ (j : Nat) (x : Exit) (e' : Env) (a' : Act) (w' : World), handK Cut (fun l e K => fromK P Γ nn Lv Cut k l a e K) (fun l => hasLabel l a) K j x e' = some r → Sim P base pb w0 w' e' a'.tmps → Pin z ac a' → ScopeQ P a Q j x a' w' := by
   intro j
   induction j with
   | zero =>
    intro x e' a' w' k1 k2 k3
    cases x with
    | goto l =>
     simp only [handK] at k1
     split at k1
     ·rw [hC] at k1; cases k1
     ·rename_i hf
      rw [hasLabel_find] at hf
      exact ⟨by simpa using hf, hQ _ _ _ _ k1 k2 k3⟩
    | normal => exact hQ _ _ _ _ k1 k2 k3
    | exit id => exact hQ _ _ _ _ k1 k2 k3
    | ret => exact hQ _ _ _ _ k1 k2 k3
    | panic c => exact hQ _ _ _ _ k1 k2 k3
    | outgrown => exact hQ _ _ _ _ k1 k2 k3
   | succ j ih =>
    intro x e' a' w' k1 k2 k3
    cases x with
    | goto l =>
     simp only [handK] at k1
     rw [hasLabel_find] at k1
     cases hf : findLabel a l with
     | some rest =>
      rw [hf] at k1
      simp only [Option.isSome_some] at k1
      replace k1 := (hC _ _ _).symm.trans k1
      have hst : ∀ y e2, handK Cut (fun l e K => fromK P Γ nn Lv Cut k l a e K) (fun l => hasLabel l a) K j y e2 = (match y with | .goto l' => (match hasLabel l' a with | true => Cut (3000000 + l') e2 fun e => againK Cut (fun l e K => fromK P Γ nn Lv Cut k l a e K) (fun l => hasLabel l a) K j l' e | false => K (.goto l') e2) | x => K x e2) := fun y e2 => by cases y <;> rfl
      simp only [againK] at k1
      exact .inl ⟨rest, hf, ha.2 k l rest _ _ r a' w' _ hf k1 k2 fun y e2 a2 w2 q1 q2 q3 => ih y e2 a2 w2 (by rw [hst]; exact q1) q2 (k3.trans q3)⟩
     | none =>
      rw [hf] at k1
      exact .inr ⟨hf, hQ _ _ _ _ k1 k2 k3⟩
    | normal => exact hQ _ _ _ _ k1 k2 k3
    | exit id => exact hQ _ _ _ _ k1 k2 k3
    | ret => exact hQ _ _ _ _ k1 k2 k3
    | panic c => exact hQ _ _ _ _ k1 k2 k3
    | outgrown => exact hQ _ _ _ _ k1 k2 k3
  exact wp_scope_n (ha.1 k e _ r ac w _ hK h fun x e' a' w' k1 k2 k3 => hand k x e' a' w' k1 k2 k3)
end Go.Proofs.YtffmgholjdfcnaaGreatDoor.AM
set_option linter.unusedSimpArgs false
namespace Go.Proofs.YtffmgholjdfcnaaGreatDoor.AM
open Go
variable {P : Program} {G : World → Prop} {ng : Nat} {base : Nat} {pb : Option Nat} {w0 w w' : World} {e : Env} {a : Act} {Γ : Gam} {nn : Nat} {Lv : Nat → Option (List (Nat × Co))} {Cut : Nat → Env → (Env → Option Out) → Option Out}
structure Stays (P : Program) (G : World → Prop) (ng : Nat) : Prop where
 stays : ∀ w w', G w → (∀ b, b < ng → w'.heap[b]? = w.heap[b]?) → w'.os = w.os → w'.tape = w.tape → w'.output = w.output → w.heap.size ≤ w'.heap.size → G w'
 mixed : P.follows .mixedOrders = true
def resF (tmps : Array Value) : ResultVar → Sem Value
 | .tmp t => pure (tmps.getD t undef)
 | .cell a t => do loadVar t (← asAddr (tmps.getD a undef))
theorem outC_rel (h : Sim P base pb w0 w e a.tmps) {rt : Nat} {rv : ResultVar} {c : C} (hc : outC P e rt rv = some c) : ∃ v, (resF a.tmps rv).run P w = .ok v w ∧ (∀ base' pb', RelC base' pb' w c v) ∧
  (∀ b, b ∈ blksC c v → ∃ s ∈ outS e rv, b ∈ blks (e.getD s .u) (a.tmps.getD s undef) ∧ isSl (e.getD s .u) = true) ∧ (blksC c v).Nodup := by
 cases rv with
 | tmp t =>
  have hr := h.rel t
  simp only [outC] at hc
  split at hc
  ·rename_i ht
   split at hc
   ·rename_i el z hz
    cases hc
    rw [ht] at hr
    have hv : a.tmps.getD t undef = .slice none 0 0 := hr
    refine ⟨_, rfl, fun _ _ => .inl ⟨hv, xsOf_len _ _⟩, fun b hb => ?_, nodup_blkOf _⟩
    rw [hv] at hb; simp [blksC, blkOf, baseOf] at hb
   ·cases hc
  ·rename_i s _ ht
   cases hc; rw [ht] at hr
   exact ⟨_, rfl, fun _ _ => hr, fun b hb => (by cases hb), by simp [blksC]⟩
  ·rename_i x ht
   cases hc; rw [ht] at hr
   exact ⟨_, rfl, fun _ _ => hr, fun b hb => (by cases hb), by simp [blksC]⟩
  ·rename_i x ht
   cases hc; rw [ht] at hr
   refine ⟨_, rfl, fun _ _ => hr, fun b hb => ⟨t, by simp only [outS, ht, List.mem_singleton], by rw [ht]; exact hb, by rw [ht]; rfl⟩, nodup_blkOf _⟩
  ·rename_i s ht
   rw [ht] at hr
   split at hc
   ·rename_i x hs
    cases hc
    have hr' := h.rel s
    rw [hs] at hr'
    have hv : a.tmps.getD t undef = a.tmps.getD s undef := hr.2
    refine ⟨_, rfl, fun _ _ => by rw [hv]; exact hr', fun b hb => ⟨s, by simp only [outS, ht, List.mem_singleton], by rw [hs, ← hv]; exact hb, by rw [hs]; rfl⟩, nodup_blkOf _⟩
   ·cases hc
  ·cases hc
 | cell ad t =>
  simp only [outC] at hc
  split at hc
  ·rename_i s hx
   split at hc
   ·rename_i T x hs hag
    split at hc
    ·rename_i hT
     have hT : T = t := by simpa using hT
     subst hT
     cases hc
     have hv := (rd_rel h ad).1
     rw [hx] at hv
     obtain ⟨-, A, g2, g3⟩ := hv
     have hr := h.rel s
     rw [hs] at hr
     obtain ⟨b, k1, k2, k3⟩ := hr
     obtain ⟨h1, h2⟩ := isAggB_run hag w
     have h3 := cells_at h (s := s) (x := x) (by unfold contentB; rw [hs]) (lo := 0) (n := x.len) (by omega) (A := A) (fun _ => g2)
     refine ⟨.agg x.enc.toArray, ?_, fun _ _ => rfl, fun b hb => (by cases hb), by simp [blksC]⟩
     have hcut : x.cut 0 x.len = x := by cases x <;> simp [Xs.cut, Xs.len]
     rw [hcut] at h3
     simp only [resF, g3, asAddr, Sem.run_bind, Sem.run_pure, Result.andThen_ok, loadVar, h1, if_true, h2, k3, Sem.run_ite, h3]
    ·cases hc
   ·cases hc
  ·cases hc
theorem outCs_rel (h : Sim P base pb w0 w e a.tmps) : ∀ {ts : List Nat} {rs : List ResultVar} {l : List C}, outCs P e ts rs = some l → ∃ vs : List Value, (rs.mapM (resF a.tmps)).run P w = .ok vs w ∧ vs.length = l.length ∧ (∀ base' pb', RelL base' pb' w l vs) ∧
  (∀ b, b ∈ blksL l vs → ∃ s ∈ rs.flatMap (outS e), b ∈ blks (e.getD s .u) (a.tmps.getD s undef) ∧ isSl (e.getD s .u) = true) ∧ (apartB (rs.flatMap (outS e)) = true → (blksL l vs).Nodup)
 | _, [], l, hc => by
  have hl : l = [] := by
   unfold outCs at hc
   cases ‹List Nat› <;> (simp at hc; exact hc)
  subst hl
  exact ⟨[], rfl, rfl, fun _ _ => .nil, fun b hb => (by cases hb), fun _ => by simp [blksL]⟩
 | [], r :: rs, l, hc => by cases hc
 | t :: ts, r :: rs, l, hc => by
  simp only [outCs] at hc
  split at hc
  ·rename_i c cs h1 h2
   cases hc
   obtain ⟨v, k1, k2, k3, k4⟩ := outC_rel h h1
   obtain ⟨vs, g1, g0, g2, g3, g4⟩ := outCs_rel h h2
   refine ⟨v :: vs, ?_, by simp [g0], fun b p => .cons (k2 b p) (g2 b p), fun b hb => ?_, fun hap => ?_⟩
   ·rw [List.mapM_cons]
    simp only [Sem.run_bind, k1, Result.andThen_ok, g1, Sem.run_pure]
   ·simp only [blksL, List.mem_append] at hb
    simp only [List.flatMap_cons, List.mem_append]
    rcases hb with hb | hb
    ·obtain ⟨s, q1, q2⟩ := k3 b hb; exact ⟨s, .inl q1, q2⟩
    ·obtain ⟨s, q1, q2⟩ := g3 b hb; exact ⟨s, .inr q1, q2⟩
   ·have split2 : ∀ (A B : List Nat), apartB (A ++ B) = true → apartB B = true ∧ ∀ x, x ∈ A → x ∉ B := by
     intro A B
     induction A with
     | nil => intro h; exact ⟨h, fun x hx => by cases hx⟩
     | cons y A ih =>
      intro h
      simp only [List.cons_append, apartB, Bool.and_eq_true, Bool.not_eq_true'] at h
      obtain ⟨i1, i2⟩ := ih h.2
      refine ⟨i1, fun x hx => ?_⟩
      rcases List.mem_cons.1 hx with rfl | hx
      ·intro hb
       have := h.1
       rw [List.contains_eq_mem] at this
       simp [hb] at this
      ·exact i2 x hx
    rw [List.flatMap_cons] at hap
    obtain ⟨a1, a2⟩ := split2 _ _ hap
    simp only [blksL]
    refine List.nodup_append.2 ⟨k4, g4 a1, fun x hx y hy hxy => ?_⟩
    subst hxy
    obtain ⟨s1, p1, p2, -⟩ := k3 x hx
    obtain ⟨s2, p3, p4, -⟩ := g3 x hy
    by_cases hss : s1 = s2
    ·subst hss; exact a2 s1 p1 p3
    ·exact h.dist s1 s2 hss x p2 p4
  ·cases hc
theorem ofRes_rel {l : List C} {vs : List Value} (hlen : vs.length = l.length) (h : ∀ base' pb', RelL base' pb' w l vs) :
  (∀ base' pb' e tm, RelV P base' pb' w e tm (ofRes l) (if h : vs.toArray.size = 1 then vs.toArray[0] else .tuple vs.toArray)) ∧
  ((∀ b, b ∈ blks (ofRes l) (if h : vs.toArray.size = 1 then vs.toArray[0] else .tuple vs.toArray) → b ∈ blksL l vs) ∧ ((blksL l vs).Nodup → (blks (ofRes l) (if h : vs.toArray.size = 1 then vs.toArray[0] else .tuple vs.toArray)).Nodup)) := by
 match l, vs, hlen with
 | [], [], _ => exact ⟨fun _ _ _ _ => trivial, fun b hb => by simp [ofRes, blks] at hb, fun _ => by simp [ofRes, blks]⟩
 | [c], [v], _ =>
  refine ⟨fun b p e tm => ?_, fun b hb => ?_, fun hnd => ?_⟩
  ·have := h b p
   cases this with
   | cons h1 _ => exact h1
  ·simpa [ofRes, blks, blksL] using hb
  ·simpa [ofRes, blks, blksL] using hnd
 | c :: c' :: l, v :: v' :: vs, hl =>
  have hne : ¬ ((v :: v' :: vs).toArray.size = 1) := by simp
  rw [dif_neg hne]
  exact ⟨fun b p e tm => ⟨_, rfl, h b p⟩, fun b hb => by simpa [ofRes, blks] using hb, fun hnd => by simpa [ofRes, blks] using hnd⟩
theorem RelL.length {l : List C} {vs : List Value} (h : RelL base pb w l vs) : vs.length = l.length := by
 induction h with
 | nil => rfl
 | cons _ _ ih => simp [ih]
theorem RelL.at {l : List C} {vs : List Value} (h : RelL base pb w l vs) (i : Nat) : (l[i]? = none ∧ vs[i]? = none) ∨ ∃ c v, l[i]? = some c ∧ vs[i]? = some v ∧ RelC base pb w c v := by
 cases hi : l[i]? with
 | none =>
  refine .inl ⟨rfl, ?_⟩
  rw [List.getElem?_eq_none_iff] at hi ⊢
  rw [h.length]; exact hi
 | some c =>
  obtain ⟨v, h1, h2⟩ := h.get hi
  exact .inr ⟨c, v, rfl, h1, h2⟩
theorem start_sim {fn : Func} {rc : Option (Nat × Xs)} {as : List C} {rv vs : List Value} (hrc : RecvRel P ng w rc rv pb) (has : RelL w.heap.size pb w as vs) (hp : as.all plainC = true) :
  Sim P w.heap.size pb w w (startE fn rc as) ((rv ++ vs).toArray ++ Array.replicate (fn.ntmps - (rv ++ vs).toArray.size) undef) := by
 have hlen := has.length
 have hpre : (preV rc).length = rv.length := by
  cases rc with
  | none => obtain ⟨rfl, -⟩ := hrc; rfl
  | some q => obtain ⟨b, -, rfl, -⟩ := hrc; rfl
 have hcase : ∀ i, (∃ T x b, i = 0 ∧ rc = some (T, x) ∧ pb = some b ∧ (startE fn rc as).getD i .u = .box T x ∧ ((rv ++ vs).toArray ++ Array.replicate (fn.ntmps - (rv ++ vs).toArray.size) undef).getD i undef = .pointer (some ⟨b, 0, none⟩) ∧ w.heap[b]? = some (.cells x.enc.toArray T (0, 0)) ∧ P.cellsOf T = x.len) ∨
   (∃ c v, (startE fn rc as).getD i .u = .c c ∧ plainC c = true ∧ ((rv ++ vs).toArray ++ Array.replicate (fn.ntmps - (rv ++ vs).toArray.size) undef).getD i undef = v ∧ RelC w.heap.size pb w c v) ∨ (startE fn rc as).getD i .u = .u := by
  intro i
  have hval : ((rv ++ vs).toArray ++ Array.replicate (fn.ntmps - (rv ++ vs).toArray.size) undef).getD i undef = ((rv ++ vs)[i]?).getD undef := by
   rw [Array.getD_eq_getD_getElem?, Array.getElem?_append]
   split
   ·rw [List.getElem?_toArray]
   ·rename_i hi
    have h2 : (rv ++ vs)[i]? = none := by rw [List.getElem?_eq_none_iff]; simpa using hi
    rw [h2, Array.getElem?_replicate]
    split <;> rfl
  have henv : (startE fn rc as).getD i .u = ((preV rc ++ as.map argV)[i]?).getD .u := by
   unfold startE
   rw [List.getD_eq_getElem?_getD, List.getElem?_append]
   split
   ·rfl
   ·rename_i hi
    have h2 : (preV rc ++ as.map argV)[i]? = none := by rw [List.getElem?_eq_none_iff]; omega
    rw [h2, List.getElem?_replicate]
    split <;> rfl
  rw [hval, henv]
  by_cases hi : i < rv.length
  ·cases rc with
   | none => obtain ⟨rfl, -⟩ := hrc; simp at hi
   | some q =>
    obtain ⟨T, x⟩ := q
    obtain ⟨b, rfl, rfl, h1, h2, -⟩ := hrc
    have h0 : i = 0 := by simpa using hi
    subst h0
    exact .inl ⟨T, x, b, rfl, rfl, rfl, rfl, rfl, h1, h2⟩
  ·rw [List.getElem?_append, List.getElem?_append, hpre, if_neg hi, if_neg hi, List.getElem?_map]
   rcases has.at (i - rv.length) with ⟨h1, h2⟩ | ⟨c, v, h1, h2, h3⟩
   ·rw [h1]; exact .inr (.inr rfl)
   ·rw [h1, h2]
    exact .inr (.inl ⟨c, v, rfl, List.all_eq_true.1 hp c (List.mem_of_getElem? h1), rfl, h3⟩)
 have hblk : ∀ i b, b ∈ blks ((startE fn rc as).getD i .u) (((rv ++ vs).toArray ++ Array.replicate (fn.ntmps - (rv ++ vs).toArray.size) undef).getD i undef) → i = 0 ∧ pb = some b ∧ b < w.heap.size := by
  intro i b hb
  rcases hcase i with ⟨T, x, b', rfl, -, hpb, h1, h2, h3, -⟩ | ⟨c, v, h1, h2, h3, -⟩ | h1
  ·rw [h1, h2] at hb
   simp only [blks, blkOf, baseOf, List.mem_singleton] at hb
   subst hb
   exact ⟨rfl, hpb, lt_of_heap h3⟩
  ·rw [h1] at hb
   cases c <;> simp [blks, blksC, plainC] at hb h2
  ·rw [h1] at hb; simp [blks] at hb
 refine ⟨?_, fun i => ?_, fun i j hij b hi hj => ?_, fun i b hi => ?_, fun i => ?_, Keep.refl _ _ _, Nat.le_refl _⟩
 ·simp only [Array.size_append, List.size_toArray, List.length_append, Array.size_replicate, startE, List.length_map, List.length_replicate, hpre, hlen]
  omega
 ·rcases hcase i with ⟨T, x, b, -, -, -, h1, h2, h3, h4⟩ | ⟨c, v, h1, h2, h3, h4⟩ | h1
  ·rw [h1, h2]; exact ⟨b, rfl, h3, h4⟩
  ·rw [h1, h3]; exact h4
  ·rw [h1]; trivial
 ·obtain ⟨rfl, -, -⟩ := hblk i b hi
  obtain ⟨rfl, -, -⟩ := hblk j b hj
  exact hij rfl
 ·obtain ⟨-, h1, h2⟩ := hblk i b hi
  exact ⟨h2, .inr h1⟩
 ·rcases hcase i with ⟨T, x, b', rfl, -, hpb, h1, h2, h3, -⟩ | ⟨c, v, h1, h2, h3, -⟩ | h1
  ·rw [h1, h2]; simp [blks, blkOf, baseOf]
  ·rw [h1]; cases c <;> simp [blks, blksC, plainC] at h2 ⊢
  ·rw [h1]; simp [blks]
theorem callFunc_enter {g : Nat} {fn : Func} {c : Code} {args : Array Value} (hf : P.funcs[g]? = some fn) (hname : (fn.name == "runtime.NumGoroutine") = false) (hb : fn.body = some c) : (callFunc g args).run P w = .ok (.enter g args) w := by
 have h2 : ¬ fn.name = "runtime.NumGoroutine" := by simpa using hname
 simp [callFunc, hf, h2, hb]
theorem run_ok (S : Stays P G ng) (hC : ∀ key e t, Cut key e t = t e) (hΓ : ∀ g, FnOk P G ng Γ g) {g : Nat} {fn : Func} (hf : P.funcs[g]? = some fn) (hname : (fn.name == "runtime.NumGoroutine") = false) {k : Nat} {rc : Option (Nat × Xs)} {as : List C} {K : Out → Option Out} {r : Out} (hK : runK P Γ nn Lv Cut k fn rc as K = some r)
  {rv vs : List Value} (hG : G w) (hng : ng ≤ w.heap.size) (hrc : RecvRel P ng w rc rv pb) (has : RelL w.heap.size pb w as vs) (hp : as.all plainC = true) :
  CallOk P g (rv ++ vs).toArray w fun v w' => ∃ p, K p = some r ∧ RetRel P w w' rc pb p v := by
 unfold runK at hK
 split at hK
 ·rename_i c hb
  have hpbn : ∀ b, pb = some b → ng ≤ b := by
   intro b hpb
   cases rc with
   | none => obtain ⟨-, rfl⟩ := hrc; cases hpb
   | some q => obtain ⟨b', rfl, -, -, -, h⟩ := hrc; cases hpb; exact h
  have Cx : Ctx P G ng w.heap.size pb w Γ := ⟨hΓ, fun w' hk => S.stays w w' hG (fun b hb => hk.old b (by omega) (fun hpb => by have := hpbn b hpb; omega)) hk.os hk.tape hk.output hk.size, ⟨hng, hpbn⟩, S.mixed⟩
  have hst := start_sim (fn := fn) hrc has hp
  refine .inl ⟨callFunc_enter hf hname hb, ?_⟩
  have main : ∀ (z : Bool), (z = true → 0 ∉ dsts c) → (z = rc.isSome) → execK P Γ nn Lv Cut k c (startE fn rc as) (fin P fn (rc.map Prod.fst) K) = some r → c.wp P (bodyPost P fn fun | .returned v, w' => ∃ p, K p = some r ∧ RetRel P w w' rc pb p v | _, _ => False) { tmps := (rv ++ vs).toArray ++ Array.replicate (fn.ntmps - (rv ++ vs).toArray.size) undef, defers := [] } w := by
   intro z hz hzr hK
   refine (code_ok Cx hC (z := z) c hz).1 k _ _ r _ w _ hK hst fun x e' a' w' k1 k2 k3 => ?_
   have fin0 : ∀ l o, apartB (fn.results.toList.flatMap (outS e')) = true → outCs P e' fn.resultTypes.toList fn.results.toList = some l → K (l, o) = some r → BackRel w' rc o pb → (∀ b, pb = some b → ∀ s, isSl (e'.getD s .u) = true → b ∉ blks (e'.getD s .u) (a'.tmps.getD s undef)) →
     a'.defers = [] ∧ ∃ v, (results fn a'.tmps).run P w' = .ok v w' ∧ ∃ p, K p = some r ∧ RetRel P w w' rc pb p v := by
    intro l ob hap hl hKl hback hnb
    obtain ⟨vs', g1, g0, g2, g3, g4⟩ := outCs_rel k2 hl
    obtain ⟨o1, o2, o3⟩ := ofRes_rel (P := P) g0 g2
    refine ⟨k3.1, _, ?_, (l, ob), hKl, k2.keep, o1, fun b hb => ?_, o3 (g4 hap), hback⟩
    ·have hres : results fn a'.tmps = (do let vs ← fn.results.mapM (resF a'.tmps); pure (if h : vs.size = 1 then vs[0] else .tuple vs)) := rfl
     rw [hres, Array.mapM_eq_mapM_toList]
     simp only [map_eq_pure_bind, Sem.run_bind, g1, Result.andThen_ok, Sem.run_pure]
    ·obtain ⟨s, -, q1, q2⟩ := g3 b (o2 b hb)
     obtain ⟨q3, q4⟩ := k2.own s b q1
     refine ⟨?_, q3⟩
     rcases q4 with q4 | q4
     ·exact q4
     ·exact absurd q1 (hnb b q4 s q2)
   have both : (match apartB (fn.results.toList.flatMap (outS e')), outCs P e' fn.resultTypes.toList fn.results.toList, rc.map Prod.fst, e'.getD 0 .u with
     | true, some l, some T, .box T' x => (match T == T' with | true => K (l, some x) | false => none)
     | true, some l, none, _ => K (l, none)
     | _, _, _, _ => none) = some r → a'.defers = [] ∧ ∃ v, (results fn a'.tmps).run P w' = .ok v w' ∧ ∃ p, K p = some r ∧ RetRel P w w' rc pb p v := by
    intro hm
    split at hm
    ·rename_i l T T' y hap hl hT hbox
     split at hm
     ·rename_i hTT
      have hTT : T = T' := by simpa using hTT
      subst hTT
      cases rc with
      | none => cases hT
      | some q =>
       obtain ⟨T0, x0⟩ := q
       cases hT
       obtain ⟨b, rfl, rfl, h1, h2, -⟩ := hrc
       have hr := k2.rel 0
       rw [hbox] at hr
       obtain ⟨b', p1, p2, p3⟩ := hr
       have hpin := k3.2 (by rw [hzr]; rfl)
       have hb0 : a'.tmps.getD 0 undef = .pointer (some ⟨b, 0, none⟩) := by
        rw [hpin]
        show (([Value.pointer (some ⟨b, 0, none⟩)] ++ vs).toArray ++ _).getD 0 undef = _
        rw [Array.getD_eq_getD_getElem?, Array.getElem?_append, if_pos (by simp)]
        rfl
       rw [hb0] at p1
       cases p1
       refine fin0 l (some y) hap hl hm ⟨by dsimp only at p3 h2; omega, b, rfl, p2⟩ ?_
       intro b1 hb1 s hs hm'
       cases hb1
       have hs0 : (0 : Nat) ≠ s := by rintro rfl; rw [hbox] at hs; cases hs
       exact k2.dist 0 s hs0 b (by rw [hbox, hb0]; simp [blks, blkOf, baseOf]) hm'
     ·cases hm
    ·rename_i l hap hl hT
     cases rc with
     | none =>
      obtain ⟨rfl, rfl⟩ := hrc
      exact fin0 l none hap hl hm trivial (fun b hb => by cases hb)
     | some q => cases hT
    ·cases hm
   cases x with
   | normal => exact both k1
   | ret => exact both k1
   | _ => cases k1
  cases rc with
  | none => exact calls_of_wp hf hb (main false (fun h => by cases h) rfl hK)
  | some q =>
   dsimp only at hK
   split at hK
   ·cases hK
   ·rename_i hd
    exact calls_of_wp hf hb (main true (fun _ hm => by rw [List.contains_eq_mem] at hd; simp [hm] at hd) rfl hK)
 ·cases hK
theorem start_simO {fn : Func} {x : Xs} {as : List C} {v : Value} {vs : List Value} {b : Nat} (hor : OwnRel w x v) (hvb : ∀ k, k ∈ blkOf v → k = b) (hbl : b < w.heap.size) (has : RelL w.heap.size (some b) w as vs) (hp : as.all plainC = true) :
  Sim P w.heap.size (some b) w w (startE fn none (.own x :: as)) ((v :: vs).toArray ++ Array.replicate (fn.ntmps - (v :: vs).toArray.size) undef) := by
 have hlen := has.length
 have hcase : ∀ i, (i = 0 ∧ (startE fn none (.own x :: as)).getD i .u = .c (.own x) ∧ ((v :: vs).toArray ++ Array.replicate (fn.ntmps - (v :: vs).toArray.size) undef).getD i undef = v) ∨
   (∃ c u, (startE fn none (.own x :: as)).getD i .u = .c c ∧ plainC c = true ∧ ((v :: vs).toArray ++ Array.replicate (fn.ntmps - (v :: vs).toArray.size) undef).getD i undef = u ∧ RelC w.heap.size (some b) w c u) ∨ (startE fn none (.own x :: as)).getD i .u = .u := by
  intro i
  have hval : ((v :: vs).toArray ++ Array.replicate (fn.ntmps - (v :: vs).toArray.size) undef).getD i undef = ((v :: vs)[i]?).getD undef := by
   rw [Array.getD_eq_getD_getElem?, Array.getElem?_append]
   split
   ·rw [List.getElem?_toArray]
   ·rename_i hi
    have h2 : (v :: vs)[i]? = none := by rw [List.getElem?_eq_none_iff]; simpa using hi
    rw [h2, Array.getElem?_replicate]
    split <;> rfl
  have henv : (startE fn none (.own x :: as)).getD i .u = (((.own x :: as).map argV)[i]?).getD .u := by
   unfold startE
   rw [List.getD_eq_getElem?_getD, List.getElem?_append]
   split
   ·rfl
   ·rename_i hi
    have h2 : ((.own x :: as).map argV)[i]? = none := by rw [List.getElem?_eq_none_iff]; simpa [preV] using hi
    rw [h2, List.getElem?_replicate]
    split <;> rfl
  rw [hval, henv]
  cases i with
  | zero => exact .inl ⟨rfl, rfl, rfl⟩
  | succ i =>
   rw [List.map_cons, List.getElem?_cons_succ, List.getElem?_cons_succ, List.getElem?_map]
   rcases has.at i with ⟨h1, h2⟩ | ⟨c, u, h1, h2, h3⟩
   ·rw [h1]; exact .inr (.inr rfl)
   ·rw [h1, h2]
    exact .inr (.inl ⟨c, u, rfl, List.all_eq_true.1 hp c (List.mem_of_getElem? h1), rfl, h3⟩)
 have hblk : ∀ i k, k ∈ blks ((startE fn none (.own x :: as)).getD i .u) (((v :: vs).toArray ++ Array.replicate (fn.ntmps - (v :: vs).toArray.size) undef).getD i undef) → i = 0 ∧ k = b := by
  intro i k hk
  rcases hcase i with ⟨rfl, h1, h2⟩ | ⟨c, u, h1, h2, h3, -⟩ | h1
  ·rw [h1, h2] at hk
   exact ⟨rfl, hvb k hk⟩
  ·rw [h1] at hk
   cases c <;> simp [blks, blksC, plainC] at hk h2
  ·rw [h1] at hk; simp [blks] at hk
 refine ⟨?_, fun i => ?_, fun i j hij k hi hj => ?_, fun i k hi => ?_, fun i => ?_, Keep.refl _ _ _, Nat.le_refl _⟩
 ·simp only [Array.size_append, List.size_toArray, List.length_append, Array.size_replicate, startE, List.length_map, List.length_replicate, preV, List.length_cons, List.length_nil, hlen]
  omega
 ·rcases hcase i with ⟨rfl, h1, h2⟩ | ⟨c, u, h1, h2, h3, h4⟩ | h1
  ·rw [h1, h2]; exact hor
  ·rw [h1, h3]; exact h4
  ·rw [h1]; trivial
 ·obtain ⟨rfl, -⟩ := hblk i k hi
  obtain ⟨rfl, -⟩ := hblk j k hj
  exact hij rfl
 ·obtain ⟨-, rfl⟩ := hblk i k hi
  exact ⟨hbl, .inr rfl⟩
 ·rcases hcase i with ⟨rfl, h1, h2⟩ | ⟨c, u, h1, h2, h3, -⟩ | h1
  ·rw [h1, h2]; exact nodup_blkOf _
  ·rw [h1]; cases c <;> simp [blks, blksC, plainC] at h2 ⊢
  ·rw [h1]; simp [blks]
theorem run_okO (S : Stays P G ng) (hC : ∀ key e t, Cut key e t = t e) (hΓ : ∀ g, FnOk P G ng Γ g) {g : Nat} {fn : Func} (hf : P.funcs[g]? = some fn) (hname : (fn.name == "runtime.NumGoroutine") = false) {k : Nat} {x : Xs} {as : List C} {K : Out → Option Out} {r : Out} (hK : runK P Γ nn Lv Cut k fn none (.own x :: as) K = some r)
  {v : Value} {vs : List Value} {b : Nat} (hG : G w) (hng : ng ≤ w.heap.size) (hor : OwnRel w x v) (hvb : ∀ k, k ∈ blkOf v → k = b) (hbl : b < w.heap.size) (hnb : ng ≤ b) (has : RelL w.heap.size (some b) w as vs) (hp : as.all plainC = true) :
  CallOk P g (v :: vs).toArray w fun v' w' => ∃ p, K p = some r ∧ OwnRet P w w' x.len b p v' := by
 unfold runK at hK
 split at hK
 ·rename_i c hb
  dsimp only at hK
  have hpbn : ∀ k, (some b : Option Nat) = some k → ng ≤ k := by intro k hk; cases hk; exact hnb
  have Cx : Ctx P G ng w.heap.size (some b) w Γ := ⟨hΓ, fun w' hk => S.stays w w' hG (fun k hb => hk.old k (by omega) (fun hpb => by have := hpbn k hpb; omega)) hk.os hk.tape hk.output hk.size, ⟨hng, hpbn⟩, S.mixed⟩
  have hst := start_simO (P := P) (fn := fn) hor hvb hbl has hp
  refine .inl ⟨callFunc_enter hf hname hb, ?_⟩
  have main : c.wp P (bodyPost P fn fun | .returned v', w' => ∃ p, K p = some r ∧ OwnRet P w w' x.len b p v' | _, _ => False) { tmps := (v :: vs).toArray ++ Array.replicate (fn.ntmps - (v :: vs).toArray.size) undef, defers := [] } w := by
   refine (code_ok Cx hC (z := false) c (fun h => by cases h)).1 k _ _ r _ w _ hK hst fun ex e' a' w' k1 k2 k3 => ?_
   have fin0 : ∀ l, apartB (fn.results.toList.flatMap (outS e')) = true → outCs P e' fn.resultTypes.toList fn.results.toList = some l → K (l, none) = some r →
     a'.defers = [] ∧ ∃ v', (results fn a'.tmps).run P w' = .ok v' w' ∧ ∃ p, K p = some r ∧ OwnRet P w w' x.len b p v' := by
    intro l hap hl hKl
    obtain ⟨vs', g1, g0, g2, g3, g4⟩ := outCs_rel k2 hl
    obtain ⟨o1, o2, o3⟩ := ofRes_rel (P := P) g0 g2
    refine ⟨k3.1, _, ?_, (l, none), hKl, k2.keep, o1, fun k hk => ?_, o3 (g4 hap), trivial⟩
    ·have hres : results fn a'.tmps = (do let vs ← fn.results.mapM (resF a'.tmps); pure (if h : vs.size = 1 then vs[0] else .tuple vs)) := rfl
     rw [hres, Array.mapM_eq_mapM_toList]
     simp only [map_eq_pure_bind, Sem.run_bind, g1, Result.andThen_ok, Sem.run_pure]
    ·obtain ⟨s, -, q1, q2⟩ := g3 k (o2 k hk)
     obtain ⟨q3, q4⟩ := k2.own s k q1
     refine ⟨?_, q3⟩
     rcases q4 with q4 | q4
     ·exact .inr q4
     ·cases q4; exact .inl ⟨rfl, rfl⟩
   have both : (match apartB (fn.results.toList.flatMap (outS e')), outCs P e' fn.resultTypes.toList fn.results.toList, (none : Option Nat), e'.getD 0 .u with
     | true, some l, some T, .box T' x => (match T == T' with | true => K (l, some x) | false => none)
     | true, some l, none, _ => K (l, none)
     | _, _, _, _ => none) = some r → a'.defers = [] ∧ ∃ v', (results fn a'.tmps).run P w' = .ok v' w' ∧ ∃ p, K p = some r ∧ OwnRet P w w' x.len b p v' := by
    intro hm
    split at hm
    ·rename_i hT _; cases hT
    ·rename_i l hap hl _
     exact fin0 l hap hl hm
    ·cases hm
   cases ex with
   | normal => exact both k1
   | ret => exact both k1
   | _ => cases k1
  exact calls_of_wp hf hb main
 ·cases hK
end Go.Proofs.YtffmgholjdfcnaaGreatDoor.AM
namespace Go.Proofs.YtffmgholjdfcnaaGreatDoor.AM
open Go
abbrev Fn1 := Option (Nat × Xs) → List C → (Out → Option Out) → Option Out
def FnIs (P : Program) (G : World → Prop) (ng g : Nat) (A : Fn1) : Prop := ∀ rc cs K r, A rc cs K = some r → ∀ w rv pb vs, G w → ng ≤ w.heap.size → RecvRel P ng w rc rv pb → RelL w.heap.size pb w cs vs → cs.all plainC = true →
 CallOk P g (rv ++ vs).toArray w fun v w' => ∃ p, K p = some r ∧ RetRel P w w' rc pb p v
def lookP : List (Nat × Fn1) → Gam
 | [], _ => fun _ _ _ => none
 | (h, A) :: l, g => match Nat.beq h g with | true => A | false => lookP l g
def lookO (lo l : List (Nat × Fn1)) : Gam := fun g rc cs K => match cs with
 | .own x :: cs => lookP lo g rc (.own x :: cs) K
 | cs => lookP l g rc cs K
abbrev lookG (l : List (Nat × Fn1)) : Gam := lookO [] l
def OwnIs (P : Program) (G : World → Prop) (ng g : Nat) (A : Fn1) : Prop := ∀ x cs K r, A none (.own x :: cs) K = some r → ∀ w v b vs, G w → ng ≤ w.heap.size → OwnRel w x v → (∀ k, k ∈ blkOf v → k = b) → b < w.heap.size → ng ≤ b → RelL w.heap.size (some b) w cs vs → cs.all plainC = true →
 CallOk P g (v :: vs).toArray w fun v' w' => ∃ p, K p = some r ∧ OwnRet P w w' x.len b p v'
theorem lookP_ok {P : Program} {G : World → Prop} {ng : Nat} : ∀ {l : List (Nat × Fn1)}, (∀ p, p ∈ l → FnIs P G ng p.1 p.2) → ∀ g, FnIs P G ng g (lookP l g)
 | [], _, g => fun rc cs K r h => by cases h
 | (h, A) :: l, hl, g => by
  intro rc cs K r hK
  unfold lookP at hK
  cases hb : Nat.beq h g with
  | true =>
   rw [hb] at hK
   have : h = g := Nat.eq_of_beq_eq_true hb
   subst this
   exact hl (h, A) (by simp) rc cs K r hK
  | false =>
   rw [hb] at hK
   exact lookP_ok (fun p hp => hl p (by simp [hp])) g rc cs K r hK
theorem lookP_own {P : Program} {G : World → Prop} {ng : Nat} : ∀ {l : List (Nat × Fn1)}, (∀ p, p ∈ l → OwnIs P G ng p.1 p.2) → ∀ g, OwnIs P G ng g (lookP l g)
 | [], _, g => fun x cs K r h => by cases h
 | (h, A) :: l, hl, g => by
  intro x cs K r hK
  unfold lookP at hK
  cases hb : Nat.beq h g with
  | true =>
   rw [hb] at hK
   have : h = g := Nat.eq_of_beq_eq_true hb
   subst this
   exact hl (h, A) (by simp) x cs K r hK
  | false =>
   rw [hb] at hK
   exact lookP_own (fun p hp => hl p (by simp [hp])) g x cs K r hK
theorem lookO_ok {P : Program} {G : World → Prop} {ng : Nat} {lo l : List (Nat × Fn1)} (ho : ∀ p, p ∈ lo → OwnIs P G ng p.1 p.2) (hl : ∀ p, p ∈ l → FnIs P G ng p.1 p.2) (g : Nat) : FnOk P G ng (lookO lo l) g := by
 refine ⟨fun rc cs K r hK w rv pb vs hG hng hrc has hp => ?_, fun x cs K r hK => lookP_own ho g x cs K r hK⟩
 unfold lookO at hK
 split at hK
 ·simp [plainC] at hp
 ·exact lookP_ok hl g rc cs K r hK w rv pb vs hG hng hrc has hp
theorem spec_runO {P : Program} {G : World → Prop} {ng nn : Nat} {Lv : Nat → Option (List (Nat × Co))} {Cut : Nat → Env → (Env → Option Out) → Option Out} (hC : ∀ key e t, Cut key e t = t e) (S : Stays P G ng) {lo l : List (Nat × Fn1)} (ho : ∀ p, p ∈ lo → OwnIs P G ng p.1 p.2) (hl : ∀ p, p ∈ l → FnIs P G ng p.1 p.2) {g : Nat} {fn : Func} (hf : P.funcs[g]? = some fn) (hname : (fn.name == "runtime.NumGoroutine") = false) {k : Nat} {A : Fn1}
  (hA : ∀ rc cs K r, A rc cs K = some r → ∃ K', runK P (lookO lo l) nn Lv Cut k fn rc cs K' = some r ∧ ∀ p, K' p = some r → K p = some r) : FnIs P G ng g A := by
 intro rc cs K r h w rv pb vs hG hng hrc has hp
 obtain ⟨K', h1, h2⟩ := hA rc cs K r h
 have := run_ok S hC (lookO_ok ho hl) hf hname h1 hG hng hrc has hp
 rcases this with ⟨q1, q2⟩ | ⟨v, w', q1, p, q2, q3⟩
 ·refine .inl ⟨q1, Calls.mono q2 fun e w' he => ?_⟩
  cases e with
  | returned v => obtain ⟨p, q3, q4⟩ := he; exact ⟨p, h2 p q3, q4⟩
  | panicked c => exact he
  | outgrown => exact he
 ·exact .inr ⟨v, w', q1, p, h2 p q2, q3⟩
theorem spec_run {P : Program} {G : World → Prop} {ng nn : Nat} {Lv : Nat → Option (List (Nat × Co))} {Cut : Nat → Env → (Env → Option Out) → Option Out} (hC : ∀ key e t, Cut key e t = t e) (S : Stays P G ng) {l : List (Nat × Fn1)} (hl : ∀ p, p ∈ l → FnIs P G ng p.1 p.2) {g : Nat} {fn : Func} (hf : P.funcs[g]? = some fn) (hname : (fn.name == "runtime.NumGoroutine") = false) {k : Nat} {A : Fn1}
  (hA : ∀ rc cs K r, A rc cs K = some r → ∃ K', runK P (lookG l) nn Lv Cut k fn rc cs K' = some r ∧ ∀ p, K' p = some r → K p = some r) : FnIs P G ng g A :=
 spec_runO hC S (lo := []) (by intro p h; cases h) hl hf hname hA
theorem spec_own {P : Program} {G : World → Prop} {ng nn : Nat} {Lv : Nat → Option (List (Nat × Co))} {Cut : Nat → Env → (Env → Option Out) → Option Out} (hC : ∀ key e t, Cut key e t = t e) (S : Stays P G ng) {lo l : List (Nat × Fn1)} (ho : ∀ p, p ∈ lo → OwnIs P G ng p.1 p.2) (hl : ∀ p, p ∈ l → FnIs P G ng p.1 p.2) {g : Nat} {fn : Func} (hf : P.funcs[g]? = some fn) (hname : (fn.name == "runtime.NumGoroutine") = false) {k : Nat} {A : Fn1}
  (hA : ∀ rc cs K r, rc = none → (∃ x l, cs = .own x :: l) → A rc cs K = some r → ∃ K', runK P (lookO lo l) nn Lv Cut k fn rc cs K' = some r ∧ ∀ p, K' p = some r → K p = some r) : OwnIs P G ng g A := by
 intro x cs K r h w v b vs hG hng hor hvb hbl hnb has hp
 obtain ⟨K', h1, h2⟩ := hA none (.own x :: cs) K r rfl ⟨x, cs, rfl⟩ h
 have := run_okO S hC (lookO_ok ho hl) hf hname h1 hG hng hor hvb hbl hnb has hp
 rcases this with ⟨q1, q2⟩ | ⟨v', w', q1, p, q2, q3⟩
 ·refine .inl ⟨q1, Calls.mono q2 fun e w' he => ?_⟩
  cases e with
  | returned v' => obtain ⟨p, q3, q4⟩ := he; exact ⟨p, h2 p q3, q4⟩
  | panicked c => exact he
  | outgrown => exact he
 ·exact .inr ⟨v', w', q1, p, h2 p q2, q3⟩
def cut0 : Nat → Env → (Env → Option Out) → Option Out := fun _ e t => t e
theorem cut0_eq (key : Nat) (e : Env) (t : Env → Option Out) : cut0 key e t = t e := rfl
def big : Nat := 2 ^ 70
def nrm : List (Option C) → List C → List C
 | some d :: ks, .s .nils :: cs => d :: nrm ks cs
 | _ :: ks, c :: cs => c :: nrm ks cs
 | _, cs => cs
def emptyRo : C → Bool
 | .ro x => x.len == 0
 | _ => false
theorem nrm_plain : ∀ (ks : List (Option C)) (cs : List C), (∀ d, some d ∈ ks → emptyRo d = true) → cs.all plainC = true → (nrm ks cs).all plainC = true
 | [], cs, _, h => by cases cs <;> exact h
 | k :: ks, [], _, _ => by cases k <;> rfl
 | k :: ks, c :: cs, hd, h => by
  rw [List.all_cons, Bool.and_eq_true] at h
  have ih := nrm_plain ks cs (fun d hm => hd d (by simp [hm])) h.2
  unfold nrm
  split
  ·rename_i d ks' cs' e1 e2
   cases e1; cases e2
   have := hd d (by simp)
   rw [List.all_cons, Bool.and_eq_true]
   refine ⟨?_, ih⟩
   unfold emptyRo at this
   split at this
   ·rfl
   ·cases this
  ·rename_i e1 e2
   cases e1; cases e2
   rw [List.all_cons, Bool.and_eq_true]
   exact ⟨h.1, ih⟩
  ·exact (by rw [List.all_cons, Bool.and_eq_true]; exact h)
theorem nrm_rel {base : Nat} {pb : Option Nat} {w : World} : ∀ (ks : List (Option C)) (cs : List C) (vs : List Value), (∀ d, some d ∈ ks → emptyRo d = true) → RelL base pb w cs vs → RelL base pb w (nrm ks cs) vs
 | [], cs, _, _, h => by cases cs <;> exact h
 | k :: ks, [], _, _, h => by cases k <;> exact h
 | k :: ks, c :: cs, _, hd, .cons h1 h2 => by
  have ih := nrm_rel ks cs _ (fun d hm => hd d (by simp [hm])) h2
  unfold nrm
  split
  ·rename_i d ks' cs' e1 e2
   cases e1; cases e2
   have := hd d (by simp)
   refine .cons ?_ ih
   unfold emptyRo at this
   split at this
   ·rename_i x
    have hx : x.len = 0 := by simpa using this
    have h1 : _ = Value.slice none 0 0 := h1
    refine ⟨none, 0, by rw [h1, hx], by omega, fun i hi => by omega⟩
   ·cases this
  ·rename_i e1 e2
   cases e1; cases e2
   exact .cons h1 ih
  ·exact .cons h1 h2
theorem FnIs.norm {P : Program} {G : World → Prop} {ng g : Nat} {A : Fn1} (h : FnIs P G ng g A) {ks : List (Option C)} (hd : (ks.all fun k => match k with | some d => emptyRo d | none => true) = true) : FnIs P G ng g (fun rc cs K => A rc (nrm ks cs) K) := by
 have hd' : ∀ d, some d ∈ ks → emptyRo d = true := fun d hm => by have := List.all_eq_true.1 hd (some d) hm; exact this
 intro rc cs K r hA w rv pb vs hG hng hrc has hp
 exact h rc (nrm ks cs) K r hA w rv pb vs hG hng hrc (nrm_rel ks cs vs hd' has) (nrm_plain ks cs hd' hp)
def us (n : Nat) : Env := List.replicate n .u
abbrev BY := List UInt8
end Go.Proofs.YtffmgholjdfcnaaGreatDoor.AM
namespace Go.Proofs.YtffmgholjdfcnaaGreatDoor.AM
open Go Go.RowKit
theorem callOk_of {P : Program} {g : Nat} {args : Array Value} {w : World} {v : Value} {R : Value → World → Prop} (hb : (callFunc g args).run P w = .ok (.enter g args) w)
  (h : Calls P g args w fun e w' => e = .returned v ∧ Ext w w') (hR : ∀ w', Ext w w' → R v w') : CallOk P g args w R := by
 refine .inl ⟨hb, Calls.mono h fun e w' he => ?_⟩
 obtain ⟨rfl, hE⟩ := he
 exact hR w' hE
theorem ret1 {P : Program} {w w' : World} {pb : Option Nat} (hE : Ext w w') {c : C} {v : Value} (hc : ∀ base pb, RelC base pb w' c v) (hb : blksC c v = []) (hpb : pb = none) : RetRel P w w' none pb ([c], none) v := by
 subst hpb
 refine ⟨hE, fun base pb e tm => hc base pb, ?_, ?_, trivial⟩
 ·intro b hm
  have : blks (ofRes [c]) v = [] := hb
  rw [this] at hm; cases hm
 ·have : blks (ofRes [c]) v = [] := hb
  rw [this]; simp
theorem ext_below {w w' : World} (h : Below w.heap.size w w') : Ext w w' := ⟨h.os, h.tape, h.output, h.size, fun b hb _ => h.block b hb⟩
theorem ext_grow {w : World} {k : Nat} {os : Array Obj} : Ext w (Go.Sort.grow (w.drewN k) os) :=
 ⟨rfl, rfl, rfl, by simp [Go.Sort.grow, World.drewN], fun b hb _ => by simp only [Go.Sort.grow, World.drewN]; rw [Array.getElem?_append, if_pos hb]⟩
theorem relL_plain {base : Nat} {pb : Option Nat} {w : World} : ∀ {ss : List S} {vs : List Value}, RelL base pb w (ss.map C.s) vs → vs = ss.map S.enc
 | [], _, h => by cases h; rfl
 | s :: ss, _, h => by
  cases h with
  | cons h1 h2 => rw [List.map_cons, relL_plain h2]; congr 1
theorem fnIs_lib {P : Program} {G : World → Prop} {ng g : Nat} {fn : Func} {c : Code} (hf : P.funcs[g]? = some fn) (hname : (fn.name == "runtime.NumGoroutine") = false) (hb : fn.body = some c) {A : Fn1}
  (h : ∀ rc cs K r, A rc cs K = some r → rc = none ∧ ∃ ss : List S, cs = ss.map C.s ∧ ∃ s : S, K ([.s s], none) = some r ∧
   ∀ w, G w → Calls P g (ss.map S.enc).toArray w fun e w' => e = .returned s.enc ∧ Ext w w') : FnIs P G ng g A := by
 intro rc cs K r hA w rv pb vs hG hng hrc has hp
 obtain ⟨rfl, ss, rfl, s, hK, hC⟩ := h rc cs K r hA
 obtain ⟨rfl, rfl⟩ := hrc
 have := relL_plain has
 subst this
 refine callOk_of (callFunc_enter hf hname hb) (by simpa using hC w hG) fun w' hE => ⟨_, hK, ?_⟩
 exact ret1 hE (fun base pb => by cases s <;> rfl) (by cases s <;> rfl) rfl
theorem Ext.below {w w' : World} (h : Ext w w') : Below w.heap.size w w' := ⟨h.os, h.tape, h.output, h.size, fun _ hb => h.at hb⟩
theorem calls_law {P : Program} {G : World → Prop} {ng g : Nat} {A : Fn1} (hF : FnIs P G ng g A) {fn : Func} {c : Code} (hf : P.funcs[g]? = some fn) (hname : (fn.name == "runtime.NumGoroutine") = false) (hb : fn.body = some c)
  {cs : List C} (hA : A none cs some = some ([.s (.bool true)], none)) {w : World} {vs : List Value} (hG : G w) (hng : ng ≤ w.heap.size) (hr : RelL w.heap.size none w cs vs) (hp : cs.all plainC = true) :
  Calls P g vs.toArray w fun e w' => e = .returned (.bool true) ∧ Below w.heap.size w w' := by
 have h := hF none cs some _ hA w [] none vs hG hng ⟨rfl, rfl⟩ hr hp
 rcases h with ⟨-, q2⟩ | ⟨v, w', q1, -⟩
 ·refine Calls.mono (show Calls P g vs.toArray w _ from q2) fun e w' he => ?_
  cases e with
  | returned v =>
   obtain ⟨p, hp, hret⟩ := he
   cases hp
   have h1 := hret.1
   have h3 : v = .bool true := hret.2.1 0 none [] #[]
   exact ⟨by rw [h3], Ext.below h1⟩
  | panicked c => exact he.elim
  | outgrown => exact he.elim
 ·have h2 := callFunc_enter (w := w) (args := vs.toArray) hf hname hb
  have q1' : (callFunc g vs.toArray).run P w = .ok (.value v) w' := q1
  rw [h2] at q1'
  cases q1'
end Go.Proofs.YtffmgholjdfcnaaGreatDoor.AM
