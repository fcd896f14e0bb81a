/- Each operation of the interpreter is the machine's: memory that is made and written, on. -/
import Derived.Test.YtnfjggagenmkjaaDoorAmI
import Derived.Laws.Tables
set_option linter.unusedSimpArgs false
namespace Go.Proofs.YtnfjggagenmkjaaDoor.AM
open Go

variable {P : Program} {base : Nat} {pb : Option Nat} {w0 w w' : World} {e : Env} {a : Act}
variable {K : Env → Option Out} {r : Out} {next : Act → World → Prop} {Q : Exit → Act → World → Prop} {o : Oper}

theorem fin_build {t : Nat} {parts : Array (Nat × Operand)} (ho : o.op = .build t parts) {x : Xs} (hb : P.built t (parts.toList.map fun (i, o) => (i, a.eval o)) = some x.enc.toArray)
    (hK : K (putO e o.dst (.c (.agg x))) = some r) : Pure1 P base pb w e a K r o := by
  refine pureA hK (v := .agg x.enc.toArray) (fun w' hw => ?_) rfl rfl
  simp only [execOp, ho]
  refine run_v ?_
  exact run_build w' t _ _ (by simpa using hb)
theorem op_buildS (h : Sim P base pb w0 w e a.tmps) {t : Nat} {parts : Array (Nat × Operand)} (ho : o.op = .build t parts) {fs : Array Field} (ht : P.underlying t = some (.struct fs)) {z x : Xs} (hz : zeroXs P t = some z)
    {places : List (Nat × Nat)} (hp : fs.toList.mapM (fun f => (P.info? f.type).map fun i => (f.offset, i.size)) = some places) (hx : buildX e (fun i => places[i]?) z parts.toList = some x) (hK : K (putO e o.dst (.c (.agg x))) = some r) : Pure1 P base pb w e a K r o := by
  obtain ⟨i, zv, h1, h2, h3, -⟩ := zeroXs_some hz
  have hf := (buildX_fill h (place' := fun i => places[i]?) (fun _ _ q => q) hx).1
  refine fin_build ho ?_ hK
  have hz' : zv.cells = z.enc.toArray := by rw [← h3]
  unfold Program.built
  simp only [h1, ht, h2, hp, hz', List.getElem?_toArray]
  exact hf
theorem op_buildA (h : Sim P base pb w0 w e a.tmps) {t : Nat} {parts : Array (Nat × Operand)} (ho : o.op = .build t parts) {m el : Nat} (ht : P.underlying t = some (.array m el)) {z x : Xs} (hz : zeroXs P t = some z)
    {ie : TypeInfo} (hp : P.info? el = some ie) (hx : buildX e (fun i => some (i * ie.size, ie.size)) z parts.toList = some x) (hK : K (putO e o.dst (.c (.agg x))) = some r) : Pure1 P base pb w e a K r o := by
  obtain ⟨i, zv, h1, h2, h3, -⟩ := zeroXs_some hz
  have hf := (buildX_fill h (place' := fun i => some (i * ie.size, ie.size)) (fun _ _ q => q) hx).1
  refine fin_build ho ?_ hK
  have hz' : zv.cells = z.enc.toArray := by rw [← h3]
  unfold Program.built
  simp only [h1, ht, h2, hp, hz']
  exact hf

/-- An element type of one plain cell, and its zero. -/
theorem elemZ_some {t el : Nat} {z : S} (h : elemZ P t = some (el, z)) : P.underlying t = some (.slice el) ∧ cell1 P el = true ∧ ∃ i, P.info? el = some i ∧ i.size = 1 ∧ i.bytes ≤ 16 ∧ i.zero = some z.enc ∧ z.enc.cells = #[z.enc] := by
  unfold elemZ at h
  split at h
  · rename_i el' hu
    split at h
    · rename_i k i hk hi
      split at h
      · rename_i hs
        split at h
        · rename_i k' hz
          split at h
          · rename_i hkk; subst hkk
            cases h
            exact ⟨hu, by simp [cell1, hk, hi, plainDesc, hs.1], i, hi, hs.1, hs.2, hz, rfl⟩
          · cases h
        · cases h
      · cases h
    · rename_i i hk hi
      split at h
      · rename_i hs
        split at h
        · rename_i hz
          cases h
          exact ⟨hu, by simp [cell1, hk, hi, plainDesc, hs.1], i, hi, hs.1, hs.2, hz, rfl⟩
        · cases h
      · cases h
    · cases h
  · cases h
theorem xsOf_enc (z : S) (n : Nat) : (xsOf z n).enc = List.replicate n z.enc := by cases z <;> simp [xsOf, Xs.enc, Xs.toS]
theorem xsOf_len (z : S) (n : Nat) : (xsOf z n).len = n := by cases z <;> simp [xsOf, Xs.len]
theorem own_new {w : World} {x : Xs} {t : Nat} : OwnRel (w.alloc (.cells x.enc.toArray t)) x (.slice (some ⟨w.heap.size, 0, none⟩) x.len x.len) :=
  .inr ⟨_, _, t, _, (0, 0), rfl, heap_alloc_new _ _, Nat.le_refl _, by simp [Xs.len_enc], by intro i _; simp, by intro i _; simp⟩
theorem map_range0 (f : Nat → Value) : (Array.range 0).map f = #[] := by apply Array.ext <;> simp
theorem range_const (n : Nat) (zs : Array Value) (z : Value) (hz : zs = #[z]) : ((Array.range n).map (zs[· % zs.size]!)) = (List.replicate n z).toArray := by
  subst hz
  apply Array.ext
  · simp
  · intro i h1 h2
    simp [Nat.mod_one]
theorem op_buildSlice (h : Sim P base pb w0 w e a.tmps) (hn : Nx P base pb w0 w e a o K r next) {t n : Nat} {parts : Array (Nat × Operand)} (ho : o.op = .buildSlice t n parts) {el : Nat} {z : S} (hz : elemZ P t = some (el, z)) (hnn : n ≤ 65536) {x : Xs}
    (hx : buildX e (fun i => some (i, 1)) (xsOf z n) parts.toList = some x) (hK : K (putO e o.dst (.c (.own x))) = some r) : o.wp P a w next Q := by
  obtain ⟨h1, h2, i, h3, h4, h5, h6, h7⟩ := elemZ_some hz
  obtain ⟨g1, g2⟩ := buildX_fill h (place' := fun i => some (i * 1, 1)) (fun i q hq => by simpa using hq) hx
  rw [xsOf_len] at g2
  rw [xsOf_enc] at g1
  refine finNew h hn (ob := .cells x.enc.toArray el) hK (v := .slice (some ⟨w.heap.size, 0, none⟩) n n) ?_ (fun _ => rfl) ?_ (.inl rfl)
  · simp only [execOp, ho]
    refine run_v ?_
    have hsz := run_sizeOf1 h2 w
    simp only [Instr.buildSlice, Sem.run_bind, run_underlying h1, Result.andThen_ok, hsz, Nat.mul_one, Sem.run_ite]
    rw [if_neg (by omega)]
    simp only [Sem.run_pure, Result.andThen_ok]
    by_cases hn0 : n = 0
    · subst hn0
      rw [if_pos rfl]
      simp only [Result.andThen_ok, map_range0, Array.toList_map]
      have g1' : Instr.fill (fun i => some (i * 1, 1)) #[] (parts.toList.map fun x => (x.1, a.eval x.2)) = some x.enc.toArray := g1
      simp only [Nat.mul_one] at g1'
      rw [g1']
      simp only [Sem.run_bind, run_newRow, Result.andThen_ok, Sem.run_pure]
    · rw [if_neg hn0]
      simp only [Sem.run_bind, run_zero h3 h6, Result.andThen_ok, Sem.run_pure]
      rw [range_const n z.enc.cells z.enc h7]
      simp only [Array.toList_map, Nat.mul_one] at g1 ⊢
      rw [g1]
      simp only [Sem.run_bind, run_newRow, Result.andThen_ok, Sem.run_pure]
  · show OwnRel _ _ _
    have := own_new (w := w) (x := x) (t := el)
    rw [g2] at this
    exact this
theorem askRoom_run {n : Nat} (h : n ≤ roomBytes) : (askRoom n).run P w = .ok () w := by unfold askRoom; rw [if_neg (by omega)]; rfl
theorem op_makeSlice (h : Sim P base pb w0 w e a.tmps) (hn : Nx P base pb w0 w e a o K r next) {t : Nat} {l c : Operand} (ho : o.op = .makeSlice t l c) {el : Nat} {z : S} (hz : elemZ P t = some (el, z)) {k k' : IntKind} {n m : Int} (hl : ev e l = .c (.s (.int k n))) (hc : ev e c = .c (.s (.int k' m)))
    (hK : (bif decide (0 ≤ n) && decide (n ≤ m) && decide (m ≤ 1099511627776) then K (putO e o.dst (.c (.own (xsOf z n.toNat)))) else none) = some r) : o.wp P a w next Q := by
  cases hd : (decide (0 ≤ n) && decide (n ≤ m) && decide (m ≤ 1099511627776))
  · rw [hd] at hK; cases hK
  · rw [hd] at hK
    simp only [Bool.and_eq_true, decide_eq_true_eq] at hd
    obtain ⟨⟨hd1, hd2⟩, hd3⟩ := hd
    obtain ⟨h1, h2, i, h3, h4, h5, h6, h7⟩ := elemZ_some hz
    have wn : IntKind.i64.wrap n = n := by simp [IntKind.wrap, IntKind.bits, IntKind.signed]; omega
    have wm : IntKind.i64.wrap m = m := by simp [IntKind.wrap, IntKind.bits, IntKind.signed]; omega
    have hby : (i.bytes : Int) * m ≤ 16 * 1099511627776 := Int.mul_le_mul (by omega) hd3 (by omega) (by omega)
    have hbn : m.toNat * i.bytes ≤ roomBytes := by
      have : m.toNat * i.bytes ≤ 1099511627776 * 16 := Nat.mul_le_mul (by omega) h5
      unfold roomBytes; omega
    refine finNew h hn (ob := .cells (List.replicate m.toNat z.enc).toArray el) hK (v := .slice (some ⟨w.heap.size, 0, none⟩) n.toNat m.toNat) ?_ (fun _ => rfl) ?_ (.inl rfl)
    · simp only [execOp, ho]
      refine run_v ?_
      rw [ev_s h hl, ev_s h hc]
      show (Instr.makeSlice t (.int k n) (.int k' m)).run P w = _
      simp only [Instr.makeSlice, Sem.run_bind, run_underlying h1, Result.andThen_ok, asInt, asIntOf, Sem.run_pure, typeInfo, run_program, h3, wn, wm, Sem.run_ite]
      have ht : (decide (m < 0) || decide ((i.bytes : Int) * m > 2 ^ 48)) = false := by simp; omega
      rw [ht]
      have ht2 : (false || decide (n < 0) || decide (n > m)) = false := by simp; omega
      rw [ht2]
      simp only [Bool.false_eq_true, if_false, Sem.run_pure, Result.andThen_ok, askRoom_run hbn, run_sizeOf1 h2, Nat.mul_one]
      by_cases hm0 : m.toNat = 0
      · rw [if_pos hm0]
        simp only [Sem.run_pure, Result.andThen_ok, hm0, run_newRow, Sem.run_bind, List.replicate_zero, map_range0]
      · rw [if_neg hm0]
        simp only [Sem.run_bind, run_zero h3 h6, Result.andThen_ok, Sem.run_pure, range_const m.toNat z.enc.cells z.enc h7, run_newRow]
    · refine .inr ⟨_, m.toNat, el, _, (0, 0), ?_, heap_alloc_new _ _, ?_, ?_, ?_, ?_⟩
      · rw [xsOf_len]
      · rw [xsOf_len]; omega
      · simp
      · intro i _; simp
      · intro j hj
        rw [xsOf_len] at hj
        rw [xsOf_enc]
        rw [List.getElem?_toArray, List.getElem?_replicate, List.getElem?_replicate, if_pos (by omega), if_pos hj]
end Go.Proofs.YtnfjggagenmkjaaDoor.AM
