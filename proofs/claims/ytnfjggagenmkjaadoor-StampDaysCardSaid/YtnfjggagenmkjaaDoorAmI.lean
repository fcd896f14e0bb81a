/- Each operation of the interpreter is the machine's: memory that is made and written. -/
import Derived.Test.YtnfjggagenmkjaaDoorAmH
set_option linter.unusedSimpArgs false
namespace Go.Proofs.YtnfjggagenmkjaaDoor.AM
open Go

variable {P : Program} {base : Nat} {pb : Option Nat} {w0 w w' : World} {e : Env} {a : Act}
variable {K : Env → Option Out} {r : Out} {next : Act → World → Prop} {Q : Exit → Act → World → Prop} {o : Oper}

theorem eqV_eq {v : Value} {s : S} (h : eqV v s = true) : v = s.enc := by
  unfold eqV at h
  split at h
  · simp only [Bool.and_eq_true, beq_iff_eq] at h; rw [h.1, h.2]; rfl
  · simp only [beq_iff_eq] at h; rw [h]; rfl
  · rename_i b l
    simp only [beq_iff_eq] at h; subst h; rfl
  · rfl
  · cases h
theorem eqVs_eq : ∀ {l : List Value} {q : List S}, eqVs l q = true → l = q.map S.enc
  | [], [], _ => rfl
  | v :: l, s :: q, h => by
    simp only [eqVs, Bool.and_eq_true] at h
    rw [eqV_eq h.1, eqVs_eq h.2]; rfl
  | [], _ :: _, h => by simp [eqVs] at h
  | _ :: _, [], h => by simp [eqVs] at h
theorem zeroXs_some {t : Nat} {x : Xs} (h : zeroXs P t = some x) : ∃ i z, P.info? t = some i ∧ i.zero = some z ∧ z.cells.toList = x.enc ∧ P.cellsOf t = x.len := by
  unfold zeroXs at h
  split at h
  · rename_i i hi
    split at h
    · rename_i z hz
      dsimp only at h
      split at h
      · rename_i hc
        simp only [Option.some.injEq] at h
        simp only [Bool.and_eq_true, beq_iff_eq] at hc
        rw [h] at hc
        refine ⟨i, z, hi, hz, eqVs_eq hc.1.1, ?_⟩
        simp [Program.cellsOf, hi, hc.1.2]
      · cases h
    · cases h
  · cases h
theorem heap_alloc_new (w : World) (ob : Obj) : (w.alloc ob).heap[w.heap.size]? = some ob := by
  show (w.heap.push ob)[w.heap.size]? = some ob
  simp
theorem heap_alloc_old (w : World) (ob : Obj) (b : Nat) (h : b < w.heap.size) : (w.alloc ob).heap[b]? = w.heap[b]? := by
  show (w.heap.push ob)[b]? = w.heap[b]?
  rw [Array.getElem?_push, if_neg (by omega)]
theorem keep_alloc (w : World) (ob : Obj) (hb : base ≤ w.heap.size) : Keep base pb w (w.alloc ob) :=
  ⟨rfl, rfl, rfl, by simp, fun b h _ => heap_alloc_old w ob b (by omega)⟩
theorem ext_alloc (w : World) (ob : Obj) : Ext w (w.alloc ob) := keep_alloc w ob (Nat.le_refl _)
/-- The end of an operation that makes a block of cells. -/
theorem finNew (h : Sim P base pb w0 w e a.tmps) (hn : Nx P base pb w0 w e a o K r next) {ob : Obj} {x : V} {v : Value} (hK : K (putO e o.dst x) = some r)
    (hrun : (execOp a.eval o).run P w = .ok (.value v) (w.alloc ob)) (hx : ∀ s, aliasOf s x = false) (hr : RelV P base pb (w.alloc ob) e a.tmps x v) (hb : blks x v = [w.heap.size] ∨ blks x v = []) : o.wp P a w next Q := by
  refine wp_val hrun (hn _ _ _ hK (h.putNew a rfl o.dst x v (keep_alloc w ob h.low) (fun b hb => heap_alloc_old w ob b hb) hx hr ?_ ?_) (put_keeps _ _ _) fun _ => ext_alloc w ob)
  · intro b hm
    rcases hb with hb | hb <;> rw [hb] at hm
    · simp only [List.mem_singleton] at hm; subst hm; simp
    · cases hm
  · rcases hb with hb | hb <;> rw [hb] <;> simp
theorem run_newRow (t : TypeId) (cs : Array Value) : (newRow t cs).run P w = .ok ⟨w.heap.size, 0, none⟩ (w.alloc (.cells cs t)) := by
  simp [newRow, newObj, Sem.run]
theorem run_zero {t : Nat} {i : TypeInfo} {z : Value} (h1 : P.info? t = some i) (h2 : i.zero = some z) : (zeroValue t).run P w = .ok z w := by simp [zeroValue, typeInfo, h1, h2]
theorem op_alloc (h : Sim P base pb w0 w e a.tmps) (hn : Nx P base pb w0 w e a o K r next) {t : Nat} (ho : o.op = .alloc t) {x : Xs} (hx : zeroXs P t = some x) (hK : K (putO e o.dst (.box t x)) = some r) : o.wp P a w next Q := by
  obtain ⟨i, z, h1, h2, h3, h4⟩ := zeroXs_some hx
  refine finNew h hn (ob := .cells z.cells t) hK (v := .pointer (some ⟨w.heap.size, 0, none⟩)) ?_ (fun _ => rfl) ⟨_, rfl, ?_, h4⟩ (.inl rfl)
  · simp only [execOp, ho]
    refine run_v ?_
    simp only [Instr.alloc, Sem.run_bind, run_zero h1 h2, Result.andThen_ok, newVar, run_newRow, Sem.run_pure]
  · rw [heap_alloc_new, ← h3]
theorem op_box (h : Sim P base pb w0 w e a.tmps) (hn : Nx P base pb w0 w e a o K r next) {t : Nat} {x : Operand} (ho : o.op = .box t x) {y : Xs} (hx : ev e x = .c (.agg y) ∨ ∃ s, y = .ss [s] ∧ ev e x = .c (.s s)) (hl : P.cellsOf t = y.len) (hK : K (putO e o.dst (.box t y)) = some r) : o.wp P a w next Q := by
  have hv : (a.eval x).cells = y.enc.toArray := by
    rcases hx with hx | ⟨s, rfl, hx⟩
    · rw [ev_agg h hx]; rfl
    · rw [ev_s h hx]; cases s <;> rfl
  refine finNew h hn (ob := .cells y.enc.toArray t) hK (v := .pointer (some ⟨w.heap.size, 0, none⟩)) ?_ (fun _ => rfl) ⟨_, rfl, heap_alloc_new _ _, hl⟩ (.inl rfl)
  simp only [execOp, ho]
  refine run_v ?_
  simp only [Instr.box, newVar, Sem.run_bind, run_newRow, Result.andThen_ok, Sem.run_pure, hv]

/-- Cells laid into a row, one by one. -/
def layA (cs : Array Value) (k : Nat) : List Value → Array Value
  | [] => cs
  | v :: vs => layA (cs.setIfInBounds k v) (k + 1) vs
theorem layA_size (vs : List Value) : ∀ cs k, (layA cs k vs).size = cs.size := by
  induction vs with
  | nil => intro cs k; rfl
  | cons v vs ih => intro cs k; rw [layA, ih]; simp
theorem Xs.set_some {x y : Xs} {i : Nat} {s : S} (h : x.set i s = some y) : y.toS = x.toS.set i s ∧ y.len = x.len := by
  unfold Xs.set at h
  split at h
  · split at h
    · rename_i hk; subst hk; cases h; simp [Xs.toS, Xs.len, List.map_set]
    · cases h
  · cases h; simp [Xs.toS, Xs.len, List.map_set]
  · cases h; simp [Xs.toS, Xs.len]
  · cases h
theorem Xs.lay_some : ∀ {l : List S} {x y : Xs} {i : Nat}, x.lay i l = some y → y.enc.toArray = layA x.enc.toArray i (l.map S.enc) ∧ y.len = x.len
  | [], x, y, i, h => by simp only [Xs.lay, Option.some.injEq] at h; subst h; exact ⟨rfl, rfl⟩
  | s :: l, x, y, i, h => by
    simp only [Xs.lay] at h
    obtain ⟨z, h1, h2⟩ := bind_some h
    obtain ⟨g1, g2⟩ := Xs.set_some h1
    obtain ⟨k1, k2⟩ := Xs.lay_some h2
    refine ⟨?_, k2.trans g2⟩
    rw [k1, List.map_cons, layA]
    congr 1
    simp [Xs.enc, g1, List.map_set]
theorem fill_step (cs : Array Value) (off : Nat) : ∀ (vs : List Value) (j : Nat), ((vs.zipIdx j).foldl (fun cs (c, j) => cs.setIfInBounds (off + j) c) cs) = layA cs (off + j) vs := by
  intro vs
  induction vs generalizing cs with
  | nil => intro j; rfl
  | cons v vs ih => intro j; rw [List.zipIdx_cons, List.foldl_cons, ih, layA]; rfl
theorem cellsOf_val (h : Sim P base pb w0 w e a.tmps) {x : Operand} {c : C} {l : List S} (hx : ev e x = .c c) (hl : cellsOf c = some l) : (a.eval x).cells = (l.map S.enc).toArray := by
  cases c with
  | s s => cases hl; rw [ev_s h hx]; cases s <;> rfl
  | agg y => cases hl; rw [ev_agg h hx]; rfl
  | u => cases hl
  | own y => cases hl
  | ro y => cases hl
theorem buildX_fill (h : Sim P base pb w0 w e a.tmps) {place place' : Nat → Option (Nat × Nat)} (hp : ∀ i q, place i = some q → place' i = some q) : ∀ {l : List (Nat × Operand)} {x y : Xs}, buildX e place x l = some y →
    Instr.fill place' x.enc.toArray (l.map fun (i, o) => (i, a.eval o)) = some y.enc.toArray ∧ y.len = x.len
  | [], x, y, hb => by simp only [buildX, Option.some.injEq] at hb; subst hb; exact ⟨rfl, rfl⟩
  | (i, op) :: l, x, y, hb => by
    simp only [buildX] at hb
    split at hb
    · rename_i off n c h1 h2
      split at hb
      · rename_i cs hc
        split at hb
        · rename_i hsz
          split at hb
          · rename_i z hz
            simp only [Bool.and_eq_true, beq_iff_eq, Nat.ble_eq] at hsz
            obtain ⟨k1, k2⟩ := Xs.lay_some hz
            obtain ⟨g1, g2⟩ := buildX_fill h hp hb
            refine ⟨?_, g2.trans k2⟩
            have hcv := cellsOf_val h h2 hc
            simp only [List.map_cons, Instr.fill, hp i _ h1, hcv]
            rw [if_neg (by simp [hsz.1, Xs.len_toS, Xs.enc] at hsz ⊢; omega)]
            have hf := fill_step x.enc.toArray off (cs.map S.enc) 0
            rw [Nat.add_zero] at hf
            rw [← Array.foldl_toList]
            simp only [Array.toList_zipIdx, List.toList_toArray]
            rw [hf, ← k1]
            exact g1
          · cases hb
        · cases hb
      · cases hb
    · cases hb
end Go.Proofs.YtnfjggagenmkjaaDoor.AM
