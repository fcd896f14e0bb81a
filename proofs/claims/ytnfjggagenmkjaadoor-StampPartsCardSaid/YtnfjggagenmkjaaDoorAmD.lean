/- Steps of the relation: a slot is set, memory is made, memory is written. -/
import Derived.Test.YtnfjggagenmkjaaDoorAmC
namespace Go.Proofs.YtnfjggagenmkjaaDoor.AM
open Go

theorem getD_set (e : Env) (d i : Nat) (v : V) : (e.set d v).getD i .u = if d = i then (if d < e.length then v else .u) else e.getD i .u := by
  simp only [List.getD_eq_getElem?_getD, List.getElem?_set]
  by_cases h : d = i
  · subst h; by_cases k : d < e.length <;> simp [k]
  · simp [h]
theorem getD_setA (tm : Array Value) (d i : Nat) (v : Value) : (tm.setIfInBounds d v).getD i undef = if d = i then (if d < tm.size then v else undef) else tm.getD i undef := by
  simp only [Array.getD_eq_getD_getElem?, Array.getElem?_setIfInBounds]
  by_cases h : d = i
  · subst h; by_cases k : d < tm.size <;> simp [k]
  · simp [h]
theorem noSelf_no {d : Nat} {v : V} (h : aliasOf d v = false) : noSelf d v = v := by unfold noSelf; rw [h]
theorem noSelf_yes {d : Nat} {v : V} (h : aliasOf d v = true) : noSelf d v = .u := by unfold noSelf; rw [h]
theorem getD_kill (d : Nat) (e : Env) (i : Nat) : (kill d e).getD i .u = noSelf d (e.getD i .u) := by
  simp only [kill, List.getD_eq_getElem?_getD, List.getElem?_map]
  cases h : e[i]? with
  | none => simp [noSelf, aliasOf]
  | some v => simp
theorem length_kill (d : Nat) (e : Env) : (kill d e).length = e.length := by simp [kill]
theorem owner_not_alias {v : V} {d : Nat} (h : owner v = true) : aliasOf d v = false := by
  cases v with
  | c c => rfl
  | _ => simp_all [owner, aliasOf]
theorem kill_owner (d : Nat) (e : Env) (i : Nat) (h : owner (e.getD i .u) = true) : (kill d e).getD i .u = e.getD i .u := by
  rw [getD_kill, noSelf_no (owner_not_alias h)]
theorem blks_not_owner {v : V} {x : Value} (h : ∀ l, v ≠ .tup l) (ho : owner v = false) : blks v x = [] := by
  cases v with
  | c c => cases c <;> simp_all [owner, blks, blksC]
  | tup l => exact absurd rfl (h l)
  | _ => simp_all [owner, blks]
theorem noSelf_alias (d : Nat) (v : V) : aliasOf d (noSelf d v) = false := by
  unfold noSelf; split
  · rfl
  · assumption
theorem length_put (e : Env) (d : Nat) (v : V) : (put e d v).length = e.length := by unfold put; split <;> simp [length_kill]

variable {P : Program} {base : Nat} {pb : Option Nat} {w0 w w' : World} {e : Env} {tm : Array Value}

/-- What stands in a slot after 'put'. -/
theorem getD_put (e : Env) (d i : Nat) (v : V) : (put e d v).getD i .u =
    if d = i then (if d < e.length then noSelf d v else .u) else (if owner (e.getD d .u) = true ∧ aliasOf d (e.getD i .u) = true then .u else e.getD i .u) := by
  unfold put
  split
  · rename_i h
    rw [getD_set, length_kill, getD_kill, h]
    by_cases hd : d = i
    · rw [if_pos hd, if_pos hd]
    · rw [if_neg hd, if_neg hd]
      cases h2 : aliasOf d (e.getD i .u)
      · rw [noSelf_no h2, if_neg (by simp)]
      · rw [noSelf_yes h2, if_pos ⟨rfl, rfl⟩]
  · rename_i h
    rw [getD_set, h]
    by_cases hd : d = i
    · rw [if_pos hd, if_pos hd]
    · rw [if_neg hd, if_neg hd, if_neg (by simp)]

theorem Sim.no_alias (h : Sim P base pb w0 w e tm) {d i : Nat} (ho : owner (e.getD d .u) = false) : aliasOf d (e.getD i .u) = false := by
  have hr := h.rel i
  cases hv : e.getD i .u with
  | via s off => rw [hv] at hr; obtain ⟨h1, -⟩ := hr; simp only [aliasOf]; by_cases hs : s = d
                 · subst hs; rw [ho] at h1; cases h1
                 · simp [hs]
  | all s => rw [hv] at hr; obtain ⟨h1, -⟩ := hr; simp only [aliasOf]; by_cases hs : s = d
             · subst hs; rw [isSl_owner h1] at ho; cases ho
             · simp [hs]
  | ali s lo n => rw [hv] at hr; obtain ⟨h1, -⟩ := hr; simp only [aliasOf]; by_cases hs : s = d
                  · subst hs; rw [ho] at h1; cases h1
                  · simp [hs]
  | it s => rw [hv] at hr; obtain ⟨h1, -⟩ := hr; simp only [aliasOf]; by_cases hs : s = d
            · subst hs; rw [isIt_owner h1] at ho; cases ho
            · simp [hs]
  | _ => rfl

/-- A slot is set: the world may have grown, but the other slots' memory is as it was. -/
theorem Sim.put (h : Sim P base pb w0 w e tm) (d : Nat) (x : V) (v : Value) (hk : Keep base pb w w')
    (hb : ∀ i, i ≠ d → ∀ b, b ∈ blks (e.getD i .u) (tm.getD i undef) → w'.heap[b]? = w.heap[b]?)
    (hr : RelV P base pb w' e tm (noSelf d x) v)
    (ho : ∀ b, b ∈ blks (noSelf d x) v → (b < w'.heap.size ∧ (base ≤ b ∨ pb = some b)) ∧ ∀ i, i ≠ d → b ∉ blks (e.getD i .u) (tm.getD i undef)) (hnd : (blks (noSelf d x) v).Nodup) :
    Sim P base pb w0 w' (AM.put e d x) (tm.setIfInBounds d v) := by
  have hgt : ∀ i, (tm.setIfInBounds d v).getD i undef = if d = i then (if d < tm.size then v else undef) else tm.getD i undef := fun i => getD_setA tm d i v
  have hblk : ∀ i, i ≠ d → ∀ b, b ∈ blks ((AM.put e d x).getD i .u) ((tm.setIfInBounds d v).getD i undef) → b ∈ blks (e.getD i .u) (tm.getD i undef) := by
    intro i hi b hm
    rw [getD_put, hgt, if_neg (Ne.symm hi), if_neg (Ne.symm hi)] at hm
    split at hm
    · simp [blks] at hm
    · exact hm
  have hblkd : ∀ b, b ∈ blks ((AM.put e d x).getD d .u) ((tm.setIfInBounds d v).getD d undef) → b ∈ blks (noSelf d x) v := by
    intro b hm
    rw [getD_put, hgt, if_pos rfl, if_pos rfl] at hm
    by_cases hd : d < e.length
    · rw [if_pos hd, if_pos (by rw [h.size]; exact hd)] at hm; exact hm
    · rw [if_neg hd] at hm; simp [blks] at hm
  have hndi : ∀ i, (blks ((AM.put e d x).getD i .u) ((tm.setIfInBounds d v).getD i undef)).Nodup := by
    intro i
    rw [getD_put, hgt]
    by_cases hd : d = i
    · rw [if_pos hd, if_pos hd]
      by_cases hl : d < e.length
      · rw [if_pos hl, if_pos (by rw [h.size]; exact hl)]; exact hnd
      · rw [if_neg hl]; simp [blks]
    · rw [if_neg hd, if_neg hd]
      split
      · simp [blks]
      · exact h.nd i
  refine ⟨by rw [Array.size_setIfInBounds, length_put]; exact h.size, fun i => ?_, fun i j hij b hi hj => ?_, fun i b hi => ?_, hndi, h.keep.trans hk, Nat.le_trans h.low hk.size⟩
  · rw [getD_put, hgt]
    by_cases hd : d = i
    · subst hd
      rw [if_pos rfl, if_pos rfl]
      by_cases hl : d < e.length
      · rw [if_pos hl, if_pos (by rw [h.size]; exact hl)]
        refine hr.env fun s hs hso => ?_
        have hsd : s ≠ d := by
          rintro rfl
          rw [noSelf_alias] at hs; cases hs
        rw [getD_put, hgt, if_neg (Ne.symm hsd), if_neg (Ne.symm hsd)]
        rw [owner_not_alias hso]
        simp
      · rw [if_neg hl]; trivial
    · rw [if_neg hd, if_neg hd]
      split
      · trivial
      · rename_i hna
        refine ((h.rel i).mono (fun b hm => hb i (Ne.symm hd) b hm) hk.old).env fun s hs hso => ?_
        have hsd : s ≠ d := by
          rintro rfl
          exact hna ⟨hso, hs⟩
        rw [getD_put, hgt, if_neg (Ne.symm hsd), if_neg (Ne.symm hsd), owner_not_alias hso]
        simp
  · by_cases hd : i = d
    · subst hd
      exact (ho b (hblkd b hi)).2 j (Ne.symm hij) (hblk j (Ne.symm hij) b hj)
    · by_cases hd' : j = d
      · subst hd'
        exact (ho b (hblkd b hj)).2 i hd (hblk i hd b hi)
      · exact h.dist i j hij b (hblk i hd b hi) (hblk j hd' b hj)
  · by_cases hd : i = d
    · subst hd; exact (ho b (hblkd b hi)).1
    · obtain ⟨h1, h2⟩ := h.own i b (hblk i hd b hi)
      exact ⟨Nat.lt_of_lt_of_le h1 hk.size, h2⟩

/-- A slot is set to what owns nothing, in the world as it is. -/
theorem Sim.put0 (h : Sim P base pb w0 w e tm) (d : Nat) (x : V) (v : Value) (hr : RelV P base pb w e tm x v) (ho : blks x v = []) :
    Sim P base pb w0 w (AM.put e d x) (tm.setIfInBounds d v) := by
  refine h.put d x v (Keep.refl _ _ _) (fun _ _ _ _ => rfl) ?_ ?_ ?_
  · unfold noSelf; split
    · trivial
    · exact hr
  · intro b hb
    unfold noSelf at hb
    split at hb
    · simp [blks] at hb
    · rw [ho] at hb; cases hb
  · unfold noSelf; split
    · simp [blks]
    · rw [ho]; simp
theorem Sim.putO0 (h : Sim P base pb w0 w e tm) (a : Act) (ha : a.tmps = tm) (d : Option Nat) (x : V) (v : Value) (hr : RelV P base pb w e tm x v) (ho : blks x v = []) :
    Sim P base pb w0 w (AM.putO e d x) (a.put d v).tmps := by
  subst ha
  cases d with
  | none => exact h
  | some d => exact h.put0 d x v hr ho
/-- The world may have grown meanwhile. -/
theorem Sim.grow (h : Sim P base pb w0 w e tm) (hk : Keep base pb w w') (hb : ∀ i b, b ∈ blks (e.getD i .u) (tm.getD i undef) → w'.heap[b]? = w.heap[b]?) : Sim P base pb w0 w' e tm :=
  ⟨h.size, fun i => (h.rel i).mono (fun b hm => hb i b hm) hk.old, h.dist, fun i b hi => ⟨Nat.lt_of_lt_of_le (h.own i b hi).1 hk.size, (h.own i b hi).2⟩, h.nd, h.keep.trans hk, Nat.le_trans h.low hk.size⟩
theorem Sim.ext (h : Sim P base pb w0 w e tm) (hk : Ext w w') : Sim P base pb w0 w' e tm := h.grow (hk.keep h.low pb) fun i b hi => hk.at (h.own i b hi).1
/-- A slot is set to what owns new memory. -/
theorem Sim.putNew (h : Sim P base pb w0 w e tm) (a : Act) (ha : a.tmps = tm) (d : Option Nat) (x : V) (v : Value) (hk : Keep base pb w w')
    (hold : ∀ b, b < w.heap.size → w'.heap[b]? = w.heap[b]?) (hx : ∀ s, aliasOf s x = false) (hr : RelV P base pb w' e tm x v) (hn : ∀ b, b ∈ blks x v → w.heap.size ≤ b ∧ b < w'.heap.size) (hnd : (blks x v).Nodup) :
    Sim P base pb w0 w' (AM.putO e d x) (a.put d v).tmps := by
  subst ha
  cases d with
  | none => exact h.grow hk fun i b hi => hold b (h.own i b hi).1
  | some d =>
    have hns : noSelf d x = x := by unfold noSelf; rw [hx d]
    refine h.put d x v hk (fun i _ b hi => hold b (h.own i b hi).1) (by rw [hns]; exact hr) ?_ (by rw [hns]; exact hnd)
    rw [hns]
    intro b hb
    obtain ⟨h1, h2⟩ := hn b hb
    exact ⟨⟨h2, .inl (Nat.le_trans h.low h1)⟩, fun i _ hi => by have := (h.own i b hi).1; omega⟩

/-- A slot's own memory is written: the slot's value stays, its content turns. -/
theorem Sim.turn (h : Sim P base pb w0 w e tm) (s : Nat) (y : V) (hk : Keep base pb w w')
    (hb : ∀ b, b < w.heap.size → b ∉ blks (e.getD s .u) (tm.getD s undef) → w'.heap[b]? = w.heap[b]?)
    (hy : RelV P base pb w' e tm y (tm.getD s undef)) (hbl : blks y (tm.getD s undef) = blks (e.getD s .u) (tm.getD s undef))
    (hsl : isSl (e.getD s .u) = true → isSl y = true) (hit : isIt (e.getD s .u) = true → isIt y = true) (how : owner (e.getD s .u) = true) (hoy : owner y = true)
    (hlen : ∀ x x', contentB e s = some x → contentB [y] 0 = some x' → x'.len = x.len) (hcon : ∀ x', contentB [y] 0 = some x' → ∃ x, contentB e s = some x) :
    Sim P base pb w0 w' (e.set s y) tm := by
  have hl : s < e.length := by
    by_cases hl : s < e.length
    · exact hl
    · rw [List.getD_eq_getElem?_getD, List.getElem?_eq_none (by omega)] at how; simp [owner] at how
  have hg : ∀ i, (e.set s y).getD i .u = if s = i then y else e.getD i .u := by intro i; rw [getD_set, if_pos hl]
  have hbe : ∀ i, blks ((e.set s y).getD i .u) (tm.getD i undef) = blks (e.getD i .u) (tm.getD i undef) := by
    intro i; rw [hg]; split
    · rename_i hs; subst hs; exact hbl
    · rfl
  have key : ∀ x v, RelV P base pb w' e tm x v → RelV P base pb w' (e.set s y) tm x v := by
    intro x v hx
    cases x with
    | via s' off =>
      obtain ⟨h1, h2⟩ := hx
      refine ⟨?_, h2⟩
      rw [hg]; split
      · exact hoy
      · exact h1
    | all s' =>
      obtain ⟨h1, h2⟩ := hx
      refine ⟨?_, h2⟩
      rw [hg]; split
      · rename_i hs; subst hs; exact hsl h1
      · exact h1
    | ali s' lo n =>
      obtain ⟨h1, h2, h3⟩ := hx
      refine ⟨?_, h2, ?_⟩
      · rw [hg]; split
        · exact hoy
        · exact h1
      · intro x' hx'
        unfold contentB at hx'
        rw [hg] at hx'
        by_cases hs : s = s'
        · subst hs
          rw [if_pos rfl] at hx'
          obtain ⟨x0, hx0⟩ := hcon x' (by simpa [contentB] using hx')
          have := h3 x0 hx0
          rw [hlen x0 x' hx0 (by simpa [contentB] using hx')]; exact this
        · rw [if_neg hs] at hx'; exact h3 x' hx'
    | it s' =>
      obtain ⟨h1, h2⟩ := hx
      refine ⟨?_, h2⟩
      rw [hg]; split
      · rename_i hs; subst hs; exact hit h1
      · exact h1
    | u => trivial
    | c c => exact hx
    | tup l => exact hx
    | box T x => exact hx
    | iter l pos => exact hx
  refine ⟨by rw [List.length_set]; exact h.size, fun i => ?_, fun i j hij b hi hj => ?_, fun i b hi => ?_, fun i => by rw [hbe]; exact h.nd i, h.keep.trans hk, Nat.le_trans h.low hk.size⟩
  · rw [hg]
    split
    · rename_i hs; subst hs; exact key _ _ hy
    · rename_i hs
      refine key _ _ ((h.rel i).mono (fun b hm => hb b (h.own i b hm).1 fun hm' => h.dist i s (Ne.symm hs) b hm hm') hk.old)
  · rw [hbe] at hi hj; exact h.dist i j hij b hi hj
  · rw [hbe] at hi; exact ⟨Nat.lt_of_lt_of_le (h.own i b hi).1 hk.size, (h.own i b hi).2⟩
end Go.Proofs.YtnfjggagenmkjaaDoor.AM
