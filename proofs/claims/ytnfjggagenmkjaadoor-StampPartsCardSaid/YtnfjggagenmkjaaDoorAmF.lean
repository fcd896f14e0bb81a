/- Each operation of the interpreter is the machine's: what computes. -/
import Derived.Test.YtnfjggagenmkjaaDoorAmE
import Derived.Laws.Strings2
import Derived.Laws.Slices
set_option linter.unusedSimpArgs false
namespace Go.Proofs.YtnfjggagenmkjaaDoor.AM
open Go

variable {P : Program} {base : Nat} {pb : Option Nat} {w0 w w' : World} {e : Env} {a : Act}

theorem ofConst_rel (v : Value) : RelV P base pb w e a.tmps (ofConst v) v ∧ blks (ofConst v) v = [] := by
  unfold ofConst
  split
  · exact ⟨rfl, rfl⟩
  · exact ⟨rfl, rfl⟩
  · exact ⟨rfl, rfl⟩
  · exact ⟨rfl, rfl⟩
  · exact ⟨trivial, rfl⟩
theorem blksL_plain {l : List C} (h : l.all plainC = true) : ∀ vs, blksL l vs = [] := by
  induction l with
  | nil => intro vs; rfl
  | cons c l ih =>
    intro vs
    simp only [List.all_cons, Bool.and_eq_true] at h
    cases vs with
    | nil => rfl
    | cons v vs =>
      simp only [blksL, ih h.2 vs, List.append_nil]
      cases c <;> first | rfl | simp [plainC] at h
theorem rd_rel (h : Sim P base pb w0 w e a.tmps) (t : Nat) : RelV P base pb w e a.tmps (rd e t) (a.tmps.getD t undef) ∧ blks (rd e t) (a.tmps.getD t undef) = [] := by
  have hr := h.rel t
  unfold rd
  cases hv : e.getD t .u with
  | box T x =>
    rw [hv] at hr; obtain ⟨b, h1, -⟩ := hr
    refine ⟨⟨by rw [hv]; rfl, ⟨b, 0, none⟩, by rw [h1]; rfl, by rw [h1]; rfl⟩, rfl⟩
  | c c =>
    rw [hv] at hr
    cases c with
    | own x => exact ⟨⟨by rw [hv]; rfl, rfl⟩, rfl⟩
    | ro x => exact ⟨⟨by rw [hv]; rfl, rfl⟩, rfl⟩
    | u => exact ⟨hr, rfl⟩
    | s x => exact ⟨hr, rfl⟩
    | agg x => exact ⟨hr, rfl⟩
  | iter l p => exact ⟨⟨by rw [hv]; rfl, rfl⟩, rfl⟩
  | tup l =>
    rw [hv] at hr
    dsimp only
    split
    · rename_i hp
      obtain ⟨vs, h1, h2⟩ := hr
      exact ⟨⟨vs, h1, h2⟩, by rw [h1]; exact blksL_plain hp _⟩
    · exact ⟨trivial, rfl⟩
  | u => exact ⟨trivial, rfl⟩
  | via s off => rw [hv] at hr; exact ⟨hr, rfl⟩
  | all s => rw [hv] at hr; exact ⟨hr, rfl⟩
  | ali s lo n => rw [hv] at hr; exact ⟨hr, rfl⟩
  | it s => rw [hv] at hr; exact ⟨hr, rfl⟩
theorem ev_rel (h : Sim P base pb w0 w e a.tmps) (x : Operand) : RelV P base pb w e a.tmps (ev e x) (a.eval x) ∧ blks (ev e x) (a.eval x) = [] := by
  cases x with
  | tmp t => exact rd_rel h t
  | const v => exact ofConst_rel v
  | global g => exact ⟨trivial, rfl⟩
  | func f => exact ⟨rfl, rfl⟩
theorem ev_s (h : Sim P base pb w0 w e a.tmps) {x : Operand} {s : S} (hx : ev e x = .c (.s s)) : a.eval x = s.enc := by
  have := (ev_rel h x).1; rw [hx] at this; exact this
theorem ev_agg (h : Sim P base pb w0 w e a.tmps) {x : Operand} {y : Xs} (hx : ev e x = .c (.agg y)) : a.eval x = .agg y.enc.toArray := by
  have := (ev_rel h x).1; rw [hx] at this; exact this

theorem wp_val {o : Oper} {next : Act → World → Prop} {Q : Exit → Act → World → Prop} {v : Value} (hrun : (execOp a.eval o).run P w = .ok (.value v) w') (hn : next (a.put o.dst v) w') : o.wp P a w next Q := by
  unfold Oper.wp; rw [hrun]; exact hn
theorem wp_skip' {o : Oper} {next : Act → World → Prop} {Q : Exit → Act → World → Prop} (hrun : (execOp a.eval o).run P w = .ok .skip w') (hn : next (a.put o.dst undef) w') : o.wp P a w next Q := by
  unfold Oper.wp; rw [hrun]; exact hn
theorem getD_setIf (tm : Array Value) (d i : Nat) (v : Value) (h : d ≠ i) : (tm.setIfInBounds d v).getD i undef = tm.getD i undef := by rw [getD_setA, if_neg h]
theorem put_keeps (a : Act) (d : Option Tmp) (v : Value) : (a.put d v).defers = a.defers ∧ ∀ i, d ≠ some i → (a.put d v).tmps.getD i undef = a.tmps.getD i undef := by
  cases d with
  | none => exact ⟨rfl, fun _ _ => rfl⟩
  | some d => exact ⟨rfl, fun i hi => getD_setIf _ _ _ _ (by rintro rfl; exact hi rfl)⟩
def Nx (P : Program) (base : Nat) (pb : Option Nat) (w0 w : World) (e : Env) (a : Act) (o : Oper) (K : Env → Option Out) (r : Out) (next : Act → World → Prop) : Prop :=
  ∀ (e' : Env) (a' : Act) (w' : World), K e' = some r → Sim P base pb w0 w' e' a'.tmps → (a'.defers = a.defers ∧ ∀ i, o.dst ≠ some i → a'.tmps.getD i undef = a.tmps.getD i undef) → (quietE e o = true → Ext w w') → next a' w'
/-- Where a load looks nothing has turned. -/
def LdOk (P : Program) (base : Nat) (pb : Option Nat) (e : Env) (a : Act) (o : Oper) (w' : World) : Prop := ∃ s, ldSlot e o = some s ∧ RelV P base pb w' e a.tmps (e.getD s .u) (a.tmps.getD s undef)
/-- An operation that only tells: its value is one in every world that has grown from this one; in every world, if it looks into no memory. -/
def Pure1 (P : Program) (base : Nat) (pb : Option Nat) (w : World) (e : Env) (a : Act) (K : Env → Option Out) (r : Out) (o : Oper) : Prop :=
  ∃ x v, K (putO e o.dst x) = some r ∧ (∀ w', (memO o = true → Ext w w' ∨ LdOk P base pb e a o w') → (execOp a.eval o).run P w' = .ok (.value v) w') ∧ RelV P base pb w e a.tmps x v ∧ blks x v = []
variable {K : Env → Option Out} {r : Out} {next : Act → World → Prop} {Q : Exit → Act → World → Prop} {o : Oper}
theorem pure1 {x : V} {v : Value} (hK : K (putO e o.dst x) = some r) (hm : memO o = true) (hl : ldSlot e o = none) (hrun : ∀ w', Ext w w' → (execOp a.eval o).run P w' = .ok (.value v) w') (hr : RelV P base pb w e a.tmps x v) (hb : blks x v = []) :
    Pure1 P base pb w e a K r o := ⟨x, v, hK, fun w' h => hrun w' (by rcases h hm with h | ⟨s, h, -⟩; exact h; rw [hl] at h; cases h), hr, hb⟩
/-- A load. -/
theorem pureL {x : V} {v : Value} {s : Nat} (hK : K (putO e o.dst x) = some r) (hm : memO o = true) (hl : ldSlot e o = some s) (hS : ∀ w', Ext w w' → RelV P base pb w' e a.tmps (e.getD s .u) (a.tmps.getD s undef))
    (hrun : ∀ w', RelV P base pb w' e a.tmps (e.getD s .u) (a.tmps.getD s undef) → (execOp a.eval o).run P w' = .ok (.value v) w') (hr : RelV P base pb w e a.tmps x v) (hb : blks x v = []) :
    Pure1 P base pb w e a K r o := ⟨x, v, hK, fun w' h => by
      rcases h hm with h | ⟨s', h, h'⟩
      · exact hrun w' (hS w' h)
      · rw [hl] at h; cases h; exact hrun w' h', hr, hb⟩
theorem pureA {x : V} {v : Value} (hK : K (putO e o.dst x) = some r) (hrun : ∀ w', True → (execOp a.eval o).run P w' = .ok (.value v) w') (hr : RelV P base pb w e a.tmps x v) (hb : blks x v = []) :
    Pure1 P base pb w e a K r o := ⟨x, v, hK, fun w' _ => hrun w' trivial, hr, hb⟩
theorem Pure1.wp (hp : Pure1 P base pb w e a K r o) (h : Sim P base pb w0 w e a.tmps) (hn : Nx P base pb w0 w e a o K r next) : o.wp P a w next Q := by
  obtain ⟨x, v, hK, hrun, hr, hb⟩ := hp
  exact wp_val (hrun w fun _ => .inl (Ext.refl w)) (hn _ _ _ hK (h.putO0 a rfl o.dst x v hr hb) (put_keeps _ _ _) fun _ => Ext.refl w)

theorem op_move (h : Sim P base pb w0 w e a.tmps) {x : Operand} (ho : o.op = .move x) (hK : K (putO e o.dst (ev e x)) = some r) : Pure1 P base pb w e a K r o :=
  pureA hK (fun w' hw => by simp only [execOp, ho]; rfl) (ev_rel h x).1 (ev_rel h x).2
theorem run_v {s : Sem Value} {v : Value} (h : s.run P w = .ok v w') : ((do pure (.value (← s)) : Sem Next)).run P w = .ok (.value v) w' := by simp [Sem.run_bind, h]
theorem op_pick (h : Sim P base pb w0 w e a.tmps) {c x y : Operand} (ho : o.op = .pick c x y) {t : Bool} (hc : ev e c = .c (.s (.bool t)))
    (hK : (bif t then K (putO e o.dst (ev e x)) else K (putO e o.dst (ev e y))) = some r) : Pure1 P base pb w e a K r o := by
  have hcv := ev_s h hc
  cases t
  · exact pureA hK (fun w' hw => by simp only [execOp, ho, hcv, S.enc, asBool]; rfl) (ev_rel h y).1 (ev_rel h y).2
  · exact pureA hK (fun w' hw => by simp only [execOp, ho, hcv, S.enc, asBool]; rfl) (ev_rel h x).1 (ev_rel h x).2
theorem op_bin (h : Sim P base pb w0 w e a.tmps) {op : BinOp} {t t' : TypeId} {x y : Operand} (ho : o.op = .binOp op t x y t') {p q : S} (hx : ev e x = .c (.s p)) (hy : ev e y = .c (.s q))
    (hK : bop op p q (fun r => K (putO e o.dst (.c (.s r)))) = some r) : Pure1 P base pb w e a K r o := by
  obtain ⟨s, h1, h2, h3⟩ := bop_run (P := P) hK
  refine pureA h1 (v := s.enc) (fun w' hw => ?_) rfl rfl
  simp only [execOp, ho]
  refine run_v ?_
  rw [ev_s h hx, ev_s h hy, h3]
  exact h2 t w'
theorem op_bool (h : Sim P base pb w0 w e a.tmps) {op : BinOp} {t t' : TypeId} {x y : Operand} (ho : o.op = .binOp op t x y t') {p q : Bool} (hx : ev e x = .c (.s (.bool p))) (hy : ev e y = .c (.s (.bool q)))
    (ht : P.underlying t = some .bool) (hop : op = .eql ∨ op = .neq) (hK : K (putO e o.dst (.c (.s (.bool (if op = .eql then p == q else !(p == q)))))) = some r) : Pure1 P base pb w e a K r o := by
  refine pureA hK (v := .bool _) (fun w' hw => ?_) rfl rfl
  simp only [execOp, ho]
  refine run_v ?_
  rw [ev_s h hx, ev_s h hy]
  have he := run_equalIn_bool w' 9999 t p q ht
  rcases hop with rfl | rfl <;> simp [S.enc, go_sem, binOp, Op.equal, Op.maxDepth, he]
theorem op_binAgg (h : Sim P base pb w0 w e a.tmps) {op : BinOp} {t t' : TypeId} {x y : Operand} (ho : o.op = .binOp op t x y t') {p q : Xs} (hx : ev e x = .c (.agg p)) (hy : ev e y = .c (.agg q))
    {b : Bool} (hb : eqAgg P t p q = some b) (hop : op = .eql ∨ op = .neq) (hK : K (putO e o.dst (.c (.s (.bool (if op = .eql then b else !b))))) = some r) : Pure1 P base pb w e a K r o := by
  refine pureA hK (v := .bool _) (fun w' hw => ?_) rfl rfl
  simp only [execOp, ho]
  refine run_v ?_
  obtain ⟨h1, h2⟩ := eqAgg_run hb w'
  rw [ev_agg h hx, ev_agg h hy, Sem.run_bind, h2, Result.andThen_ok]
  rcases hop with rfl | rfl
  · rw [run_eql_struct, h1]; simp
  · rw [run_neq_struct, h1]; simp
theorem op_un (h : Sim P base pb w0 w e a.tmps) {op : UnOp} {t : TypeId} {x : Operand} (ho : o.op = .unOp op t x) {p q : S} (hx : ev e x = .c (.s p)) (hq : uop op p = some q)
    (hK : K (putO e o.dst (.c (.s q))) = some r) : Pure1 P base pb w e a K r o := by
  refine pureA hK (v := q.enc) (fun w' hw => ?_) rfl rfl
  simp only [execOp, ho]
  refine run_v ?_
  rw [ev_s h hx]
  exact uop_run hq w'

theorem at?_some {α : Type} {l : List α} {i : Int} {x : α} (h : at? l i = some x) : 0 ≤ i ∧ l[i.toNat]? = some x := by
  unfold at? at h; split at h
  · exact ⟨‹_›, h⟩
  · cases h
theorem bind_some {α β : Type} {x : Option α} {f : α → Option β} {y : β} (h : x.bind f = some y) : ∃ z, x = some z ∧ f z = some y := by
  cases x with
  | none => cases h
  | some z => exact ⟨z, rfl, h⟩
theorem getElem?_mk (l : List UInt8) (n : Nat) : (⟨⟨l⟩⟩ : ByteArray)[n]? = l[n]? := by
  by_cases h : n < l.length
  · rw [ByteArray.getElem?_lt' _ _ h, List.getElem?_eq_getElem h]; rfl
  · rw [ByteArray.getElem?_ge' _ _ h, List.getElem?_eq_none (by omega)]
theorem op_indexS (h : Sim P base pb w0 w e a.tmps) {t : TypeId} {x i : Operand} (ho : o.op = .index t x i) (ht : P.underlying t = some .string) {l : List UInt8} {k : IntKind} {n : Int}
    (hx : ev e x = .c (.s (.str l))) (hi : ev e i = .c (.s (.int k n))) (hK : ((at? l n).bind fun b => K (putO e o.dst (.c (.s (.int .u8 b.toNat))))) = some r) : Pure1 P base pb w e a K r o := by
  obtain ⟨b, h1, h2⟩ := bind_some hK
  obtain ⟨h3, h4⟩ := at?_some h1
  refine pureA h2 (v := .int .u8 b.toNat) (fun w' hw => ?_) rfl rfl
  simp only [execOp, ho]
  refine run_v ?_
  rw [ev_s h hx, ev_s h hi]
  simp [Instr.index, S.enc, asIntOf, run_underlying ht, h3, getElem?_mk, h4]
theorem Xs.toS_of_enc {x : Xs} {i : Nat} {s : S} (h : x.toS[i]? = some s) : x.enc[i]? = some s.enc := by simp [Xs.enc, h]
theorem atK_some {x : Xs} {i : Int} {K : S → Option Out} (h : x.atK i K = some r) : ∃ s, 0 ≤ i ∧ x.toS[i.toNat]? = some s ∧ K s = some r := by
  cases x with
  | ints k l => obtain ⟨n, h1, h2⟩ := bind_some h; obtain ⟨h3, h4⟩ := at?_some h1; exact ⟨_, h3, by simp [Xs.toS, h4], h2⟩
  | strs l => obtain ⟨n, h1, h2⟩ := bind_some h; obtain ⟨h3, h4⟩ := at?_some h1; exact ⟨_, h3, by simp [Xs.toS, h4], h2⟩
  | ss l => obtain ⟨n, h1, h2⟩ := bind_some h; obtain ⟨h3, h4⟩ := at?_some h1; exact ⟨_, h3, by simp [Xs.toS, h4], h2⟩
theorem atN_some {x : Xs} {i : Nat} {K : S → Option Out} (h : x.atN i K = some r) : ∃ s, x.toS[i]? = some s ∧ K s = some r := by
  cases x with
  | ints k l => obtain ⟨n, h1, h2⟩ := bind_some h; exact ⟨_, by simp [Xs.toS, h1], h2⟩
  | strs l => obtain ⟨n, h1, h2⟩ := bind_some h; exact ⟨_, by simp [Xs.toS, h1], h2⟩
  | ss l => obtain ⟨n, h1, h2⟩ := bind_some h; exact ⟨_, by simp [Xs.toS, h1], h2⟩
theorem cell1_info {t : TypeId} (h : cell1 P t = true) : (∃ i, P.info? t = some i ∧ i.size = 1) ∧ ∀ w, (isAgg t).run P w = .ok false w := by
  unfold cell1 at h
  split at h
  · rename_i d i h1 h2
    simp only [Bool.and_eq_true, beq_iff_eq] at h
    refine ⟨⟨i, h2, h.2⟩, fun w => ?_⟩
    cases d <;> simp [plainDesc] at h <;> simp [isAgg, run_underlying h1]
  · cases h
theorem run_sizeOf1 {t : TypeId} (h : cell1 P t = true) (w : World) : (sizeOf t).run P w = .ok 1 w := by
  obtain ⟨⟨i, h1, h2⟩, -⟩ := cell1_info h
  simp [sizeOf, typeInfo, h1, h2]
theorem op_indexA (h : Sim P base pb w0 w e a.tmps) {t el : TypeId} {m : Nat} {x i : Operand} (ho : o.op = .index t x i) (ht : P.underlying t = some (.array m el)) {l : Xs} {k : IntKind} {n : Int}
    (hx : ev e x = .c (.agg l)) (hi : ev e i = .c (.s (.int k n))) (hc : cell1 P el = true) (hK : (bif decide (n < (m : Int)) then l.atK n (fun s => K (putO e o.dst (.c (.s s)))) else none) = some r) : Pure1 P base pb w e a K r o := by
  cases hd : decide (n < (m : Int))
  · rw [hd] at hK; cases hK
  · rw [hd] at hK
    obtain ⟨s, h1, h2, h3⟩ := atK_some hK
    have hd' : n < (m : Int) := by simpa using hd
    refine pureA h3 (v := s.enc) (fun w' hw => ?_) rfl rfl
    simp only [execOp, ho]
    refine run_v ?_
    rw [ev_agg h hx, ev_s h hi]
    have hv : l.enc.toArray[n.toNat]? = some s.enc := by simpa using Xs.toS_of_enc h2
    have hp := part_plain (w := w') ((cell1_info hc).2 w') hv
    simp only [Instr.index, S.enc, asIntOf, Sem.run_bind, Sem.run_pure, Result.andThen_ok, run_underlying ht, Sem.run_ite, if_pos (And.intro h1 hd'), run_sizeOf1 hc, Nat.mul_one]
    exact hp
end Go.Proofs.YtnfjggagenmkjaaDoor.AM
