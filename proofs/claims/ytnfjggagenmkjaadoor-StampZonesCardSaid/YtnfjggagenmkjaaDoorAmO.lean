/- Each operation of the interpreter is the machine's: calls. -/
import Derived.Test.YtnfjggagenmkjaaDoorAmN
set_option linter.unusedSimpArgs false
namespace Go.Proofs.YtnfjggagenmkjaaDoor.AM
open Go

section
variable (P : Program) (G : World → Prop) (ng : Nat)

/-- What a call comes to. -/
def CallOk (g : Nat) (args : Array Value) (w : World) (R : Value → World → Prop) : Prop :=
  ((callFunc g args).run P w = .ok (.enter g args) w ∧ Calls P g args w fun | .returned v, w' => R v w' | _, _ => False) ∨ ∃ v w', (callFunc g args).run P w = .ok (.value v) w' ∧ R v w'
/-- A receiver's memory. -/
def RecvRel (w : World) : Option (Nat × Xs) → List Value → Option Nat → Prop
  | none, vs, pb => vs = [] ∧ pb = none
  | some (T, x), vs, pb => ∃ b, pb = some b ∧ vs = [.pointer (some ⟨b, 0, none⟩)] ∧ w.heap[b]? = some (.cells x.enc.toArray T (0, 0)) ∧ P.cellsOf T = x.len ∧ ng ≤ b
def BackRel (w' : World) : Option (Nat × Xs) → Option Xs → Option Nat → Prop
  | none, _, _ => True
  | some (T, x), some y, pb => y.len = x.len ∧ ∃ b, pb = some b ∧ w'.heap[b]? = some (.cells y.enc.toArray T (0, 0))
  | some _, none, _ => False
def RetRel (w w' : World) (rc : Option (Nat × Xs)) (pb : Option Nat) (p : Out) (v : Value) : Prop :=
  Keep w.heap.size pb w w' ∧ (∀ base pb e tm, RelV P base pb w' e tm (ofRes p.1) v) ∧ (∀ b, b ∈ blks (ofRes p.1) v → w.heap.size ≤ b ∧ b < w'.heap.size) ∧ (blks (ofRes p.1) v).Nodup ∧ BackRel w' rc p.2 pb
def FnOk (Γ : Gam) (g : Nat) : Prop := ∀ rc as K r, Γ g rc as K = some r → ∀ w rv pb vs, G w → ng ≤ w.heap.size → RecvRel P ng w rc rv pb → RelL w.heap.size pb w as vs → as.all plainC = true →
  CallOk P g (rv ++ vs).toArray w fun v w' => ∃ p, K p = some r ∧ RetRel P w w' rc pb p v
end

variable {P : Program} {G : World → Prop} {ng : Nat} {base : Nat} {pb : Option Nat} {w0 w w' : World} {e : Env} {a : Act}
variable {K : Env → Option Out} {r : Out} {next : Act → World → Prop} {Q : Exit → Act → World → Prop} {o : Oper}

theorem lt_of_heap {w : World} {b : Nat} {ob : Obj} (h : w.heap[b]? = some ob) : b < w.heap.size := (Array.getElem?_eq_some_iff.1 h).1
theorem own_ro {w : World} {x : Xs} {v : Value} {pb' : Option Nat} (h : OwnRel w x v) (hb : ∀ b, b ∈ blkOf v → pb' ≠ some b) : RoRel w.heap.size pb' w x v := by
  rcases h with ⟨rfl, h2⟩ | ⟨b, cap, T, Cs, fr, rfl, h2, h3, h4, h5, h6⟩
  · exact ⟨none, 0, by rw [h2], by omega, fun i hi => by omega⟩
  · refine ⟨_, cap, rfl, h3, fun i hi => ⟨⟨b, 0, none⟩, rfl, lt_of_heap h2, hb b (by simp [blkOf, baseOf]), ?_⟩⟩
    rw [Addr.zero_add]
    simp [World.cell?, h2, h5 i (by omega), h6 i hi]
theorem ro_ro {w : World} {x : Xs} {v : Value} {pb' : Option Nat} (h : RoRel base pb w x v) (hl : base ≤ w.heap.size) (hb : ∀ b, pb' = some b → base ≤ b ∨ pb = some b) : RoRel w.heap.size pb' w x v := by
  obtain ⟨A, cap, h1, h2, h3⟩ := h
  refine ⟨A, cap, h1, h2, fun i hi => ?_⟩
  obtain ⟨b, k1, k2, k3, k4⟩ := h3 i hi
  exact ⟨b, k1, by omega, fun hp => by rcases hb _ hp with h | h; omega; exact k3 h, k4⟩
/-- An argument's value. -/
theorem argC_rel (h : Sim P base pb w0 w e a.tmps) {x : Operand} {c : C} (hc : argC e (ev e x) = some c) {pb' : Option Nat} (hp : ∀ b, pb' = some b → (base ≤ b ∨ pb = some b) ∧ ∀ s, isSl (e.getD s .u) = true → b ∉ blks (e.getD s .u) (a.tmps.getD s undef)) :
    RelC w.heap.size pb' w c (a.eval x) ∧ plainC c = true := by
  have hv := (ev_rel h x).1
  have slot : ∀ {s : Nat} {y : Xs} {A : V}, e.getD s .u = A → (A = .c (.own y) ∨ A = .c (.ro y)) → RoRel w.heap.size pb' w y (a.tmps.getD s undef) := by
    intro s y A hs hA
    have hr := h.rel s
    rcases hA with rfl | rfl
    · rw [hs] at hr
      refine own_ro hr fun b hb hpb => (hp b hpb).2 s (by rw [hs]; rfl) ?_
      rw [hs]; exact hb
    · rw [hs] at hr
      exact ro_ro hr h.low fun b hb => (hp b hb).1
  unfold argC at hc
  split at hc
  · rename_i s hx
    cases hc; rw [hx] at hv; exact ⟨hv, rfl⟩
  · rename_i y hx
    cases hc; rw [hx] at hv; exact ⟨hv, rfl⟩
  · rename_i s hx
    rw [hx] at hv
    split at hc
    · rename_i y hs
      cases hc; exact ⟨by rw [hv.2]; exact slot hs (.inl rfl), rfl⟩
    · rename_i y hs
      cases hc; exact ⟨by rw [hv.2]; exact slot hs (.inr rfl), rfl⟩
    · cases hc
  · rename_i s lo n hx
    rw [hx] at hv
    obtain ⟨h1, ⟨A, c', h2, h3, h4, h5⟩, h6⟩ := hv
    split at hc
    · rename_i y hs
      cases hc
      refine ⟨?_, rfl⟩
      rw [h2]
      exact cut_ro (slot hs (.inl rfl)) (h6 y (by unfold contentB; rw [hs])) h3 h4
    · rename_i y hs
      cases hc
      refine ⟨?_, rfl⟩
      rw [h2]
      exact cut_ro (slot hs (.inr rfl)) (h6 y (by unfold contentB; rw [hs])) h3 h4
    · cases hc
  · cases hc
theorem argCs_rel (h : Sim P base pb w0 w e a.tmps) {pb' : Option Nat} (hp : ∀ b, pb' = some b → (base ≤ b ∨ pb = some b) ∧ ∀ s, isSl (e.getD s .u) = true → b ∉ blks (e.getD s .u) (a.tmps.getD s undef)) : ∀ {l : List Operand} {as : List C}, argCs e (l.map (ev e)) = some as →
    RelL w.heap.size pb' w as (l.map a.eval) ∧ as.all plainC = true
  | [], as, hc => by simp only [List.map_nil, argCs, Option.some.injEq] at hc; subst hc; exact ⟨.nil, rfl⟩
  | x :: l, as, hc => by
    simp only [List.map_cons, argCs] at hc
    split at hc
    · rename_i c cs h1 h2
      cases hc
      obtain ⟨k1, k2⟩ := argC_rel h h1 hp
      obtain ⟨k3, k4⟩ := argCs_rel h hp h2
      exact ⟨.cons k1 k3, by simp [k2, k4]⟩
    · cases hc

theorem wp_call {g : Nat} {c : Call} (ho : o.op = .call c) {f : Operand} (hc : c.callee = .value f) (hf : a.eval f = .func (.func g) #[] #[]) {R : Value → World → Prop} (h : CallOk P g (c.args.toList.map a.eval).toArray w R)
    (hn : ∀ v w', R v w' → next (a.put o.dst v) w') : o.wp P a w next Q := by
  obtain ⟨callee, args, argTypes⟩ := c
  simp only at hc h
  subst hc
  have hargs : (args.toList.map a.eval).toArray = args.map a.eval := by apply Array.ext'; simp
  rw [hargs] at h
  have hrun : (execOp a.eval o).run P w = (callFunc g (args.map a.eval)).run P w := by
    simp only [execOp, ho, resolve, hf, Deferred.ofValue, invoke, Sem.run_bind, Sem.run_pure, Result.andThen_ok, Array.empty_append, Array.append_empty]
  unfold Oper.wp
  rw [hrun]
  rcases h with ⟨h1, h2⟩ | ⟨v, w', h1, h2⟩
  · rw [h1]
    exact Calls.mono h2 fun e w'' he => by cases e <;> first | exact hn _ _ he | exact he.elim
  · rw [h1]
    exact hn _ _ h2

theorem ofRes_alias (l : List C) (s : Nat) : aliasOf s (ofRes l) = false := by
  unfold ofRes; split <;> rfl
theorem op_call {Γ : Gam} {g : Nat} (hΓ : FnOk P G ng Γ g) (hG : G w) (hng : ng ≤ base ∧ ∀ b, pb = some b → ng ≤ b) (h : Sim P base pb w0 w e a.tmps) (hn : Nx P base pb w0 w e a o K r next) {c : Call} (ho : o.op = .call c) {f : Operand} (hc : c.callee = .value f) (hf : ev e f = .c (.s (.fn g)))
    (hK : callK Γ e o.dst g (c.args.toList.map (ev e)) K = some r) : o.wp P a w next Q := by
  have hfv : a.eval f = .func (.func g) #[] #[] := ev_s h hf
  unfold callK at hK
  split at hK
  · rename_i s l hl
    split at hK
    · rename_i T x as hs has
      cases hca : c.args.toList with
      | nil => rw [hca] at hl; cases hl
      | cons x0 xs =>
        rw [hca] at hl
        simp only [List.map_cons, List.cons.injEq] at hl
        obtain ⟨hx0, rfl⟩ := hl
        have hr := h.rel s
        rw [hs] at hr
        obtain ⟨b, h1, h2, h3⟩ := hr
        have hbl : blks (e.getD s .u) (a.tmps.getD s undef) = [b] := by rw [hs, h1]; rfl
        have hown := h.own s b (by rw [hbl]; simp)
        have hv0 : a.eval x0 = .pointer (some ⟨b, 0, none⟩) := via_at h hx0 (by rw [h1]; rfl)
        have hp : ∀ b', (some b : Option Nat) = some b' → (base ≤ b' ∨ pb = some b') ∧ ∀ s', isSl (e.getD s' .u) = true → b' ∉ blks (e.getD s' .u) (a.tmps.getD s' undef) := by
          intro b' hb'
          cases hb'
          refine ⟨hown.2, fun s' hs' hm => ?_⟩
          have hne : s ≠ s' := by rintro rfl; rw [hs] at hs'; cases hs'
          exact h.dist s s' hne b (by rw [hbl]; simp) hm
        obtain ⟨k1, k2⟩ := argCs_rel h (pb' := some b) hp has
        have hcall := hΓ _ _ _ _ hK w [.pointer (some ⟨b, 0, none⟩)] (some b) _ hG (Nat.le_trans hng.1 h.low) ⟨b, rfl, rfl, h2, h3, by rcases hown.2 with h' | h'; omega; exact hng.2 _ h'⟩ k1 k2
        rw [List.singleton_append, ← hv0, ← List.map_cons, ← hca] at hcall
        refine wp_call ho hc hfv hcall ?_
        rintro v w' ⟨p, hp1, hk, hrel, hblk, hnd, hback⟩
        split at hp1
        · rename_i y hy
          rw [hy] at hback
          obtain ⟨hyl, b', hb', hheap⟩ := hback
          cases hb'
          have hkeep : Keep base pb w w' := ⟨hk.os, hk.tape, hk.output, hk.size, fun k hk1 hk2 => hk.old k (by have := h.low; omega) (by
            rintro heq; cases heq
            rcases hown.2 with h' | h'
            · omega
            · exact hk2 h')⟩
          have hsim : Sim P base pb w0 w' (e.set s (.box T y)) a.tmps := by
            refine h.turn s (.box T y) hkeep (fun k hk1 hk2 => hk.old k hk1 (by rintro heq; cases heq; exact hk2 (by rw [hbl]; simp))) ⟨b, h1, hheap, by rw [hyl]; exact h3⟩ (by rw [hbl, h1]; rfl) ?_ ?_ (by rw [hs]; rfl) rfl ?_ ?_
            · rw [hs]; intro h'; cases h'
            · rw [hs]; intro h'; cases h'
            · intro x0' x' hx hx'
              unfold contentB at hx; rw [hs] at hx; cases hx
              simp only [contentB, List.getD_cons_zero, Option.some.injEq] at hx'
              rw [← hx']; exact hyl
            · intro x' _; exact ⟨x, by unfold contentB; rw [hs]⟩
          refine hn _ _ _ hp1 ?_ (put_keeps _ _ _) ?_
          · cases hd : o.dst with
            | none => exact hsim
            | some d =>
              have hns : noSelf d (ofRes p.1) = ofRes p.1 := noSelf_no (ofRes_alias _ _)
              refine hsim.put d (ofRes p.1) v (Keep.refl _ _ _) (fun _ _ _ _ => rfl) (by rw [hns]; exact hrel _ _ _ _) ?_ (by rw [hns]; exact hnd)
              rw [hns]
              intro k hkm
              obtain ⟨q1, q2⟩ := hblk k hkm
              refine ⟨⟨q2, .inl (Nat.le_trans h.low q1)⟩, fun i _ hi => ?_⟩
              have hi' : k ∈ blks (e.getD i .u) (a.tmps.getD i undef) := by
                rw [getD_set] at hi
                by_cases hsi : s = i
                · subst hsi; rw [if_pos rfl] at hi
                  split at hi
                  · rw [h1] at hi; rw [hbl]; exact hi
                  · simp [blks] at hi
                · rw [if_neg hsi] at hi; exact hi
              have := (h.own i k hi').1; omega
          · intro hq
            unfold quietE at hq
            rw [ho] at hq
            simp only [hc, hca, List.map_cons, hx0] at hq
            cases hq
        · cases hp1
    · cases hK
  · rename_i hnv
    split at hK
    · rename_i as has
      obtain ⟨k1, k2⟩ := argCs_rel h (pb' := none) (fun b hb => by cases hb) has
      have hcall := hΓ _ _ _ _ hK w [] none _ hG (Nat.le_trans hng.1 h.low) ⟨rfl, rfl⟩ k1 k2
      rw [List.nil_append] at hcall
      refine wp_call ho hc hfv hcall ?_
      rintro v w' ⟨p, hp1, hk, hrel, hblk, hnd, -⟩
      refine hn _ _ _ hp1 ?_ (put_keeps _ _ _) fun _ => hk
      exact h.putNew a rfl o.dst (ofRes p.1) v (Ext.keep hk h.low pb) (fun b hb => Ext.at hk hb) (ofRes_alias _) (hrel _ _ _ _) hblk hnd
    · cases hK
end Go.Proofs.YtnfjggagenmkjaaDoor.AM
