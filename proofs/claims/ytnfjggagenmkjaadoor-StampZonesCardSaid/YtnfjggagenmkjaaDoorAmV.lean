/- Functions of the library by what they tell: out of contracts. -/
import Derived.Test.YtnfjggagenmkjaaDoorAmU
import Derived.Below
import Derived.Sort.Grow
import Derived.Deep.Draws
namespace Go.Proofs.YtnfjggagenmkjaaDoor.AM
open Go Go.RowKit

/-- A contract of a function that hands back one plain value and leaves what was there as it was. -/
theorem callOk_of {P : Program} {g : Nat} {args : Array Value} {w : World} {v : Value} {R : Value → World → Prop} (hb : (callFunc g args).run P w = .ok (.enter g args) w)
    (h : Calls P g args w fun e w' => e = .returned v ∧ Ext w w') (hR : ∀ w', Ext w w' → R v w') : CallOk P g args w R := by
  refine .inl ⟨hb, Calls.mono h fun e w' he => ?_⟩
  obtain ⟨rfl, hE⟩ := he
  exact hR w' hE
theorem ret1 {P : Program} {w w' : World} {pb : Option Nat} (hE : Ext w w') {c : C} {v : Value} (hc : ∀ base pb, RelC base pb w' c v) (hb : blksC c v = []) (hpb : pb = none) : RetRel P w w' none pb ([c], none) v := by
  subst hpb
  refine ⟨hE, fun base pb e tm => hc base pb, ?_, ?_, trivial⟩
  · intro b hm
    have : blks (ofRes [c]) v = [] := hb
    rw [this] at hm; cases hm
  · have : blks (ofRes [c]) v = [] := hb
    rw [this]; simp
theorem ext_below {w w' : World} (h : Below w.heap.size w w') : Ext w w' := ⟨h.os, h.tape, h.output, h.size, fun b hb _ => h.block b hb⟩
theorem ext_grow {w : World} {k : Nat} {os : Array Obj} : Ext w (Go.Sort.grow (w.drewN k) os) :=
  ⟨rfl, rfl, rfl, by simp [Go.Sort.grow, World.drewN], fun b hb _ => by simp only [Go.Sort.grow, World.drewN]; rw [Array.getElem?_append, if_pos hb]⟩
theorem relL_plain {base : Nat} {pb : Option Nat} {w : World} : ∀ {ss : List S} {vs : List Value}, RelL base pb w (ss.map C.s) vs → vs = ss.map S.enc
  | [], _, h => by cases h; rfl
  | s :: ss, _, h => by
    cases h with
    | cons h1 h2 => rw [List.map_cons, relL_plain h2]; congr 1
/-- A function of plain values that hands back one plain value, by its contract. -/
theorem fnIs_lib {P : Program} {G : World → Prop} {ng g : Nat} {fn : Func} {c : Code} (hf : P.funcs[g]? = some fn) (hname : (fn.name == "runtime.NumGoroutine") = false) (hb : fn.body = some c) {A : Fn1}
    (h : ∀ rc cs K r, A rc cs K = some r → rc = none ∧ ∃ ss : List S, cs = ss.map C.s ∧ ∃ s : S, K ([.s s], none) = some r ∧
      ∀ w, G w → Calls P g (ss.map S.enc).toArray w fun e w' => e = .returned s.enc ∧ Ext w w') : FnIs P G ng g A := by
  intro rc cs K r hA w rv pb vs hG hng hrc has hp
  obtain ⟨rfl, ss, rfl, s, hK, hC⟩ := h rc cs K r hA
  obtain ⟨rfl, rfl⟩ := hrc
  have := relL_plain has
  subst this
  refine callOk_of (callFunc_enter hf hname hb) (by simpa using hC w hG) fun w' hE => ⟨_, hK, ?_⟩
  exact ret1 hE (fun base pb => by cases s <;> rfl) (by cases s <;> rfl) rfl
theorem Ext.below {w w' : World} (h : Ext w w') : Below w.heap.size w w' := ⟨h.os, h.tape, h.output, h.size, fun _ hb => h.at hb⟩
/-- A law's call, out of what the function tells. -/
theorem calls_law {P : Program} {G : World → Prop} {ng g : Nat} {A : Fn1} (hF : FnIs P G ng g A) {fn : Func} {c : Code} (hf : P.funcs[g]? = some fn) (hname : (fn.name == "runtime.NumGoroutine") = false) (hb : fn.body = some c)
    {cs : List C} (hA : A none cs some = some ([.s (.bool true)], none)) {w : World} {vs : List Value} (hG : G w) (hng : ng ≤ w.heap.size) (hr : RelL w.heap.size none w cs vs) (hp : cs.all plainC = true) :
    Calls P g vs.toArray w fun e w' => e = .returned (.bool true) ∧ Below w.heap.size w w' := by
  have h := hF none cs some _ hA w [] none vs hG hng ⟨rfl, rfl⟩ hr hp
  rcases h with ⟨-, q2⟩ | ⟨v, w', q1, -⟩
  · refine Calls.mono (show Calls P g vs.toArray w _ from q2) fun e w' he => ?_
    cases e with
    | returned v =>
      obtain ⟨p, hp, hret⟩ := he
      cases hp
      have h1 := hret.1
      have h3 : v = .bool true := hret.2.1 0 none [] #[]
      exact ⟨by rw [h3], Ext.below h1⟩
    | panicked c => exact he.elim
    | outgrown => exact he.elim
  · have h2 := callFunc_enter (w := w) (args := vs.toArray) hf hname hb
    have q1' : (callFunc g vs.toArray).run P w = .ok (.value v) w' := q1
    rw [h2] at q1'
    cases q1'
end Go.Proofs.YtnfjggagenmkjaaDoor.AM
