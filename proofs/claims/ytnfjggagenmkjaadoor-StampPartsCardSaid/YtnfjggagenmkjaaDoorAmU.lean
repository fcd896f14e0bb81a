/- Functions by what they tell. -/
import Derived.Test.YtnfjggagenmkjaaDoorAmT
namespace Go.Proofs.YtnfjggagenmkjaaDoor.AM
open Go

abbrev Fn1 := Option (Nat × Xs) → List C → (Out → Option Out) → Option Out
/-- A function of the program tells what 'A' tells. -/
def FnIs (P : Program) (G : World → Prop) (ng : Nat) (g : Nat) (A : Fn1) : Prop := ∀ rc cs K r, A rc cs K = some r → ∀ w rv pb vs, G w → ng ≤ w.heap.size → RecvRel P ng w rc rv pb → RelL w.heap.size pb w cs vs → cs.all plainC = true →
  CallOk P g (rv ++ vs).toArray w fun v w' => ∃ p, K p = some r ∧ RetRel P w w' rc pb p v
def lookG : List (Nat × Fn1) → Gam
  | [], _ => fun _ _ _ => none
  | (h, A) :: l, g => match Nat.beq h g with | true => A | false => lookG l g
theorem lookG_ok {P : Program} {G : World → Prop} {ng : Nat} : ∀ {l : List (Nat × Fn1)}, (∀ p, p ∈ l → FnIs P G ng p.1 p.2) → ∀ g, FnOk P G ng (lookG l) g
  | [], _, g => fun rc cs K r h => by cases h
  | (h, A) :: l, hl, g => by
    intro rc cs K r hK
    unfold lookG at hK
    cases hb : Nat.beq h g with
    | true =>
      rw [hb] at hK
      have : h = g := Nat.eq_of_beq_eq_true hb
      subst this
      exact hl (h, A) (by simp) rc cs K r hK
    | false =>
      rw [hb] at hK
      exact lookG_ok (fun p hp => hl p (by simp [hp])) g rc cs K r hK
theorem spec_run {P : Program} {G : World → Prop} {ng : Nat} {nn : Nat} {Lv : Nat → Option (List (Nat × Co))} {Cut : Nat → Env → (Env → Option Out) → Option Out} (hC : ∀ key e t, Cut key e t = t e) (S : Stays P G ng) {l : List (Nat × Fn1)} (hl : ∀ p, p ∈ l → FnIs P G ng p.1 p.2) {g : Nat} {fn : Func} (hf : P.funcs[g]? = some fn) (hname : (fn.name == "runtime.NumGoroutine") = false) {k : Nat} {A : Fn1}
    (hA : ∀ rc cs K r, A rc cs K = some r → ∃ K', runK P (lookG l) nn Lv Cut k fn rc cs K' = some r ∧ ∀ p, K' p = some r → K p = some r) : FnIs P G ng g A := by
  intro rc cs K r h w rv pb vs hG hng hrc has hp
  obtain ⟨K', h1, h2⟩ := hA rc cs K r h
  have := run_ok S hC (lookG_ok hl) hf hname h1 hG hng hrc has hp
  rcases this with ⟨q1, q2⟩ | ⟨v, w', q1, p, q2, q3⟩
  · refine .inl ⟨q1, Calls.mono q2 fun e w' he => ?_⟩
    cases e with
    | returned v => obtain ⟨p, q3, q4⟩ := he; exact ⟨p, h2 p q3, q4⟩
    | panicked c => exact he
    | outgrown => exact he
  · exact .inr ⟨v, w', q1, p, h2 p q2, q3⟩
def cut0 : Nat → Env → (Env → Option Out) → Option Out := fun _ e t => t e
theorem cut0_eq (key : Nat) (e : Env) (t : Env → Option Out) : cut0 key e t = t e := rfl
/-- How often a loop may go round: more often than a row can have cells. -/
def big : Nat := 2 ^ 70
theorem FnIs.weaken {P : Program} {G : World → Prop} {ng g : Nat} {A A' : Fn1} (h : FnIs P G ng g A) (hw : ∀ rc cs K r, A' rc cs K = some r → A rc cs K = some r) : FnIs P G ng g A' :=
  fun rc cs K r hA => h rc cs K r (hw rc cs K r hA)
end Go.Proofs.YtnfjggagenmkjaaDoor.AM
