/- The interpreter's regions are the machine's. -/
import Derived.Test.YtnfjggagenmkjaaDoorAmP
set_option linter.unusedSimpArgs false
namespace Go.Proofs.YtnfjggagenmkjaaDoor.AM
open Go

/-- What stands throughout a run of a function. -/
structure Ctx (P : Program) (G : World → Prop) (ng base : Nat) (pb : Option Nat) (w0 : World) (Γ : Gam) : Prop where
  fn : ∀ g, FnOk P G ng Γ g
  good : ∀ w', Keep base pb w0 w' → G w'
  low : ng ≤ base ∧ ∀ b, pb = some b → ng ≤ b
  mixed : P.follows .mixedOrders = true
/-- What a run leaves of a frame. -/
def Pin (z : Bool) (a a' : Act) : Prop := a'.defers = a.defers ∧ (z = true → a'.tmps.getD 0 undef = a.tmps.getD 0 undef)
theorem Pin.refl (z : Bool) (a : Act) : Pin z a a := ⟨rfl, fun _ => rfl⟩
theorem Pin.trans {z : Bool} {a b c : Act} (h : Pin z a b) (k : Pin z b c) : Pin z a c := ⟨k.1.trans h.1, fun hz => (k.2 hz).trans (h.2 hz)⟩

variable {P : Program} {G : World → Prop} {ng : Nat} {base : Nat} {pb : Option Nat} {w0 w w' : World} {e : Env} {a : Act} {Γ : Gam} {nn : Nat}
variable {K : Env → Option Out} {r : Out} {next : Act → World → Prop} {Q : Exit → Act → World → Prop} {o : Oper}

theorem set_self {d : Nat} {v : V} (h : e.getD d .u = v) : e.set d v = e := by
  by_cases hd : d < e.length
  · apply List.ext_getElem?
    intro i
    rw [List.getElem?_set]
    by_cases hi : d = i
    · subst hi
      rw [if_pos rfl, if_pos hd, ← h, List.getD_eq_getElem?_getD, List.getElem?_eq_getElem hd]; rfl
    · rw [if_neg hi]
  · exact List.set_eq_of_length_le (by omega)
/-- What an operation behind a guard comes to. -/
theorem stepK_cases (h : Sim P base pb w0 w e a.tmps) {ops : Array Oper} (hK : stepK P Γ nn ops.toList o e K = some r) :
    (Region.wanted o (yielded ops a.tmps) = true ∧ opK P Γ nn e o K = some r) ∨ (Region.wanted o (yielded ops a.tmps) = false ∧ K (putO e o.dst (.tup [])) = some r) := by
  unfold stepK at hK
  split at hK
  · rename_i hg
    exact .inl ⟨by simp [Region.wanted, hg], hK⟩
  · rename_i j want hg
    split at hK
    · cases hK
    · rename_i d hd
      split at hK
      · rename_i t ht
        have hr := h.rel d
        rw [ht] at hr
        have hr' : a.tmps.getD d undef = .bool t := hr
        have htm : a.tmps[d]? = some (.bool t) := by
          rw [Array.getD_eq_getD_getElem?] at hr'
          cases hq : a.tmps[d]? with
          | none => rw [hq] at hr'; simp [undef] at hr'
          | some v => rw [hq] at hr'; exact congrArg some hr'
        have hy : yielded ops a.tmps j = some t := by
          unfold yielded
          rw [Array.getElem?_toList] at hd
          rw [hd]
          simp [htm]
        have hw : Region.wanted o (yielded ops a.tmps) = (t == want) := by
          simp only [Region.wanted, hg, hy]; cases t <;> cases want <;> rfl
        rw [hw]
        cases t with
        | true =>
          rw [set_self ht] at hK
          cases want with
          | true => exact .inl ⟨rfl, hK⟩
          | false => exact .inr ⟨rfl, hK⟩
        | false =>
          rw [set_self ht] at hK
          cases want with
          | true => exact .inr ⟨rfl, hK⟩
          | false => exact .inl ⟨rfl, hK⟩
      · rename_i ht
        have hr := h.rel d
        rw [ht] at hr
        obtain ⟨vs, hr1, hr2⟩ := hr
        cases hr2
        refine .inr ⟨?_, hK⟩
        rw [Array.getElem?_toList] at hd
        have hy : yielded ops a.tmps j = none := by
          unfold yielded
          rw [hd]
          rw [Array.getD_eq_getD_getElem?] at hr1
          cases hq : a.tmps[d]? with
          | none => simp [hq]
          | some v => rw [hq] at hr1; have hv : v = .tuple [].toArray := hr1; subst hv; simp [hq]
        simp only [Region.wanted, hg, hy]
        rfl
      · cases hK
theorem Sim.skip (h : Sim P base pb w0 w e a.tmps) (d : Option Nat) : Sim P base pb w0 w (putO e d (.tup [])) (a.put d undef).tmps := h.putO0 a rfl d (.tup []) undef ⟨[], rfl, .nil⟩ rfl

theorem forceV_eq (v : V) (K : V → Option Out) : forceV v K = K v := by cases v <;> rfl
theorem forceE_eq : ∀ (e : Env) (K : Env → Option Out), forceE e K = K e
  | [], _ => rfl
  | v :: e, K => by simp only [forceE, forceV_eq, forceE_eq e]
/-- A region that does not draw. -/
theorem opsK_wp (C : Ctx P G ng base pb w0 Γ) {z : Bool} {ops : Array Oper} (hz : z = true → ∀ o ∈ ops.toList, o.dst ≠ some 0) : ∀ (os : List Oper) (i : Nat) (e : Env) (a : Act) (w : World), ops.toList.drop i = os → opsK P Γ nn ops.toList os e K = some r → Sim P base pb w0 w e a.tmps →
    (∀ e' a' w', K e' = some r → Sim P base pb w0 w' e' a'.tmps → Pin z a a' → Q .normal a' w') → wpOps P ops Q (List.range' i os.length) a w
  | [], i, e, a, w, _, hK, h, hQ => hQ e a w hK h (Pin.refl _ _)
  | o :: os, i, e, a, w, ho, hK, h, hQ => by
    have hi : ops[i]? = some o := by
      have := congrArg (·[0]?) ho
      simpa [List.getElem?_drop] using this
    have hos : ops.toList.drop (i + 1) = os := by
      rw [← List.drop_drop, ho]; rfl
    have hmem : o ∈ ops.toList := List.mem_of_getElem? (i := i) (by rw [Array.getElem?_toList]; exact hi)
    simp only [List.length_cons, List.range'_succ, wpOps, hi]
    rcases stepK_cases h hK with ⟨hw, hK⟩ | ⟨hw, hK⟩
    · rw [if_pos hw]
      refine .inl ((opK_told C.fn (C.good w h.keep) C.low h hK).wp h fun e' a' w' hK' h' hpin _ => ?_)
      have hp : Pin z a a' := ⟨hpin.1, fun hz1 => hpin.2 0 (hz hz1 o hmem)⟩
      replace hK' := (forceE_eq _ _).symm.trans hK'
      exact opsK_wp C hz os (i + 1) e' a' w' hos hK' h' fun e2 a2 w2 k1 k2 k3 => hQ e2 a2 w2 k1 k2 (hp.trans k3)
    · rw [if_neg (by rw [hw]; simp)]
      have hp : Pin z a (a.put o.dst undef) := ⟨(put_keeps a o.dst undef).1, fun hz1 => (put_keeps a o.dst undef).2 0 (hz hz1 o hmem)⟩
      replace hK := (forceE_eq _ _).symm.trans hK
      exact opsK_wp C hz os (i + 1) _ _ w hos hK (h.skip o.dst) fun e2 a2 w2 k1 k2 k3 => hQ e2 a2 w2 k1 k2 (hp.trans k3)
theorem region_wp (C : Ctx P G ng base pb w0 Γ) {z : Bool} {id : Nat} {ops : Array Oper} (hz : z = true → ∀ o ∈ ops.toList, o.dst ≠ some 0) (hK : opsK P Γ nn ops.toList ops.toList e K = some r) (h : Sim P base pb w0 w e a.tmps)
    (hQ : ∀ e' a' w', K e' = some r → Sim P base pb w0 w' e' a'.tmps → Pin z a a' → Q .normal a' w') : (Code.region id ops false).wp P Q a w := by
  refine wp_region ?_
  have := opsK_wp C (Q := Q) hz ops.toList 0 e a w rfl hK h hQ
  rw [List.range_eq_range']
  rwa [Array.length_toList] at this
end Go.Proofs.YtnfjggagenmkjaaDoor.AM
