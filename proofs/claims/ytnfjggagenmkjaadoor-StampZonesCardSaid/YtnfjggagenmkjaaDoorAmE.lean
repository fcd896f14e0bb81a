/- The machine's operations on plain values. -/
import Derived.Test.YtnfjggagenmkjaaDoorAmD
import Derived.Laws.Entries
import Derived.Laws.Strings
import Derived.WalkKit
import Derived.Lib.Strings
import Derived.Laws.StructEq
set_option linter.unusedSimpArgs false
namespace Go.Proofs.YtnfjggagenmkjaaDoor.AM
open Go

theorem toList_mk (l : List UInt8) : (⟨⟨l⟩⟩ : ByteArray).toList = l := by
  rw [ByteArray.toList_eq]
theorem size_mk (l : List UInt8) : (⟨⟨l⟩⟩ : ByteArray).size = l.length := rfl
theorem append_mk (a b : List UInt8) : (⟨⟨a⟩⟩ : ByteArray) ++ ⟨⟨b⟩⟩ = ⟨⟨a ++ b⟩⟩ := by
  apply ByteArray.ext
  simp [ByteArray.data_append]
theorem extract_mk (l : List UInt8) (i j : Nat) : (⟨⟨l⟩⟩ : ByteArray).extract i j = ⟨⟨(l.take j).drop i⟩⟩ := by
  apply ByteArray.ext
  simp [ByteArray.data_extract, List.drop_take]

theorem max_i64 : IntKind.i64.max = 9223372036854775807 := by decide
theorem run_eqGuard_pure {P : Program} {w : World} {op : BinOp} {t : TypeId} {x y : Operand} {a b : Value} (h : eqGuard op t x y a b = pure ()) (s : Sem Value) (r : Result Value)
    (hs : s.run P w = r) : ((do eqGuard op t x y a b; s) : Sem Value).run P w = r := by rw [h]; exact hs

theorem bopI_run {P : Program} {op : BinOp} {k : IntKind} {x y : Int} {K : S → Option Out} {r : Out} (h : bopI op k x y K = some r) :
    ∃ s : S, K s = some r ∧ ∀ t w, (binOp op t (.int k x) (.int k y)).run P w = .ok s.enc w := by
  cases op <;> simp only [bopI] at h <;> first | (cases h; done) | skip
  all_goals first
    | exact ⟨_, h, fun t w => by simp [binOp, Op.intArith, Op.intBits, Op.intCmp, S.enc, Sem.run, pure]⟩
    | skip
  · cases hy : y == 0
    · rw [hy] at h
      have : y ≠ 0 := by simpa using hy
      exact ⟨_, h, fun t w => by simp [binOp, Op.intDiv, this, S.enc, Sem.run, pure]⟩
    · rw [hy] at h; cases h
  · cases hy : y == 0
    · rw [hy] at h
      have : y ≠ 0 := by simpa using hy
      exact ⟨_, h, fun t w => by simp [binOp, Op.intDiv, this, S.enc, Sem.run, pure]⟩
    · rw [hy] at h; cases h
theorem shift_run {P : Program} {op : BinOp} {k k' : IntKind} {x y : Int} {K : S → Option Out} {r : Out} (h : shift op k x y K = some r) :
    ∃ s : S, K s = some r ∧ ∀ w, (Op.shift op k x k' y).run P w = .ok s.enc w := by
  unfold shift at h
  cases hy : decide (y < 0)
  · rw [hy] at h
    have hy' : ¬ y < 0 := by simpa using hy
    cases op <;> simp only [cond_false] at h <;> first | (cases h; done) | exact ⟨_, h, fun w => by simp [Op.shift, hy', S.enc, Sem.run, pure]⟩
  · rw [hy] at h; cases h
theorem bop_run {P : Program} {op : BinOp} {a b : S} {K : S → Option Out} {r : Out} (h : bop op a b K = some r) :
    ∃ s : S, K s = some r ∧ (∀ t w, (binOp op t a.enc b.enc).run P w = .ok s.enc w) ∧ ∀ t x y, eqGuard op t x y a.enc b.enc = pure () := by
  cases a with
  | int k x =>
    cases b with
    | int k' y =>
      by_cases hs : op = .shl ∨ op = .shr
      · rcases hs with rfl | rfl <;> simp only [bop] at h <;> obtain ⟨s, h1, h2⟩ := shift_run (P := P) (k' := k') h <;> exact ⟨s, h1, fun t w => by simpa [binOp, S.enc] using h2 w, fun t x y => by simp [S.enc, go_sem]⟩
      · have : bop op (.int k x) (.int k' y) K = if k = k' then bopI op k x y K else none := by
          cases op <;> first | rfl | simp at hs
        rw [this] at h
        split at h
        · rename_i hk; subst hk
          obtain ⟨s, h1, h2⟩ := bopI_run (P := P) h
          exact ⟨s, h1, h2, fun t x y => by simp [S.enc, go_sem]⟩
        · cases h
    | _ => cases op <;> simp [bop] at h
  | str x =>
    cases b with
    | str y =>
      cases op <;> simp only [bop] at h <;> first | (cases h; done) | skip
      · unfold cat at h
        split at h
        · rename_i hl
          refine ⟨_, h, fun t w => ?_, fun t x y => by simp [S.enc, go_sem]⟩
          simp only [S.enc, binOp, Op.stringOp, size_mk, append_mk, max_i64]
          rw [if_neg (by omega)]; rfl
        · cases h
      all_goals exact ⟨_, h, fun t w => by simp [S.enc, binOp, Op.stringOp, toList_mk, Sem.run, pure], fun t x y => by simp [S.enc, go_sem]⟩
    | _ => cases op <;> simp [bop] at h
  | bool x => cases b <;> cases op <;> simp [bop] at h
  | fn x => cases b <;> cases op <;> simp [bop] at h
  | nils => cases b <;> cases op <;> simp [bop] at h

theorem uop_run {P : Program} {op : UnOp} {a s : S} (h : uop op a = some s) (w : World) : (Op.unary op a.enc).run P w = .ok s.enc w := by
  cases a <;> cases op <;> simp [uop] at h <;> subst h <;> simp [S.enc, Op.unary, Op.intArith, Sem.run, pure]

theorem eqT_run {P : Program} {a b : S} {t : TypeId} {r : Bool} (h : eqT (P.underlying t) a b = some r) (n : Nat) (w : World) : (Op.equalIn (n + 1) t a.enc b.enc).run P w = .ok r w := by
  unfold eqT at h
  split at h <;> first | (cases h; done) | skip
  · rename_i k x y hk hu
    split at h
    · rename_i hkk; cases h; subst hkk
      exact run_equalIn_int w n t _ _ _ _ hu
    · cases h
  · rename_i hu; cases h
    exact run_equalIn_bool w n t _ _ hu
  · rename_i x y hu; cases h
    have hq := run_equalIn_string w n t (⟨⟨x⟩⟩ : ByteArray) ⟨⟨y⟩⟩ hu
    rw [toList_mk, toList_mk] at hq
    exact hq
theorem eqT_plain {P : Program} {a b : S} {t : TypeId} {r : Bool} (h : eqT (P.underlying t) a b = some r) (w : World) : (isAgg t).run P w = .ok false w := by
  unfold eqT at h
  split at h <;> first | (cases h; done) | skip
  all_goals (rename_i hu; simp [isAgg, run_underlying hu])
theorem part_plain {P : Program} {t : TypeId} {cs : Array Value} {i : Nat} {v : Value} {w : World} (ha : (isAgg t).run P w = .ok false w) (hv : cs[i]? = some v) : (part t cs i).run P w = .ok v w := by
  simp [part, ha, hv]
theorem eqF_run {P : Program} (fs : List Field) : ∀ (pre x pre' y : List S) (r : Bool) (w : World), pre.length = pre'.length → eqF P fs pre.length x y = some r →
    (Op.eqFields 9999 ((pre ++ x).map S.enc).toArray ((pre' ++ y).map S.enc).toArray fs).run P w = .ok r w := by
  induction fs with
  | nil =>
    intro pre x pre' y r w hl h
    cases x <;> cases y <;> simp [eqF] at h
    subst h
    simp [Op.eqFields]
  | cons f fs ih =>
    intro pre x pre' y r w hl h
    cases x with
    | nil => simp [eqF] at h
    | cons a x =>
      cases y with
      | nil => simp [eqF] at h
      | cons b y =>
        simp only [eqF] at h
        split at h
        · rename_i p q h1 h2 h3
          cases h
          simp only [Bool.and_eq_true, beq_iff_eq, bne_iff_ne, ne_eq] at h1
          have hp := eqT_plain h2 w
          have e1 : (((pre ++ a :: x).map S.enc).toArray)[f.offset]? = some a.enc := by rw [h1.1]; simp
          have e2 : (((pre' ++ b :: y).map S.enc).toArray)[f.offset]? = some b.enc := by rw [h1.1, hl]; simp
          have ih' := ih (pre ++ [a]) x (pre' ++ [b]) y q w (by simp [hl]) (by simpa using h3)
          simp only [Op.eqFields, ne_eq, h1.2, not_false_eq_true, if_true, Sem.run_bind, part_plain hp e1, part_plain hp e2, Result.andThen_ok, eqT_run h2]
          cases p
          · simp
          · simpa using ih'
        · cases h
theorem underlying_fieldsOf {P : Program} {t : TypeId} {fs : Array Field} (h : P.underlying t = some (.struct fs)) : P.fieldsOf t = fs := by simp [Program.fieldsOf, h]
theorem eqAgg_run {P : Program} {t : TypeId} {x y : Xs} {r : Bool} (h : eqAgg P t x y = some r) (w : World) :
    (Op.equalIn 10000 t (.agg x.enc.toArray) (.agg y.enc.toArray)).run P w = .ok r w ∧ ∀ op a b, (eqGuard op t a b (.agg x.enc.toArray) (.agg y.enc.toArray)).run P w = .ok () w := by
  unfold eqAgg at h
  split at h
  · rename_i fs h1 h2
    simp only [Bool.and_eq_true, Bool.not_eq_true'] at h2
    refine ⟨?_, fun op a b => run_eqGuard_agg w op t a b _ _ h2.2⟩
    rw [run_equalIn_struct w 9999 t _ _ (by rw [underlying_fieldsOf h1]; exact h1) h2.1, underlying_fieldsOf h1]
    simpa [Xs.enc] using eqF_run fs.toList [] x.toS [] y.toS r w rfl h
  · cases h
end Go.Proofs.YtnfjggagenmkjaaDoor.AM
