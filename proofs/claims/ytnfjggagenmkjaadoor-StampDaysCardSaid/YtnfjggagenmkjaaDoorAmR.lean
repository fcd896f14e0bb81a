/- The interpreter's regions are the machine's: those that draw their order. -/
import Derived.Test.YtnfjggagenmkjaaDoorAmQ
set_option linter.unusedSimpArgs false
namespace Go.Proofs.YtnfjggagenmkjaaDoor.AM
open Go

section
variable {P : Program} {ops : Array Oper} {Q : Exit → Act → World → Prop}

/-- What an operation yields in each world of a class. -/
def YE (P : Program) (ops : Array Oper) (E : World → Prop) (o : Oper) (v : Value) (a : Act) : Prop :=
  (Region.wanted o (yielded ops a.tmps) = true ∧ ∀ w, E w → (execOp a.eval o).run P w = .ok (.value v) w) ∨ (Region.wanted o (yielded ops a.tmps) = false ∧ v = undef)
theorem YE.step {E : World → Prop} {i : Nat} {o : Oper} {v : Value} {a : Act} {w : World} (hi : ops[i]? = some o) (hy : YE P ops E o v a) (hE : E w) {K : Act → World → Prop} (h : K (a.put o.dst v) w) : wpOp P ops Q i K a w := by
  unfold wpOp
  rw [hi]
  dsimp only
  rcases hy with ⟨h1, h2⟩ | ⟨h1, rfl⟩
  · rw [if_pos h1]; unfold Oper.wp; rw [h2 w hE]; exact .inl h
  · rw [if_neg (by rw [h1]; simp)]; exact h
/-- An operation that stands apart from another one may come ahead of it. -/
theorem wpOp_ahead {E : World → Prop} {j : Nat} {oi oj : Oper} {v : Value} (hj : ops[j]? = some oj) (hap : oi.apart ops oj = true) (hsi : ∀ cs b, oi.op ≠ .select cs b) (hsj : ∀ cs b, oj.op ≠ .select cs b)
    (hQ : ∀ c a w, ¬ Q (.panic c) a w) (hO : ¬ LetsOut Q) {K : Act → World → Prop} {a : Act} {w : World} (hy : YE P ops E oi v a) (h : wpOp P ops Q j K (a.put oi.dst v) w) :
    wpOp P ops Q j (fun a' w' => YE P ops E oi v a' ∧ K (a'.put oi.dst v) w') a w := by
  obtain ⟨q1, q2, q3⟩ := Oper.apart_spec hap
  have stays : ∀ b : Act, YE P ops E oi v b → ∀ u, YE P ops E oi v (b.put oj.dst u) := by
    intro b hb u
    unfold YE
    rw [execOp_put (ops := ops) oi hsi b oj.dst u q3, wanted_put oi b oj.dst u q3]
    exact hb
  have swap : ∀ u, (a.put oi.dst v).put oj.dst u = (a.put oj.dst u).put oi.dst v := fun u => Act.put_comm a v u q2
  unfold wpOp at h ⊢
  rw [hj] at h ⊢
  dsimp only at h ⊢
  rw [wanted_put oj a oi.dst v q1] at h
  by_cases hw : Region.wanted oj (yielded ops a.tmps) = true
  · rw [if_pos hw] at h ⊢
    rcases h with h | ⟨-, h⟩
    · refine .inl ?_
      unfold Oper.wp at h ⊢
      rw [execOp_put (ops := ops) oj hsj a oi.dst v q1] at h
      cases hr : (execOp a.eval oj).run P w with
      | ok n w' =>
        rw [hr] at h
        cases n with
        | value u => exact ⟨stays a hy u, by rw [← swap]; exact h⟩
        | skip => exact ⟨stays a hy undef, by rw [← swap]; exact h⟩
        | enter f args =>
          refine Calls.mono h fun en w'' hen => ?_
          cases en with
          | returned u => exact ⟨stays a hy u, by rw [← swap]; exact hen⟩
          | panicked c => exact absurd hen (hQ _ _ _)
          | outgrown => exact hen
        | row row args => exact Rows.mono h fun u w'' hu => ⟨stays a hy u, by rw [← swap]; exact hu⟩
        | defer d =>
          refine ⟨stays { a with defers := d :: a.defers } hy undef, ?_⟩
          have h' : K ({ a.put oi.dst v with defers := d :: (a.put oi.dst v).defers }.put oj.dst undef) w' := h
          rw [Act.put_defers a oi.dst v d, Act.put_comm _ v undef q2] at h'
          exact h'
        | _ => exact h.elim
      | halt x w' =>
        rw [hr] at h
        cases x with
        | panic u => exact absurd h (hQ _ _ _)
        | _ => exact h.elim
    · exact absurd h hO
  · rw [if_neg hw] at h ⊢
    exact ⟨stays a hy undef, by rw [← swap]; exact h⟩

/-- One operation waits for another, at once or through others. -/
inductive Dep (ops : Array Oper) : Nat → Nat → Prop
  | one {j i} : i ∈ onsOf ops.toList j → Dep ops j i
  | more {j k i} : k ∈ onsOf ops.toList j → Dep ops k i → Dep ops j i
def Shut (ops : Array Oper) (listed : Array Bool) : Prop := ∀ j, listed.getD j false = true → ∀ i, i ∈ onsOf ops.toList j → listed.getD i false = true
theorem onsOf_after {j i : Nat} (h : i ∈ onsOf ops.toList j) : ∃ o, ops[j]? = some o ∧ ∃ e ∈ o.after, Region.binds .any e = true ∧ e.on = i := by
  unfold onsOf at h
  rw [Array.getElem?_toList] at h
  split at h
  · rename_i o ho
    obtain ⟨e, he, h2⟩ := List.mem_filterMap.1 h
    refine ⟨o, ho, e, by simpa using he, ?_⟩
    split at h2
    · rename_i hb; cases h2; exact ⟨hb, rfl⟩
    · cases h2
  · cases h
theorem ready_ons {listed : Array Bool} {j i : Nat} (hr : j ∈ Region.ready .any ops listed) (h : i ∈ onsOf ops.toList j) : listed.getD i false = true := by
  obtain ⟨-, o, ho, hall⟩ := mem_ready.1 hr
  obtain ⟨o', ho', e, he, hb, rfl⟩ := onsOf_after h
  rw [ho] at ho'; cases ho'
  exact hall e he hb
theorem dep_listed {listed : Array Bool} (hs : Shut ops listed) {k i : Nat} (h : Dep ops k i) : listed.getD k false = true → listed.getD i false = true := by
  induction h with
  | one h => exact fun hk => hs _ hk _ h
  | more h _ ih => exact fun hk => ih (hs _ hk _ h)
theorem unlisted {listed : Array Bool} {i : Nat} (h : listed.getD i true = false) : listed.getD i false = false := by
  simp only [Array.getD_eq_getD_getElem?] at h ⊢
  cases hi : listed[i]? with
  | none => rfl
  | some v => rw [hi] at h; exact h
theorem ready_nodep {listed : Array Bool} (hs : Shut ops listed) {j i : Nat} (hr : j ∈ Region.ready .any ops listed) (hi : listed.getD i true = false) : ¬ Dep ops j i := by
  intro h
  have hl := unlisted hi
  cases h with
  | one h => rw [ready_ons hr h] at hl; cases hl
  | more h k => rw [dep_listed hs k (ready_ons hr h)] at hl; cases hl
theorem Shut.set {listed : Array Bool} (hs : Shut ops listed) {j : Nat} (hr : j ∈ Region.ready .any ops listed) : Shut ops (listed.setIfInBounds j true) := by
  intro k hk i hi
  by_cases hjk : j = k
  · subst hjk; exact getD_set_true (ready_ons hr hi)
  · rw [getD_set_ne false hjk] at hk; exact getD_set_true (hs k hk i hi)

/-- A world that has grown, but in some blocks. -/
def Like (X : Nat → Prop) (u w : World) : Prop := w.os = u.os ∧ w.tape = u.tape ∧ w.output = u.output ∧ u.heap.size ≤ w.heap.size ∧ ∀ b, b < u.heap.size → ¬ X b → w.heap[b]? = u.heap[b]?
theorem Like.refl (X : Nat → Prop) (u : World) : Like X u u := ⟨rfl, rfl, rfl, Nat.le_refl _, fun _ _ _ => rfl⟩
theorem Like.trans {X : Nat → Prop} {a b c : World} (h : Like X a b) (k : Like X b c) : Like X a c :=
  ⟨k.1.trans h.1, k.2.1.trans h.2.1, k.2.2.1.trans h.2.2.1, Nat.le_trans h.2.2.2.1 k.2.2.2.1, fun i hi hx => (k.2.2.2.2 i (Nat.lt_of_lt_of_le hi h.2.2.2.1) hx).trans (h.2.2.2.2 i hi hx)⟩
theorem Ext.like {X : Nat → Prop} {u w : World} (h : Ext u w) : Like X u w := ⟨h.os, h.tape, h.output, h.size, fun _ hb _ => h.at hb⟩
theorem Like.ext {X : Nat → Prop} (hX : ∀ b, ¬ X b) {u w : World} (h : Like X u w) : Ext u w := ⟨h.1, h.2.1, h.2.2.1, h.2.2.2.1, fun b hb _ => h.2.2.2.2 b hb (hX b)⟩
/-- Whatever order is drawn; and, as long as what told something is not waited for, the world only grows. -/
def wpE (P : Program) (ops : Array Oper) (X : Nat → Prop) (Q : Exit → Act → World → Prop) : Nat → (Nat → World → Prop) → Array Bool → Act → World → Prop
  | 0, _, listed, a, w => Region.ready .any ops listed = [] ∧ Q .normal a w
  | f + 1, pen, listed, a, w => (Region.ready .any ops listed = [] → Q .normal a w) ∧ ∀ j, j ∈ Region.ready .any ops listed →
      wpOp P ops Q j (fun a' w' => (∀ i v, pen i v → ¬ Dep ops j i → Like X v w') ∧ wpE P ops X Q f (fun i v => pen i v ∧ ¬ Dep ops j i) (listed.setIfInBounds j true) a' w') a w
theorem wpE_mono {X : Nat → Prop} : ∀ (f : Nat) {pen pen' : Nat → World → Prop} {listed : Array Bool} {a : Act} {w : World}, (∀ i v, pen' i v → pen i v) → wpE P ops X Q f pen listed a w → wpE P ops X Q f pen' listed a w
  | 0, _, _, _, _, _, _, h => h
  | f + 1, _, _, _, _, _, hp, h => ⟨h.1, fun j hj => wpOp_mono (fun _ _ hh => ⟨fun i v hi hd => hh.1 i v (hp i v hi) hd, wpE_mono f (fun i v hi => ⟨hp i v hi.1, hi.2⟩) hh.2⟩) (h.2 j hj)⟩
theorem wpAny_of_wpE {X : Nat → Prop} : ∀ (f : Nat) {pen : Nat → World → Prop} {listed : Array Bool} {a : Act} {w : World}, wpE P ops X Q f pen listed a w → wpAny P .any ops Q f listed a w
  | 0, _, _, _, _, h => h
  | f + 1, _, _, _, _, h => ⟨h.1, fun j hj => wpOp_mono (fun _ _ hh => wpAny_of_wpE f hh.2) (h.2 j hj)⟩
/-- What tells, and stands apart, may go first. -/
theorem wpE_first {X : Nat → Prop} {E : World → Prop} {i : Nat} {oi : Oper} {v : Value} (hi : ops[i]? = some oi) (hsel : ∀ (j : Nat) (o : Oper) cs b, ops[j]? = some o → o.op ≠ .select cs b) (hQ : ∀ c a w, ¬ Q (.panic c) a w) (hO : ¬ LetsOut Q) :
    ∀ (f : Nat) (pen : Nat → World → Prop) (new : World → Prop) (listed : Array Bool) (a : Act) (w : World), Shut ops listed →
      (∀ j oj, ops[j]? = some oj → j ≠ i → listed.getD j true = false → (∀ e ∈ oj.after, Region.binds .any e = true → e.on ≠ i) → oi.apart ops oj = true) →
      i ∈ Region.ready .any ops listed → YE P ops E oi v a → E w → (∀ w', (∀ u, new u → Like X u w') → E w') → (∀ k u, pen k u → Like X u w) →
      wpE P ops X Q f (fun k u => pen k u ∨ (k = i ∧ new u)) (listed.setIfInBounds i true) (a.put oi.dst v) w → wpE P ops X Q (f + 1) pen listed a w := by
  intro f
  induction f with
  | zero =>
    intro pen new listed a w hs _ hr hy hE hnew hp H
    refine ⟨fun h => (by rw [h] at hr; cases hr), fun j hj => ?_⟩
    by_cases hji : j = i
    · subst hji
      exact hy.step hi hE ⟨fun k u hk _ => hp k u hk, H⟩
    · have := ready_mono hj hji
      rw [H.1] at this; cases this
  | succ f ih =>
    intro pen new listed a w hs hfree hr hy hE hnew hp H
    refine ⟨fun h => (by rw [h] at hr; cases hr), fun j hj => ?_⟩
    by_cases hji : j = i
    · subst hji
      exact hy.step hi hE ⟨fun k u hk _ => hp k u hk, wpE_mono _ (fun k u hk => .inl hk.1) H⟩
    · obtain ⟨hjun, oj, hoj, hall⟩ := mem_ready.1 hj
      have hiun := (mem_ready.1 hr).1
      have hnd := ready_nodep hs hj hiun
      have hnot : ∀ e ∈ oj.after, Region.binds .any e = true → e.on ≠ i := by
        intro e he hb heq
        have h1 := hall e he hb
        rw [heq, unlisted hiun] at h1; cases h1
      have h2 := wpOp_ahead (E := E) hoj (hfree j oj hoj hji hjun hnot) (fun cs b => hsel i oi cs b hi) (fun cs b => hsel j oj cs b hoj) hQ hO hy (H.2 j (ready_mono hj hji))
      refine wpOp_mono (fun a' w' h3 => ?_) h2
      obtain ⟨h4, h5, h6⟩ := h3
      refine ⟨fun k u hk hd => h5 k u (.inl hk) hd, ?_⟩
      refine ih (fun k u => pen k u ∧ ¬ Dep ops j k) new (listed.setIfInBounds j true) a' w' (hs.set hj) ?_ (ready_mono hr (Ne.symm hji)) h4 (hnew w' fun u hu => h5 i u (.inr ⟨rfl, hu⟩) hnd) hnew (fun k u hk => h5 k u (.inl hk.1) hk.2) ?_
      · intro k ok hk hki hun hno
        refine hfree k ok hk hki ?_ hno
        by_cases hjk : j = k
        · subst hjk; exact hjun
        · rw [getD_set_ne true hjk] at hun; exact hun
      · rw [Array.setIfInBounds_comm _ _ hji]
        refine wpE_mono _ (fun k u hk => ?_) h6
        rcases hk with hk | ⟨rfl, hk⟩
        · exact ⟨.inl hk.1, hk.2⟩
        · exact ⟨.inr ⟨rfl, hk⟩, hnd⟩
theorem ancL_dep {j : Nat} : ∀ (f : Nat) (S : List Nat), (∀ i, i ∈ S → Dep ops j i) → ∀ i, i ∈ ancL ops.toList f S → Dep ops j i
  | 0, S, h, i, hi => h i hi
  | f + 1, S, h, i, hi => by
    refine ancL_dep f _ (fun k hk => ?_) i hi
    rcases List.mem_append.1 hk with hk | hk
    · exact h k hk
    · obtain ⟨hk, -⟩ := List.mem_filter.1 hk
      obtain ⟨m, hm, hk⟩ := List.mem_flatMap.1 (List.mem_eraseDups.1 hk)
      have : ∀ {x y z}, Dep ops x y → z ∈ onsOf ops.toList y → Dep ops x z := by
        intro x y z hxy hz
        induction hxy with
        | one h => exact .more h (.one hz)
        | more h _ ih => exact .more h (ih hz)
      exact this (h m hm) hk
end

variable {P : Program} {G : World → Prop} {ng : Nat} {base : Nat} {pb : Option Nat} {w0 w w' : World} {e : Env} {a : Act} {Γ : Gam} {nn : Nat}
variable {K : Env → Option Out} {r : Out} {next : Act → World → Prop} {Q : Exit → Act → World → Prop} {o : Oper}

theorem isLate_some {D : List Nat} (h : isLate D o = true) : ∃ t s y, o.op = .store t (.tmp s) y ∧ s ∈ D := by
  unfold isLate at h
  split at h
  · rename_i t s y hop; exact ⟨t, s, y, hop, by simpa using h⟩
  · cases h
theorem lates_dst {ops : List Oper} : ∀ s, s ∈ lates ops → ∀ o ∈ ops, o.dst ≠ some s := by
  intro s hs o ho hd
  unfold lates at hs
  obtain ⟨p, -, hp⟩ := List.mem_filterMap.1 hs
  split at hp
  · split at hp
    · rename_i hall
      cases hp
      have := List.all_eq_true.1 hall o ho
      rw [hd] at this
      simp at this
    · cases hp
  · cases hp
/-- What a load tells is one as long as the variables that are stored late alone have turned. -/
theorem ldOk_of {D : List Nat} {X : Nat → Prop} {tm0 : Array Value} (hX : ∀ b, X b ↔ ∃ s ∈ D, b ∈ blkOf (tm0.getD s undef)) (hT : ∀ s, s ∈ D → a.tmps.getD s undef = tm0.getD s undef) (h : Sim P base pb w0 w e a.tmps) (hd : dOk D e o = true) (hm : memO o = true) (hK : opK P Γ nn e o K = some r)
    (hw : Like X w w') : Ext w w' ∨ LdOk P base pb e a o w' := by
  cases hDD : D with
  | nil => exact .inl (hw.ext fun b hb => by obtain ⟨s, hs, -⟩ := (hX b).1 hb; rw [hDD] at hs; cases hs)
  | cons d0 D0 =>
    have hd' : (match o.op with
        | .load _ x => (match ev e x with
          | .via s _ => !D.contains s && D.all fun d => isBox (e.getD d .u)
          | .tup [] => true
          | _ => false)
        | _ => false) = true := by
      rw [hDD] at hd ⊢
      unfold dOk at hd
      rw [hm] at hd
      exact hd
    split at hd'
    · rename_i t x hop
      split at hd'
      · rename_i s off hx
        have hs : ldSlot e o = some s := by simp only [ldSlot, hop, hx]
        simp only [Bool.and_eq_true, List.all_eq_true] at hd'
        obtain ⟨hd1, hd2⟩ := hd'
        have hsD : s ∉ D := by simpa using hd1
        have hbx : ∀ d, d ∈ D → ∀ b, b ∈ blkOf (a.tmps.getD d undef) → b ∈ blks (e.getD d .u) (a.tmps.getD d undef) := by
          intro d hdD b hb
          have := hd2 d hdD
          unfold isBox at this
          split at this
          · rename_i T x heq; rw [heq]; exact hb
          · cases this
        refine .inr ⟨s, hs, (h.rel s).mono (fun b hb => ?_) fun b hb hpb => ?_⟩
        · refine hw.2.2.2.2 b (h.own s b hb).1 fun hxb => ?_
          obtain ⟨d, hdD, hbd⟩ := (hX b).1 hxb
          rw [← hT d hdD] at hbd
          have hne : s ≠ d := by rintro rfl; exact hsD hdD
          exact h.dist s d hne b hb (hbx d hdD b hbd)
        · refine hw.2.2.2.2 b (Nat.lt_of_lt_of_le hb h.low) fun hxb => ?_
          obtain ⟨d, hdD, hbd⟩ := (hX b).1 hxb
          rw [← hT d hdD] at hbd
          rcases (h.own d b (hbx d hdD b hbd)).2 with h' | h'
          · omega
          · exact hpb h'
      · rename_i hx
        unfold opK at hK
        rw [hop] at hK
        dsimp only at hK
        rw [hx] at hK
        cases hK
      · cases hd'
    · cases hd'
theorem drawK_wp (C : Ctx P G ng base pb w0 Γ) {z : Bool} {ops : Array Oper} (hz : z = true → ∀ o ∈ ops.toList, o.dst ≠ some 0) (hsel : Region.noSelect ops = true) (hQp : ∀ c a w, ¬ Q (.panic c) a w) (hQo : ¬ LetsOut Q) {D : List Nat} (hD : ∀ s, s ∈ D → ∀ o ∈ ops.toList, o.dst ≠ some s) {X : Nat → Prop} {tm0 : Array Value} (hX : ∀ b, X b ↔ ∃ s ∈ D, b ∈ blkOf (tm0.getD s undef)) :
    ∀ (f : Nat) (l : List (Nat × Bool)) (mem : List Nat) (pen : Nat → World → Prop) (listed : Array Bool) (e : Env) (a : Act) (w : World), planGo P D ops.toList f listed mem = some l → drawK P Γ nn D ops.toList l e K = some r → Sim P base pb w0 w e a.tmps → Shut ops listed → (∀ s, s ∈ D → a.tmps.getD s undef = tm0.getD s undef) →
      (∀ k u, pen k u → k ∈ mem) → (∀ k u, pen k u → Like X u w) → (∀ e' a' w', K e' = some r → Sim P base pb w0 w' e' a'.tmps → Pin z a a' → Q .normal a' w') → wpE P ops X Q f pen listed a w := by
  have hops : ops.toList.toArray = ops := by simp
  intro f
  induction f with
  | zero =>
    intro l mem pen listed e a w hp hK h hs _ _ _ hQ
    simp only [planGo, hops] at hp
    split at hp
    · rename_i hr; cases hp
      exact ⟨hr, hQ e a w hK h (Pin.refl _ _)⟩
    · cases hp
  | succ f ih =>
    intro l mem pen listed e a w hp hK h hs hT hm hE hQ
    simp only [planGo, hops] at hp
    split at hp
    · rename_i hr; cases hp
      exact ⟨fun _ => hQ e a w hK h (Pin.refl _ _), fun j hj => (by rw [hr] at hj; cases hj)⟩
    · rename_i r0 rs hr
      split at hp
      · rename_i i hfind
        have hprop := List.find?_some hfind
        have hir : i ∈ Region.ready .any ops listed := by rw [hr]; exact List.mem_of_find?_eq_some hfind
        split at hp
        · rename_i o ho
          rw [ho] at hprop
          simp only [Bool.and_eq_true] at hprop
          split at hp
          · rename_i l' hl'
            cases hp
            rw [Array.getElem?_toList] at ho
            have hmem : o ∈ ops.toList := List.mem_of_getElem? (i := i) (by rw [Array.getElem?_toList]; exact ho)
            simp only [drawK] at hK
            rw [Array.getElem?_toList, ho] at hK
            simp only [hprop.1] at hK
            split at hK
            · cases hK
            · cases hK
            · rename_i hns _
              have hsd : (simpleE P e o && dOk D e o) = true := by
                cases hse : (simpleE P e o && dOk D e o) with
                | true => rfl
                | false => exact absurd hse (hns rfl)
              have hsim : simpleE P e o = true := (Bool.and_eq_true_iff.1 hsd).1
              have hdok : dOk D e o = true := (Bool.and_eq_true_iff.1 hsd).2
              have hnew : ∀ {K2 : Env → Option Out}, opK P Γ nn e o K2 = some r → ∀ w', Like X w w' → memO o = true → Ext w w' ∨ LdOk P base pb e a o w' := fun hK2 w' hw hmo => ldOk_of hX hT h hdok hmo hK2 hw
              have main : ∀ (x : V) (v : Value) (hd : drawK P Γ nn D ops.toList l' (putO e o.dst x) K = some r) (hS : Sim P base pb w0 w (putO e o.dst x) (a.put o.dst v).tmps) (hy : YE P ops (fun w' => memO o = true → Like X w w') o v a), wpE P ops X Q (f + 1) pen listed a w := by
                intro x v hd hS hy
                refine wpE_first ho (Region.noSelect_spec hsel) hQp hQo f pen (fun u => memO o = true ∧ u = w) listed a w hs (Region.free_spec ho hprop.2) hir hy (fun _ => Like.refl X w) (fun w' hw' hmo => hw' w ⟨hmo, rfl⟩) hE ?_
                have hp : Pin z a (a.put o.dst v) := ⟨(put_keeps a o.dst v).1, fun hz1 => (put_keeps a o.dst v).2 0 (hz hz1 o hmem)⟩
                refine ih l' _ _ (listed.setIfInBounds i true) _ _ w hl' hd hS (hs.set hir) (fun s hs1 => ((put_keeps a o.dst v).2 s (hD s hs1 o hmem)).trans (hT s hs1)) ?_ ?_ fun e2 a2 w2 k1 k2 k3 => hQ e2 a2 w2 k1 k2 (hp.trans k3)
                · rintro k u (hk | ⟨rfl, hmo, rfl⟩)
                  · split
                    · exact List.mem_cons_of_mem _ (hm k u hk)
                    · exact hm k u hk
                  · rw [hmo]; exact List.mem_cons_self
                · rintro k u (hk | ⟨rfl, hmo, rfl⟩)
                  · exact hE k u hk
                  · exact Like.refl _ _
              rcases stepK_cases h hK with ⟨hw, hK⟩ | ⟨hw, hK⟩
              · have hnew := hnew hK
                rcases opK_told C.fn (C.good w h.keep) C.low h hK with ⟨x, v, hd, hrun, hrel, hb⟩ | ⟨hf, -⟩
                · exact main x v ((forceE_eq _ _).symm.trans hd) (h.putO0 a rfl o.dst x v hrel hb) (.inl ⟨hw, fun w' hw' => hrun w' fun hmo => hnew w' (hw' hmo) hmo⟩)
                · rw [hsim] at hf; cases hf
              · exact main (.tup []) undef ((forceE_eq _ _).symm.trans hK) (h.skip o.dst) (.inr ⟨hw, rfl⟩)
          · cases hp
        · cases hp
      · split at hp
        · rename_i o ho _
          split at hp
          · rename_i hcalm
            split at hp
            · rename_i l' hl'
              cases hp
              rw [Array.getElem?_toList] at ho
              have hmem : o ∈ ops.toList := List.mem_of_getElem? (i := r0) (by rw [Array.getElem?_toList]; exact ho)
              have hrr : r0 ∈ Region.ready .any ops listed := by rw [hr]; simp
              simp only [drawK] at hK
              rw [Array.getElem?_toList, ho] at hK
              dsimp only at hK
              refine ⟨fun h0 => (by rw [hr] at h0; cases h0), fun j hj => ?_⟩
              rw [hr] at hj
              have hj : j = r0 := by simpa using hj
              subst hj
              have rest : ∀ (e' : Env) (a' : Act) (w' : World), drawK P Γ nn D ops.toList l' e' K = some r → Sim P base pb w0 w' e' a'.tmps → Pin z a a' → (∀ s, s ∈ D → a'.tmps.getD s undef = a.tmps.getD s undef) → ((isLate D o = true → calm o = false → Like X w w') → (quietE e o = true → Ext w w') → (calm o = true → quietE e o = true) → (∀ i v, pen i v → ¬ Dep ops j i → Like X v w') ∧ wpE P ops X Q f (fun i v => pen i v ∧ ¬ Dep ops j i) (listed.setIfInBounds j true) a' w') := by
                intro e' a' w' hd hS hpin hTs hla hq hcq
                have key : ∀ i v, pen i v → ¬ Dep ops j i → Like X v w' := by
                  intro i v hi hnd
                  cases hc : calm o with
                  | true => exact (hE i v hi).trans (hq (hcq hc)).like
                  | false =>
                    cases hl : isLate D o with
                    | true => exact (hE i v hi).trans (hla hl hc)
                    | false =>
                      rw [hc, hl, Bool.false_or, Bool.false_or, List.all_eq_true] at hcalm
                      have := hcalm i (hm i v hi)
                      exact absurd (ancL_dep _ _ (fun k hk => .one hk) i (by simpa using this)) hnd
                exact ⟨key, ih l' mem _ _ e' a' w' hl' hd hS (hs.set hrr) (fun s hs1 => (hTs s hs1).trans (hT s hs1)) (fun k u hk => hm k u hk.1) (fun k u hk => key k u hk.1 hk.2) fun e2 a2 w2 k1 k2 k3 => hQ e2 a2 w2 k1 k2 (hpin.trans k3)⟩
              have fin : stepK P Γ nn ops.toList o e (fun e => forceE e fun e => drawK P Γ nn D ops.toList l' e K) = some r → (calm o = true → quietE e o = true) → wpOp P ops Q j (fun a' w' => (∀ i v, pen i v → ¬ Dep ops j i → Like X v w') ∧ wpE P ops X Q f (fun i v => pen i v ∧ ¬ Dep ops j i) (listed.setIfInBounds j true) a' w') a w := by
                intro hK hcq
                unfold wpOp
                rw [ho]
                dsimp only
                rcases stepK_cases h hK with ⟨hw, hK⟩ | ⟨hw, hK⟩
                · rw [if_pos hw]
                  cases hl : isLate D o with
                  | false =>
                    refine .inl ((opK_told C.fn (C.good w h.keep) C.low h hK).wp h fun e' a' w' hK' h' hpin hq => ?_)
                    replace hK' := (forceE_eq _ _).symm.trans hK'
                    exact rest e' a' w' hK' h' ⟨hpin.1, fun hz1 => hpin.2 0 (hz hz1 o hmem)⟩ (fun s hs1 => hpin.2 s (hD s hs1 o hmem)) (fun hl' => by rw [hl] at hl'; cases hl') hq hcq
                  | true =>
                    obtain ⟨t, s, y, hop, hsD⟩ := isLate_some hl
                    refine .inl (store_told h hop hK fun e' a' b off row hx hK' h' hpin => ?_)
                    replace hK' := (forceE_eq _ _).symm.trans hK'
                    refine rest e' a' _ hK' h' ⟨hpin.1, fun hz1 => hpin.2 0 (hz hz1 o hmem)⟩ (fun s hs1 => hpin.2 s (hD s hs1 o hmem)) (fun _ _ => ?_) (fun hq => by simp [quietE, hop] at hq) hcq
                    refine ⟨rfl, rfl, rfl, by simp [World.setRow], fun k hk hkx => setRow_other w b k row ?_⟩
                    rintro rfl
                    refine hkx ((hX k).2 ⟨s, hsD, ?_⟩)
                    rw [← hT s hsD]
                    have hx' : a.tmps.getD s undef = .pointer (some ⟨k, off, none⟩) := hx
                    rw [hx']; simp [blkOf, baseOf]
                · rw [if_neg (by rw [hw]; simp)]
                  replace hK := (forceE_eq _ _).symm.trans hK
                  exact rest _ _ w hK (h.skip o.dst) ⟨(put_keeps a o.dst undef).1, fun hz1 => (put_keeps a o.dst undef).2 0 (hz hz1 o hmem)⟩ (fun s hs1 => (put_keeps a o.dst undef).2 s (hD s hs1 o hmem)) (fun _ _ => Like.refl X w) (fun _ => Ext.refl w) hcq
              split at hK
              · cases hK
              · cases hK
              · rename_i hnq
                refine fin hK fun hc => ?_
                cases hqe : quietE e o with
                | true => rfl
                | false => exact absurd hqe (hnq hc)
            · cases hp
          · cases hp
        · cases hp
theorem region_draw_wp (C : Ctx P G ng base pb w0 Γ) {z : Bool} {id : Nat} {ops : Array Oper} (hz : z = true → ∀ o ∈ ops.toList, o.dst ≠ some 0) {D : List Nat} {l : List (Nat × Bool)} (hp : plan P ops.toList = some (D, l)) (hK : drawK P Γ nn D ops.toList l e K = some r) (h : Sim P base pb w0 w e a.tmps)
    (hQ : ∀ e' a' w', K e' = some r → Sim P base pb w0 w' e' a'.tmps → Pin z a a' → Q .normal a' w') : (Code.region id ops true).wp P Q a w := by
  have hops : ops.toList.toArray = ops := by simp
  have both : Region.noSelect ops = true ∧ (∀ s, s ∈ D → ∀ o ∈ ops.toList, o.dst ≠ some s) ∧ planGo P D ops.toList ops.toList.length (Array.replicate ops.toList.length false) [] = some l := by
    unfold plan at hp
    rw [hops] at hp
    split at hp
    · rename_i hsel
      refine ⟨hsel, ?_⟩
      split at hp
      · rename_i l' hl'; cases hp; exact ⟨fun s hs => (by cases hs), hl'⟩
      · split at hp
        · rename_i l' hl'
          simp only [Option.some.injEq, Prod.mk.injEq] at hp
          obtain ⟨rfl, rfl⟩ := hp
          exact ⟨lates_dst, hl'⟩
        · cases hp
    · cases hp
  obtain ⟨hsel, hD, hp⟩ := both
  refine wp_mono (Q := fun x a' w' => x = .normal ∧ ∃ e', K e' = some r ∧ Sim P base pb w0 w' e' a'.tmps ∧ Pin z a a') ?_ ?_
  · refine wp_region_any C.mixed ?_
    have hw : Sim P base pb w0 { w with drawn := w.drawn + 1 } e a.tmps := h.ext ⟨rfl, rfl, rfl, Nat.le_refl _, fun _ _ _ => rfl⟩
    rw [Array.length_toList] at hp
    refine wpAny_of_wpE _ (pen := fun _ _ => False) (drawK_wp (Q := fun x a' w' => x = .normal ∧ ∃ e', K e' = some r ∧ Sim P base pb w0 w' e' a'.tmps ∧ Pin z a a') C hz hsel (fun c a w hq => by cases hq.1) (fun hl => by obtain ⟨a, w, hq⟩ := hl; cases hq.1) hD (X := fun b => ∃ s ∈ D, b ∈ blkOf (a.tmps.getD s undef)) (tm0 := a.tmps) (fun _ => Iff.rfl) _ l [] _ _ e a _ hp hK hw ?_ (fun _ _ => rfl) (fun _ _ h => h.elim) (fun _ _ h => h.elim) ?_)
    · intro j hj
      simp only [Array.getD_eq_getD_getElem?, Array.getElem?_replicate] at hj
      split at hj <;> cases hj
    · intro e' a' w' k1 k2 k3; exact ⟨rfl, e', k1, k2, k3⟩
  · rintro x a' w' ⟨rfl, e', k1, k2, k3⟩
    exact hQ e' a' w' k1 k2 k3
end Go.Proofs.YtnfjggagenmkjaaDoor.AM
