/- How an environment of plain values stands to a frame and a world. -/
import Derived.Test.YtnfjggagenmkjaaDoorAmB
import Derived.Below
namespace Go.Proofs.YtnfjggagenmkjaaDoor.AM
open Go

theorem Xs.len_toS (x : Xs) : x.toS.length = x.len := by cases x <;> simp [Xs.toS, Xs.len]
theorem Xs.len_enc (x : Xs) : x.enc.length = x.len := by simp [Xs.enc, Xs.len_toS]

structure Keep (base : Nat) (pb : Option Nat) (w w' : World) : Prop where
  os : w'.os = w.os
  tape : w'.tape = w.tape
  output : w'.output = w.output
  size : w.heap.size ≤ w'.heap.size
  old : ∀ b, b < base → pb ≠ some b → w'.heap[b]? = w.heap[b]?

theorem Keep.refl (base : Nat) (pb : Option Nat) (w : World) : Keep base pb w w := ⟨rfl, rfl, rfl, Nat.le_refl _, fun _ _ _ => rfl⟩
theorem Keep.trans {base : Nat} {pb : Option Nat} {a b c : World} (h : Keep base pb a b) (k : Keep base pb b c) : Keep base pb a c :=
  ⟨k.os.trans h.os, k.tape.trans h.tape, k.output.trans h.output, Nat.le_trans h.size k.size, fun x hx hp => (k.old x hx hp).trans (h.old x hx hp)⟩

/-- A world that has grown: nothing that was there has changed. -/
def Ext (w w' : World) : Prop := Keep w.heap.size none w w'
theorem Ext.refl (w : World) : Ext w w := Keep.refl _ _ _
theorem Ext.at {w w' : World} (h : Ext w w') {b : Nat} (hb : b < w.heap.size) : w'.heap[b]? = w.heap[b]? := h.old b hb (by simp)
theorem Ext.trans {a b c : World} (h : Ext a b) (k : Ext b c) : Ext a c :=
  ⟨k.os.trans h.os, k.tape.trans h.tape, k.output.trans h.output, Nat.le_trans h.size k.size, fun _ hx _ => (k.at (Nat.lt_of_lt_of_le hx h.size)).trans (h.at hx)⟩
theorem Ext.keep {w w' : World} (h : Ext w w') {base : Nat} (hb : base ≤ w.heap.size) (pb : Option Nat) : Keep base pb w w' :=
  ⟨h.os, h.tape, h.output, h.size, fun _ hx _ => h.at (Nat.lt_of_lt_of_le hx hb)⟩

def baseOf : Value → Option Addr
  | .pointer a => a
  | .slice a _ _ => a
  | _ => none
def blkOf (v : Value) : List Nat := match baseOf v with | some a => [a.block] | none => []
def blksC : C → Value → List Nat
  | .own _, v => blkOf v
  | _, _ => []
def blksL : List C → List Value → List Nat
  | c :: l, v :: vs => blksC c v ++ blksL l vs
  | _, _ => []
def blks : V → Value → List Nat
  | .box _ _, v => blkOf v
  | .iter _ _, v => blkOf v
  | .c c, v => blksC c v
  | .tup l, .tuple vs => blksL l vs.toList
  | _, _ => []

def OwnRel (w : World) (x : Xs) (v : Value) : Prop :=
  (v = .slice none 0 0 ∧ x.len = 0) ∨ ∃ b cap T Cs fr, v = .slice (some ⟨b, 0, none⟩) x.len cap ∧ w.heap[b]? = some (.cells Cs T fr) ∧ x.len ≤ cap ∧ cap ≤ Cs.size ∧
    (∀ i, i < Cs.size → ¬ (fr.1 ≤ i ∧ i < fr.2)) ∧ ∀ i, i < x.len → Cs[i]? = x.enc[i]?
def RoRel (base : Nat) (pb : Option Nat) (w : World) (x : Xs) (v : Value) : Prop :=
  ∃ a cap, v = .slice a x.len cap ∧ x.len ≤ cap ∧ ∀ i, i < x.len → ∃ b, a = some b ∧ b.block < base ∧ pb ≠ some b.block ∧ w.cell? (b.add i) = x.enc[i]?
def RelC (base : Nat) (pb : Option Nat) (w : World) : C → Value → Prop
  | .u, _ => True
  | .s x, v => v = x.enc
  | .agg x, v => v = .agg x.enc.toArray
  | .own x, v => OwnRel w x v
  | .ro x, v => RoRel base pb w x v
inductive RelL (base : Nat) (pb : Option Nat) (w : World) : List C → List Value → Prop
  | nil : RelL base pb w [] []
  | cons {c v l vs} : RelC base pb w c v → RelL base pb w l vs → RelL base pb w (c :: l) (v :: vs)

section
variable (P : Program)
def isSl : V → Bool
  | .c (.own _) | .c (.ro _) => true
  | _ => false
def isIt : V → Bool
  | .iter _ _ => true
  | _ => false
def AliRel (o v : Value) (lo n : Nat) : Prop :=
  ∃ a c, v = .slice a n c ∧ n ≤ c ∧ (0 < n → ∃ b, baseOf o = some b ∧ a = some (b.add lo)) ∧ (lo = 0 → ∀ A len cap, o = .slice A len cap → a = A ∧ c = cap)
def RelV (base : Nat) (pb : Option Nat) (w : World) (e : Env) (tm : Array Value) : V → Value → Prop
  | .u, _ => True
  | .c c, v => RelC base pb w c v
  | .tup l, v => ∃ vs : List Value, v = .tuple vs.toArray ∧ RelL base pb w l vs
  | .box T x, v => ∃ b, v = .pointer (some ⟨b, 0, none⟩) ∧ w.heap[b]? = some (.cells x.enc.toArray T (0, 0)) ∧ P.cellsOf T = x.len
  | .via s off, v => owner (e.getD s .u) = true ∧ ∃ a, baseOf (tm.getD s undef) = some a ∧ v = .pointer (some (a.add off))
  | .all s, v => isSl (e.getD s .u) = true ∧ v = tm.getD s undef
  | .ali s lo n, v => owner (e.getD s .u) = true ∧ AliRel (tm.getD s undef) v lo n ∧ ∀ x, contentB e s = some x → lo + n ≤ x.len
  | .iter l pos, v => ∃ b, v = .pointer (some ⟨b, 0, none⟩) ∧ w.heap[b]? = some (.stringIter ⟨⟨l⟩⟩ pos)
  | .it s, v => isIt (e.getD s .u) = true ∧ v = tm.getD s undef

structure Sim (base : Nat) (pb : Option Nat) (w0 w : World) (e : Env) (tm : Array Value) : Prop where
  size : tm.size = e.length
  rel : ∀ i, RelV P base pb w e tm (e.getD i .u) (tm.getD i undef)
  dist : ∀ i j, i ≠ j → ∀ b, b ∈ blks (e.getD i .u) (tm.getD i undef) → b ∉ blks (e.getD j .u) (tm.getD j undef)
  own : ∀ i b, b ∈ blks (e.getD i .u) (tm.getD i undef) → b < w.heap.size ∧ (base ≤ b ∨ pb = some b)
  nd : ∀ i, (blks (e.getD i .u) (tm.getD i undef)).Nodup
  keep : Keep base pb w0 w
  low : base ≤ w.heap.size
end

theorem isSl_owner {v : V} (h : isSl v = true) : owner v = true := by
  cases v with
  | c c => cases c <;> simp_all [isSl, owner]
  | _ => simp_all [isSl]
theorem isIt_owner {v : V} (h : isIt v = true) : owner v = true := by cases v <;> simp_all [isIt, owner]

theorem OwnRel.mono {w w' : World} {x : Xs} {v : Value} (h : OwnRel w x v) (hb : ∀ b ∈ blkOf v, w'.heap[b]? = w.heap[b]?) : OwnRel w' x v := by
  rcases h with h | ⟨b, cap, T, Cs, fr, rfl, h2, h3⟩
  · exact .inl h
  · exact .inr ⟨b, cap, T, Cs, fr, rfl, (hb b (by simp [blkOf, baseOf])).trans h2, h3⟩
theorem cell?_of_heap {w w' : World} {a : Addr} (h : w'.heap[a.block]? = w.heap[a.block]?) : w'.cell? a = w.cell? a := by simp [World.cell?, h]
theorem Addr.block_add (a : Addr) (n : Nat) : (a.add n).block = a.block := by unfold Addr.add; split <;> rfl
theorem Addr.add_add' (a : Addr) (n m : Nat) : (a.add n).add m = a.add (n + m) := by
  unfold Addr.add
  by_cases h : n = 0
  · subst h; simp
  · by_cases k : m = 0
    · subst k; simp
    · rw [if_neg h, if_neg k, if_neg (by omega)]; simp [Nat.add_assoc]
theorem RoRel.mono {base : Nat} {pb : Option Nat} {w w' : World} {x : Xs} {v : Value} (h : RoRel base pb w x v) (hk : ∀ b, b < base → pb ≠ some b → w'.heap[b]? = w.heap[b]?) : RoRel base pb w' x v := by
  obtain ⟨a, cap, h1, h2, h3⟩ := h
  refine ⟨a, cap, h1, h2, fun i hi => ?_⟩
  obtain ⟨b, hb1, hb2, hb3, hb4⟩ := h3 i hi
  exact ⟨b, hb1, hb2, hb3, (cell?_of_heap (by rw [Addr.block_add]; exact hk _ hb2 hb3)).trans hb4⟩
theorem RelC.mono {base : Nat} {pb : Option Nat} {w w' : World} {c : C} {v : Value} (h : RelC base pb w c v) (hb : ∀ b ∈ blksC c v, w'.heap[b]? = w.heap[b]?)
    (hk : ∀ b, b < base → pb ≠ some b → w'.heap[b]? = w.heap[b]?) : RelC base pb w' c v := by
  cases c with
  | u => trivial
  | s x => exact h
  | agg x => exact h
  | own x => exact OwnRel.mono h hb
  | ro x => exact RoRel.mono h hk
theorem RelL.mono {base : Nat} {pb : Option Nat} {w w' : World} {l : List C} {vs : List Value} (h : RelL base pb w l vs) (hk : ∀ b, b < base → pb ≠ some b → w'.heap[b]? = w.heap[b]?) :
    (∀ b ∈ blksL l vs, w'.heap[b]? = w.heap[b]?) → RelL base pb w' l vs := by
  induction h with
  | nil => intro _; exact .nil
  | cons h1 _ ih => intro hb; exact .cons (h1.mono (fun b hm => hb b (by simp [blksL, hm])) hk) (ih fun b hm => hb b (by simp [blksL, hm]))
theorem RelV.mono {P : Program} {base : Nat} {pb : Option Nat} {w w' : World} {e : Env} {tm : Array Value} {x : V} {v : Value} (h : RelV P base pb w e tm x v) (hb : ∀ b ∈ blks x v, w'.heap[b]? = w.heap[b]?)
    (hk : ∀ b, b < base → pb ≠ some b → w'.heap[b]? = w.heap[b]?) : RelV P base pb w' e tm x v := by
  cases x with
  | u => trivial
  | c c => exact RelC.mono h hb hk
  | tup l => obtain ⟨vs, rfl, h⟩ := h; exact ⟨vs, rfl, h.mono hk (by simpa [blks] using hb)⟩
  | box T x => obtain ⟨b, rfl, h1, h2⟩ := h; exact ⟨b, rfl, (hb b (by simp [blks, blkOf, baseOf])).trans h1, h2⟩
  | via s off => exact h
  | all s => exact h
  | ali s lo n => exact h
  | iter l pos => obtain ⟨b, rfl, h1⟩ := h; exact ⟨b, rfl, (hb b (by simp [blks, blkOf, baseOf])).trans h1⟩
  | it s => exact h

/-- A relation to other slots stands as long as the owners stand. -/
theorem RelV.env {P : Program} {base : Nat} {pb : Option Nat} {w : World} {e e' : Env} {tm tm' : Array Value} {x : V} {v : Value} (h : RelV P base pb w e tm x v)
    (hs : ∀ s, aliasOf s x = true → owner (e.getD s .u) = true → (e'.getD s .u = e.getD s .u ∧ tm'.getD s undef = tm.getD s undef)) : RelV P base pb w e' tm' x v := by
  cases x with
  | u => trivial
  | c c => exact h
  | tup l => exact h
  | box T x => exact h
  | via s off =>
    obtain ⟨h1, a, h2, h3⟩ := h
    obtain ⟨k1, k2⟩ := hs s (by simp [aliasOf]) h1
    exact ⟨by rw [k1]; exact h1, a, by rw [k2]; exact h2, h3⟩
  | all s =>
    obtain ⟨h1, h2⟩ := h
    obtain ⟨k1, k2⟩ := hs s (by simp [aliasOf]) (isSl_owner h1)
    exact ⟨by rw [k1]; exact h1, by rw [k2]; exact h2⟩
  | ali s lo n =>
    obtain ⟨h1, h2, h3⟩ := h
    obtain ⟨k1, k2⟩ := hs s (by simp [aliasOf]) h1
    exact ⟨by rw [k1]; exact h1, by rw [k2]; exact h2, by intro x hx; apply h3 x; unfold contentB at hx ⊢; rw [k1] at hx; exact hx⟩
  | iter l pos => exact h
  | it s =>
    obtain ⟨h1, h2⟩ := h
    obtain ⟨k1, k2⟩ := hs s (by simp [aliasOf]) (isIt_owner h1)
    exact ⟨by rw [k1]; exact h1, by rw [k2]; exact h2⟩
end Go.Proofs.YtnfjggagenmkjaaDoor.AM
