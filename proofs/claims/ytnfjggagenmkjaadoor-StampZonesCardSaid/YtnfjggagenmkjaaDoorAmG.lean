/- Each operation of the interpreter is the machine's: strings, slices, parts. -/
import Derived.Test.YtnfjggagenmkjaaDoorAmF
set_option linter.unusedSimpArgs false
namespace Go.Proofs.YtnfjggagenmkjaaDoor.AM
open Go

variable {P : Program} {base : Nat} {pb : Option Nat} {w0 w w' : World} {e : Env} {a : Act}
variable {K : Env → Option Out} {r : Out} {next : Act → World → Prop} {Q : Exit → Act → World → Prop} {o : Oper}

/-- An operand that may lack. -/
theorem optI_rel (h : Sim P base pb w0 w e a.tmps) {x : Option Operand} {i : Option Int} (hx : optI e x = some i) :
    (i = none ∧ x.map a.eval = none) ∨ ∃ n k, i = some n ∧ x.map a.eval = some (.int k n) := by
  cases x with
  | none => simp only [optI, Option.some.injEq] at hx; exact .inl ⟨hx.symm, rfl⟩
  | some y =>
    simp only [optI] at hx
    split at hx
    · rename_i k n hy
      simp only [Option.some.injEq] at hx
      exact .inr ⟨n, k, hx.symm, by simp [ev_s h hy, S.enc]⟩
    · cases hx
theorem run_sliceBounds (isS : Bool) {len cap : Nat} {lo hi : Option Int} {vl vh : Option Value} (hlc : len ≤ cap)
    (h1 : (lo = none ∧ vl = none) ∨ ∃ n k, lo = some n ∧ vl = some (.int k n)) (h2 : (hi = none ∧ vh = none) ∨ ∃ n k, hi = some n ∧ vh = some (.int k n))
    (h : 0 ≤ lo.getD 0 ∧ lo.getD 0 ≤ hi.getD len ∧ hi.getD len ≤ len) (w : World) :
    (Instr.sliceBounds isS len cap vl vh none).run P w = .ok ((lo.getD 0).toNat, (hi.getD len).toNat, cap) w := by
  obtain ⟨h3, h4, h5⟩ := h
  rcases h1 with ⟨rfl, rfl⟩ | ⟨n, k, rfl, rfl⟩
  · rcases h2 with ⟨rfl, rfl⟩ | ⟨m, k', rfl, rfl⟩
    · simp [Instr.sliceBounds]
    · simp only [Option.getD_some] at h3 h4 h5
      simp only [Instr.sliceBounds, Sem.run_bind, Sem.run_pure, Result.andThen_ok, Option.getD_none, Option.getD_some]
      have := run_sliceBound (P := P) (w := w) k' m cap (if isS then .sliceAcap else .sliceAlen) (by simpa using h4) (by omega)
      rw [this]; simp
  · rcases h2 with ⟨rfl, rfl⟩ | ⟨m, k', rfl, rfl⟩
    · simp only [Option.getD_some, Option.getD_none] at h3 h4 h5
      simp only [Instr.sliceBounds, Sem.run_bind, Sem.run_pure, Result.andThen_ok, Option.getD_none, Option.getD_some]
      have := run_sliceBound (P := P) (w := w) k n len .sliceB h3 h4
      simp [this]
    · simp only [Option.getD_some] at h3 h4 h5
      simp only [Instr.sliceBounds, Sem.run_bind, Sem.run_pure, Result.andThen_ok, Option.getD_some]
      rw [run_sliceBound (P := P) (w := w) k' m cap (if isS then .sliceAcap else .sliceAlen) (by omega) (by omega)]
      simp only [Result.andThen_ok]
      have := run_sliceBound (P := P) (w := w) k n m.toNat .sliceB h3 (by omega)
      simp [this]

theorem op_sliceS (h : Sim P base pb w0 w e a.tmps) {t : TypeId} {x : Operand} {lo hi : Option Operand} (ho : o.op = .slice t x lo hi none) (ht : P.underlying t = some .string) {l : List UInt8}
    (hx : ev e x = .c (.s (.str l))) {i j : Option Int} (hi0 : optI e lo = some i) (hj : optI e hi = some j) (hK : ((cut l i j).bind fun z => K (putO e o.dst (.c (.s (.str z))))) = some r) : Pure1 P base pb w e a K r o := by
  obtain ⟨z, h1, h2⟩ := bind_some hK
  unfold cut at h1
  split at h1
  · rename_i hc
    simp only [Option.some.injEq] at h1
    refine pureA h2 (v := .string ⟨⟨z⟩⟩) (fun w' hw => ?_) rfl rfl
    simp only [execOp, ho]
    refine run_v ?_
    rw [ev_s h hx]
    have hb := run_sliceBounds (P := P) false (Nat.le_refl l.length) (optI_rel h hi0) (optI_rel h hj) hc w'
    simp only [S.enc, Option.map_none, Instr.sliceAt, Instr.slice, Sem.run_bind, run_underlying ht, Result.andThen_ok, size_mk, hb, Option.isSome_none, Bool.false_eq_true, if_false, Sem.run_pure, extract_mk, ← h1]
  · cases h1
theorem cutN_some {n : Nat} {lo hi : Option Int} {p : Nat × Nat} (h : cutN n lo hi = some p) :
    (0 ≤ lo.getD 0 ∧ lo.getD 0 ≤ hi.getD n ∧ hi.getD n ≤ n) ∧ p.1 = (lo.getD 0).toNat ∧ p.2 = (hi.getD n).toNat - (lo.getD 0).toNat ∧ p.1 + p.2 ≤ n ∧ (lo.getD 0).toNat + p.2 = (hi.getD n).toNat := by
  unfold cutN at h
  split at h
  · rename_i hc
    simp only [Option.some.injEq] at h
    subst h
    refine ⟨hc, rfl, rfl, ?_, ?_⟩ <;> simp <;> omega
  · cases h
/-- A part of a slice, as the machine makes it. -/
theorem run_sliceSl {t el : TypeId} (ht : P.underlying t = some (.slice el)) (hc : cell1 P el = true) {A : Option Addr} {len cap : Nat} (hlc : len ≤ cap) {lo hi : Option Int} {vl vh : Option Value}
    (h1 : (lo = none ∧ vl = none) ∨ ∃ n k, lo = some n ∧ vl = some (.int k n)) (h2 : (hi = none ∧ vh = none) ∨ ∃ n k, hi = some n ∧ vh = some (.int k n)) {p : Nat × Nat} (hp : cutN len lo hi = some p) (w : World) :
    (Instr.sliceAt t (.slice A len cap) vl vh none).run P w = .ok (.slice (if cap = p.1 then A else A.map (·.add p.1)) p.2 (cap - p.1)) w := by
  obtain ⟨hb, hp1, hp2, -, -⟩ := cutN_some hp
  have hr := run_sliceBounds (P := P) true hlc h1 h2 hb w
  simp only [Instr.sliceAt, Instr.slice, Sem.run_bind, run_underlying ht, Result.andThen_ok, hr, run_sizeOf1 hc, Sem.run_pure, Nat.mul_one, hp1, hp2]
theorem contentB_of {s : Nat} {x : Xs} (h : content e s = some x) : contentB e s = some x := by
  unfold content at h; unfold contentB
  split at h <;> simp_all
theorem isSl_of {s : Nat} {x : Xs} (h : content e s = some x) : isSl (e.getD s .u) = true := by
  unfold content at h; split at h <;> simp_all [isSl]
/-- The value of a slice's owner. -/
theorem owner_slice (h : Sim P base pb w0 w e a.tmps) {s : Nat} {x : Xs} (hx : content e s = some x) : ∃ A cap, a.tmps.getD s undef = .slice A x.len cap ∧ x.len ≤ cap ∧ (0 < x.len → ∃ b, A = some b) := by
  have hr := h.rel s
  unfold content at hx
  split at hx
  · rename_i y hy
    simp only [Option.some.injEq] at hx; subst hx
    rw [hy] at hr
    rcases hr with ⟨h1, h2⟩ | ⟨b, cap, T, Cs, fr, h1, h2, h3, h4⟩
    · exact ⟨none, 0, by rw [h1, h2], by omega, fun hl => by omega⟩
    · exact ⟨_, cap, h1, h3, fun _ => ⟨_, rfl⟩⟩
  · rename_i y hy
    simp only [Option.some.injEq] at hx; subst hx
    rw [hy] at hr
    obtain ⟨A, cap, h1, h2, h3⟩ := hr
    exact ⟨A, cap, h1, h2, fun hl => (h3 0 hl).imp fun b hb => hb.1⟩
  · cases hx
theorem op_sliceAll (h : Sim P base pb w0 w e a.tmps) {t el : TypeId} {x : Operand} {lo hi : Option Operand} (ho : o.op = .slice t x lo hi none) (ht : P.underlying t = some (.slice el)) (hc : cell1 P el = true) {s : Nat} {y : Xs}
    (hx : ev e x = .all s) (hy : content e s = some y) {i j : Option Int} (hi0 : optI e lo = some i) (hj : optI e hi = some j) (hK : ((cutN y.len i j).bind fun p => K (putO e o.dst (.ali s p.1 p.2))) = some r) : Pure1 P base pb w e a K r o := by
  obtain ⟨p, h1, h2⟩ := bind_some hK
  obtain ⟨A, cap, h3, h4, h5⟩ := owner_slice h hy
  have hv : a.eval x = .slice A y.len cap := by have := (ev_rel h x).1; rw [hx] at this; exact this.2.trans h3
  have hr := run_sliceSl (P := P) ht hc (A := A) h4 (optI_rel h hi0) (optI_rel h hj) h1
  obtain ⟨hb, hp1, hp2, hp3, hp4⟩ := cutN_some h1
  refine pureA h2 (v := .slice (if cap = p.1 then A else A.map (·.add p.1)) p.2 (cap - p.1)) (fun w' hw => ?_) ⟨isSl_owner (isSl_of hy), ⟨_, _, rfl, by omega, ?_, ?_⟩, ?_⟩ rfl
  · simp only [execOp, ho]
    refine run_v ?_
    rw [hv]; exact hr w'
  · intro hl
    obtain ⟨b, rfl⟩ := h5 (by omega)
    refine ⟨b, by rw [h3]; rfl, ?_⟩
    rw [if_neg (by omega)]; rfl
  · intro hz A' len' cap' hA
    rw [h3] at hA
    cases hA
    rw [hz]
    refine ⟨?_, by omega⟩
    split
    · rfl
    · cases A <;> simp [Addr.add]
  · intro x' hx'
    rw [contentB_of hy] at hx'; cases hx'; exact hp3
theorem op_sliceAli (h : Sim P base pb w0 w e a.tmps) {t el : TypeId} {x : Operand} {lo hi : Option Operand} (ho : o.op = .slice t x lo hi none) (ht : P.underlying t = some (.slice el)) (hc : cell1 P el = true) {s lo0 n : Nat}
    (hx : ev e x = .ali s lo0 n) {i j : Option Int} (hi0 : optI e lo = some i) (hj : optI e hi = some j) (hK : ((cutN n i j).bind fun p => K (putO e o.dst (.ali s (lo0 + p.1) p.2))) = some r) : Pure1 P base pb w e a K r o := by
  obtain ⟨p, h1, h2⟩ := bind_some hK
  have hv := (ev_rel h x).1
  rw [hx] at hv
  obtain ⟨g1, ⟨A, c, g2, g3, g4, g5⟩, g6⟩ := hv
  have hr := run_sliceSl (P := P) ht hc (A := A) g3 (optI_rel h hi0) (optI_rel h hj) h1
  obtain ⟨hb, hp1, hp2, hp3, hp4⟩ := cutN_some h1
  refine pureA h2 (v := .slice (if c = p.1 then A else A.map (·.add p.1)) p.2 (c - p.1)) (fun w' hw => ?_) ⟨g1, ⟨_, _, rfl, by omega, ?_, ?_⟩, ?_⟩ rfl
  · simp only [execOp, ho]
    refine run_v ?_
    rw [g2]; exact hr w'
  · intro hl
    obtain ⟨b, k1, rfl⟩ := g4 (by omega)
    refine ⟨b, k1, ?_⟩
    rw [if_neg (by omega)]
    simp [Addr.add_add']
  · intro hz A' len' cap' hA
    obtain ⟨k1, k2⟩ := g5 (by omega) A' len' cap' hA
    have : p.1 = 0 := by omega
    rw [this]
    refine ⟨?_, by omega⟩
    subst k1
    split
    · rfl
    · cases A <;> simp [Addr.add]
  · intro x' hx'
    have := g6 x' hx'
    omega
theorem op_sliceNil (h : Sim P base pb w0 w e a.tmps) {t el : TypeId} {x : Operand} {lo hi : Option Operand} (ho : o.op = .slice t x lo hi none) (ht : P.underlying t = some (.slice el))
    (hs : ∃ n, ∀ w, (sizeOf el).run P w = .ok n w) (hx : ev e x = .c (.s .nils)) {i j : Option Int} (hi0 : optI e lo = some i) (hj : optI e hi = some j) (hK : ((cutN 0 i j).bind fun _ => K (putO e o.dst (.c (.s .nils)))) = some r) : Pure1 P base pb w e a K r o := by
  obtain ⟨p, h1, h2⟩ := bind_some hK
  obtain ⟨hb, hp1, hp2, hp3, hp4⟩ := cutN_some h1
  obtain ⟨n, hs⟩ := hs
  refine pureA h2 (v := .slice none 0 0) (fun w' hw => ?_) rfl rfl
  simp only [execOp, ho]
  refine run_v ?_
  have hr := run_sliceBounds (P := P) true (Nat.le_refl 0) (optI_rel h hi0) (optI_rel h hj) hb
  rw [ev_s h hx]
  simp only [S.enc, Instr.sliceAt, Instr.slice, Option.map_none, Sem.run_bind, run_underlying ht, Result.andThen_ok, hr, hs, Sem.run_pure]
  have e1 : (i.getD 0).toNat = 0 := by omega
  have e2 : (j.getD ((0 : Nat) : Int)).toNat = 0 := by omega
  simp only [Int.natCast_zero] at e2
  simp [e1, e2]
theorem op_sliceArr (h : Sim P base pb w0 w e a.tmps) {t el : TypeId} {m : Nat} {x : Operand} {lo hi : Option Operand} (ho : o.op = .slice t x lo hi none) (ht : P.underlying t = some (.array m el)) (hc : cell1 P el = true) {s off : Nat}
    (hx : ev e x = .via s off) {T : Nat} {y : Xs} (hy : e.getD s .u = .box T y) (hm : off + m ≤ y.len) {i j : Option Int} (hi0 : optI e lo = some i) (hj : optI e hi = some j) (hK : ((cutN m i j).bind fun p => K (putO e o.dst (.ali s (off + p.1) p.2))) = some r) : Pure1 P base pb w e a K r o := by
  obtain ⟨p, h1, h2⟩ := bind_some hK
  have hv := (ev_rel h x).1
  rw [hx] at hv
  obtain ⟨g1, A, g2, g3⟩ := hv
  obtain ⟨hb, hp1, hp2, hp3, hp4⟩ := cutN_some h1
  have hr := run_sliceBounds (P := P) false (Nat.le_refl m) (optI_rel h hi0) (optI_rel h hj) hb
  have hbox := h.rel s
  rw [hy] at hbox
  obtain ⟨b, hb1, hb2, hb3⟩ := hbox
  refine pureA h2 (v := .slice (some (if m = p.1 then A.add off else (A.add off).add p.1)) p.2 (m - p.1)) (fun w' hw => ?_) ⟨g1, ⟨_, _, rfl, by omega, ?_, ?_⟩, ?_⟩ rfl
  · simp only [execOp, ho]
    refine run_v ?_
    rw [g3]
    simp only [Instr.sliceAt, Option.map_none, Instr.sureAddr, Sem.run_bind, run_underlying ht, Sem.run_pure, Result.andThen_ok, hr, run_sizeOf1 hc, Nat.mul_one, hp1, hp2]
  · intro hl
    refine ⟨A, g2, ?_⟩
    rw [if_neg (by omega)]
    simp [Addr.add_add']
  · intro _ A' len' cap' hA
    rw [hb1] at hA; cases hA
  · intro x' hx'
    simp only [contentB, hy, Option.some.injEq] at hx'
    subst hx'
    omega
end Go.Proofs.YtnfjggagenmkjaaDoor.AM
