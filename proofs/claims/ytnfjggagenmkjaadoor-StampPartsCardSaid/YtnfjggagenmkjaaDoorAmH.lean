/- Each operation of the interpreter is the machine's: conversions, addresses, loads. -/
import Derived.Test.YtnfjggagenmkjaaDoorAmG
import Derived.Laws.BytesString
import Derived.Laws.Cells
set_option linter.unusedSimpArgs false
namespace Go.Proofs.YtnfjggagenmkjaaDoor.AM
open Go

variable {P : Program} {base : Nat} {pb : Option Nat} {w0 w w' : World} {e : Env} {a : Act}
variable {K : Env → Option Out} {r : Out} {next : Act → World → Prop} {Q : Exit → Act → World → Prop} {o : Oper}

theorem cut_toS (x : Xs) (lo n : Nat) : (x.cut lo n).toS = (x.toS.drop lo).take n := by cases x <;> simp [Xs.cut, Xs.toS, List.map_drop, List.map_take]
theorem cut_enc (x : Xs) (lo n : Nat) : (x.cut lo n).enc = (x.enc.drop lo).take n := by simp [Xs.enc, cut_toS, List.map_drop, List.map_take]
theorem cut_len (x : Xs) (lo n : Nat) (h : lo + n ≤ x.len) : (x.cut lo n).len = n := by rw [← Xs.len_toS, cut_toS]; rw [← Xs.len_toS] at h; simp; omega
theorem Addr.zero_add (b n : Nat) : (⟨b, 0, none⟩ : Addr).add n = ⟨b, n, none⟩ := by unfold Addr.add; split <;> simp_all
theorem Xs.lt_of {x : Xs} {i : Nat} {s : S} (h : x.toS[i]? = some s) : i < x.len := by rw [← Xs.len_toS]; exact (List.getElem?_eq_some_iff.1 h).1
/-- A cell of what a slot owns or reads. -/
theorem cell_atR {tm : Array Value} {s : Nat} (hr : RelV P base pb w e tm (e.getD s .u) (tm.getD s undef)) {x : Xs} (hx : contentB e s = some x) {i : Nat} {y : S} (hy : x.toS[i]? = some y) :
    ∃ A, baseOf (tm.getD s undef) = some A ∧ w.cell? (A.add i) = some y.enc := by
  have hi := Xs.lt_of hy
  have hye := Xs.toS_of_enc hy
  unfold contentB at hx
  split at hx
  · rename_i z hz
    cases hx
    rw [hz] at hr
    rcases hr with ⟨h1, h2⟩ | ⟨b, cap, T, Cs, fr, h1, h2, h3, h4, h5, h6⟩
    · omega
    · refine ⟨⟨b, 0, none⟩, by rw [h1]; rfl, ?_⟩
      rw [Addr.zero_add]
      simp [World.cell?, h2, h6 i hi, hye]
  · rename_i z hz
    cases hx
    rw [hz] at hr
    obtain ⟨A, cap, h1, h2, h3⟩ := hr
    obtain ⟨b, rfl, h4, h5, h6⟩ := h3 i hi
    exact ⟨b, by rw [h1]; rfl, by rw [h6, hye]⟩
  · rename_i T z hz
    cases hx
    rw [hz] at hr
    obtain ⟨b, h1, h2, h3⟩ := hr
    refine ⟨⟨b, 0, none⟩, by rw [h1]; rfl, ?_⟩
    rw [Addr.zero_add]
    simp [World.cell?, h2, hye]
  · cases hx
theorem cell_at (h : Sim P base pb w0 w e a.tmps) {s : Nat} {x : Xs} (hx : contentB e s = some x) {i : Nat} {y : S} (hy : x.toS[i]? = some y) :
    ∃ A, baseOf (a.tmps.getD s undef) = some A ∧ w.cell? (A.add i) = some y.enc := cell_atR (h.rel s) hx hy
/-- All cells of a part of it. -/
theorem cells_atR {tm : Array Value} {s : Nat} (h : RelV P base pb w e tm (e.getD s .u) (tm.getD s undef)) {x : Xs} (hx : contentB e s = some x) {lo n : Nat} (hl : lo + n ≤ x.len) {A : Addr} (hA : 0 < n → baseOf (tm.getD s undef) = some A) :
    (loadCells (A.add lo) n).run P w = .ok (x.cut lo n).enc.toArray w := by
  have hlen : (x.cut lo n).enc.length = n := by rw [Xs.len_enc, cut_len x lo n hl]
  have := run_loadCells_list (P := P) w (A.add lo) (x.cut lo n).enc (by
    intro j v hj
    have hjn : j < n := by rw [← hlen]; exact (List.getElem?_eq_some_iff.1 hj).1
    rw [cut_enc, List.getElem?_take_of_lt hjn, List.getElem?_drop, Xs.enc, List.getElem?_map] at hj
    cases hs : x.toS[lo + j]? with
    | none => rw [hs] at hj; cases hj
    | some y =>
      rw [hs] at hj
      simp only [Option.map_some, Option.some.injEq] at hj
      obtain ⟨A', h1, h2⟩ := cell_atR h hx hs
      rw [hA (by omega)] at h1
      cases h1
      rw [Addr.add_add', h2, hj])
  rw [hlen] at this
  exact this
theorem cells_at (h : Sim P base pb w0 w e a.tmps) {s : Nat} {x : Xs} (hx : contentB e s = some x) {lo n : Nat} (hl : lo + n ≤ x.len) {A : Addr} (hA : 0 < n → baseOf (a.tmps.getD s undef) = some A) :
    (loadCells (A.add lo) n).run P w = .ok (x.cut lo n).enc.toArray w := cells_atR (h.rel s) hx hl hA

theorem bytes_fold (ns : List Int) : ∀ s : List UInt8, ns.foldl (fun (r : ByteArray) n => r.push (UInt8.ofNat n.toNat)) ⟨⟨s⟩⟩ = ⟨⟨s ++ ns.map fun n => UInt8.ofNat n.toNat⟩⟩ := by
  induction ns with
  | nil => intro s; simp
  | cons n ns ih =>
    intro s
    rw [List.foldl_cons]
    have : (⟨⟨s⟩⟩ : ByteArray).push (UInt8.ofNat n.toNat) = ⟨⟨s ++ [UInt8.ofNat n.toNat]⟩⟩ := by apply ByteArray.ext; simp [ByteArray.data_push]
    rw [this, ih]
    simp
theorem bytesOf_some {x : Xs} {l : List UInt8} (h : bytesOf x = some l) : ∃ ns : List Int, x.enc = ns.map (Value.int .u8) ∧ l = ns.map fun n => UInt8.ofNat n.toNat := by
  unfold bytesOf at h
  split at h
  · rename_i ns; cases h; exact ⟨ns, by simp [Xs.enc, Xs.toS, S.enc], rfl⟩
  · cases h; exact ⟨[], rfl, rfl⟩
  · cases h
theorem run_bytes {x : Xs} {l : List UInt8} (h : bytesOf x = some l) {A : Addr} {n c : Nat} (hl : (loadCells A n).run P w = .ok x.enc.toArray w) :
    (Conv.bytesToString (.slice (some A) n c)).run P w = .ok (.string ⟨⟨l⟩⟩) w := by
  obtain ⟨ns, h1, h2⟩ := bytesOf_some h
  rw [run_bytesToString w A n c ns (by rw [hl, h1]), h2]
  have := bytes_fold ns []
  simp only [List.nil_append] at this
  rw [← this]; rfl
theorem run_bytes0 {x : Xs} {l : List UInt8} (h : bytesOf x = some l) (hx : x.len = 0) {A : Option Addr} {c : Nat} :
    (Conv.bytesToString (.slice A 0 c)).run P w = .ok (.string ⟨⟨l⟩⟩) w := by
  obtain ⟨ns, h1, h2⟩ := bytesOf_some h
  have hns : ns = [] := by
    have := congrArg List.length h1
    rw [Xs.len_enc, hx] at this
    simpa using this.symm
  subst hns
  subst h2
  cases A with
  | none => simp [Conv.bytesToString]; rfl
  | some A =>
    exact run_bytesToString (P := P) w A 0 c [] (by rw [loadCells, loadCellsFrom]; simp)
theorem op_convI (h : Sim P base pb w0 w e a.tmps) {s d : TypeId} {x : Operand} (ho : o.op = .convert s d x) {ds : TypeDesc} {k k' : IntKind} {n : Int} (hs : P.underlying s = some ds) (hd : P.underlying d = some (.int k))
    (hx : ev e x = .c (.s (.int k' n))) (hK : K (putO e o.dst (.c (.s (.int k (k.wrap n))))) = some r) : Pure1 P base pb w e a K r o := by
  refine pure1 hK (hm := by simp only [memO, ho]) (hl := by simp only [ldSlot, ho]) (v := .int k (k.wrap n)) (fun w' hw => ?_) rfl rfl
  simp only [execOp, ho]
  refine run_v ?_
  rw [ev_s h hx]
  simp [convert, S.enc, run_underlying hs, run_underlying hd, Conv.intToInt]
theorem op_convR (h : Sim P base pb w0 w e a.tmps) {s d : TypeId} {x : Operand} (ho : o.op = .convert s d x) {ds : TypeDesc} {k' : IntKind} {n : Int} (hs : P.underlying s = some ds) (hd : P.underlying d = some .string)
    (hx : ev e x = .c (.s (.int k' n))) (hK : K (putO e o.dst (.c (.s (.str (Utf8.encode n).data.toList)))) = some r) : Pure1 P base pb w e a K r o := by
  refine pure1 hK (hm := by simp only [memO, ho]) (hl := by simp only [ldSlot, ho]) (v := .string (Utf8.encode n)) (fun w' hw => ?_) rfl rfl
  simp only [execOp, ho]
  refine run_v ?_
  rw [ev_s h hx]
  simp [convert, S.enc, run_underlying hs, run_underlying hd, Conv.intToString]
theorem op_convS (h : Sim P base pb w0 w e a.tmps) {s d : TypeId} {x : Operand} (ho : o.op = .convert s d x) {ds : TypeDesc} {l : List UInt8} (hs : P.underlying s = some ds) (hd : P.underlying d = some .string)
    (hx : ev e x = .c (.s (.str l))) (hK : K (putO e o.dst (.c (.s (.str l)))) = some r) : Pure1 P base pb w e a K r o := by
  refine pure1 hK (hm := by simp only [memO, ho]) (hl := by simp only [ldSlot, ho]) (v := .string ⟨⟨l⟩⟩) (fun w' hw => ?_) rfl rfl
  simp only [execOp, ho]
  refine run_v ?_
  rw [ev_s h hx]
  simp [convert, S.enc, run_underlying hs, run_underlying hd]
theorem op_convB (h : Sim P base pb w0 w e a.tmps) {s d t : TypeId} {x : Operand} (ho : o.op = .convert s d x) (hs : P.underlying s = some (.slice t)) (hd : P.underlying d = some .string) (ht : P.underlying t = some (.int .u8))
    {sl lo n : Nat} {y : Xs} {l : List UInt8} (hx : (ev e x = .all sl ∧ content e sl = some y ∧ lo = 0 ∧ n = y.len) ∨ (ev e x = .ali sl lo n)) (hy : contentB e sl = some y) (hl : bytesOf (y.cut lo n) = some l) (hK : K (putO e o.dst (.c (.s (.str l)))) = some r) : Pure1 P base pb w e a K r o := by
  refine pure1 hK (hm := by simp only [memO, ho]) (hl := by simp only [ldSlot, ho]) (v := .string ⟨⟨l⟩⟩) (fun w' hw => ?_) rfl rfl
  simp only [execOp, ho]
  refine run_v ?_
  have hv := (ev_rel h x).1
  have key : ∃ A c, a.eval x = .slice A n c ∧ (0 < n → ∃ b, baseOf (a.tmps.getD sl undef) = some b ∧ A = some (b.add lo)) ∧ lo + n ≤ y.len := by
    rcases hx with ⟨h1, h2, rfl, rfl⟩ | h1
    · rw [h1] at hv
      obtain ⟨A, cap, h3, h4, h5⟩ := owner_slice h h2
      refine ⟨A, cap, hv.2.trans h3, fun hl => ?_, by omega⟩
      obtain ⟨b, rfl⟩ := h5 hl
      exact ⟨b, by rw [h3]; rfl, by simp [Addr.add]⟩
    · rw [h1] at hv
      obtain ⟨g1, ⟨A, c, g2, g3, g4, g5⟩, g6⟩ := hv
      exact ⟨A, c, g2, g4, g6 y hy⟩
  obtain ⟨A, c, hev, hA, hlen⟩ := key
  rw [hev, run_convert_bytes_string w' s d t A n c hs ht hd]
  by_cases hz : n = 0
  · subst hz
    exact run_bytes0 hl (cut_len y lo 0 (by omega))
  · obtain ⟨b, h1, rfl⟩ := hA (by omega)
    exact run_bytes hl (cells_at (h.ext hw) hy hlen fun _ => h1)
theorem op_convN (h : Sim P base pb w0 w e a.tmps) {s d t : TypeId} {x : Operand} (ho : o.op = .convert s d x) (hs : P.underlying s = some (.slice t)) (hd : P.underlying d = some .string) (ht : P.underlying t = some (.int .u8))
    (hx : ev e x = .c (.s .nils)) (hK : K (putO e o.dst (.c (.s (.str [])))) = some r) : Pure1 P base pb w e a K r o := by
  refine pure1 hK (hm := by simp only [memO, ho]) (hl := by simp only [ldSlot, ho]) (v := .string ⟨⟨[]⟩⟩) (fun w' hw => ?_) rfl rfl
  simp only [execOp, ho]
  refine run_v ?_
  rw [ev_s h hx]
  simp only [S.enc]
  rw [run_convert_bytes_string w' s d t none 0 0 hs ht hd]
  simp [Conv.bytesToString]; rfl
theorem run_part {t : TypeId} {x : Xs} {off : Nat} {c : C} (h : partC P t x off = some c) (w : World) : ∃ v, (∀ w, (part t x.enc.toArray off).run P w = .ok v w) ∧ RelC base pb w c v ∧ blksC c v = [] ∧ resOk c = true := by
  unfold partC at h
  split at h
  · rename_i b h1
    split at h
    · rename_i s hs
      cases h
      exact ⟨s.enc, fun w => part_plain ((cell1_info h1).2 w) (by simpa using Xs.toS_of_enc hs), rfl, rfl, rfl⟩
    · cases h
  · rename_i h1 h2
    split at h
    · rename_i hb
      cases h
      refine ⟨.agg (Xs.ss ((x.toS.drop off).take (P.cellsOf t))).enc.toArray, fun w => ?_, rfl, rfl, rfl⟩
      have hag : (isAgg t).run P w = .ok true w := by
        unfold isAggB at h2
        split at h2 <;> first | (cases h2; done) | skip
        all_goals (rename_i hu; first | simp [isAgg, run_underlying hu] | (cases h2; done))
      have hsz : (sizeOf t).run P w = .ok (P.cellsOf t) w := by
        unfold isAggB at h2
        unfold Program.underlying at h2
        cases hi : P.info? t with
        | none => rw [hi] at h2; simp at h2
        | some i => simp [sizeOf, typeInfo, hi, Program.cellsOf]
      simp [part, hag, hsz, Xs.enc, Xs.toS, List.map_drop, List.map_take]
    · cases h
  · cases h
theorem fieldOff_some {t f off ft : Nat} (h : fieldOff P t f = some (off, ft)) : ∃ fs fd, P.underlying t = some (.struct fs) ∧ fs[f]? = some fd ∧ fd.offset = off ∧ fd.type = ft ∧ P.cellsOf ft ≠ 0 := by
  unfold fieldOff at h
  split at h
  · rename_i fs hu
    split at h
    · rename_i fd hf
      split at h
      · cases h
      · rename_i n hn
        cases h
        exact ⟨fs, fd, hu, hf, rfl, rfl, by rw [hn]; omega⟩
    · cases h
  · cases h
theorem op_field (h : Sim P base pb w0 w e a.tmps) {t : TypeId} {x : Operand} {f off ft : Nat} (ho : o.op = .field t x f) {y : Xs} (hx : ev e x = .c (.agg y)) (hf : fieldOff P t f = some (off, ft)) {c : C} (hc : partC P ft y off = some c)
    (hK : K (putO e o.dst (.c c)) = some r) : Pure1 P base pb w e a K r o := by
  obtain ⟨v, h1, h2, h3, -⟩ := run_part (base := base) (pb := pb) hc w
  obtain ⟨fs, fd, g1, g2, g3, g4, -⟩ := fieldOff_some hf
  refine pureA hK (v := v) (fun w' hw => ?_) h2 h3
  simp only [execOp, ho]
  refine run_v ?_
  rw [ev_agg h hx]
  subst g3; subst g4
  simp only [Instr.field, Sem.run_bind, run_underlying g1, Result.andThen_ok, g2, asAgg, Sem.run_pure]
  exact h1 w'
theorem op_nilCheck (h : Sim P base pb w0 w e a.tmps) {x : Operand} (ho : o.op = .nilCheck x) {s off : Nat} (hx : ev e x = .via s off) (hK : K (putO e o.dst (.via s off)) = some r) : Pure1 P base pb w e a K r o := by
  have hv := (ev_rel h x).1
  rw [hx] at hv
  have hv' := hv
  obtain ⟨h1, A, h2, h3⟩ := hv
  exact pureA hK (v := a.eval x) (fun w' hw => by simp only [execOp, ho, h3]; rfl) hv' (by rw [h3]; rfl)
theorem op_fieldAddr (h : Sim P base pb w0 w e a.tmps) {t : TypeId} {x : Operand} {f off fo ft : Nat} (ho : o.op = .fieldAddr t x f) {s : Nat} (hx : ev e x = .via s off) (hf : fieldOff P t f = some (fo, ft))
    (hK : K (putO e o.dst (.via s (off + fo))) = some r) : Pure1 P base pb w e a K r o := by
  have hv := (ev_rel h x).1
  rw [hx] at hv
  obtain ⟨h1, A, h2, h3⟩ := hv
  obtain ⟨fs, fd, g1, g2, g3, g4, g5⟩ := fieldOff_some hf
  refine pureA hK (v := .pointer (some (A.add (off + fo)))) (fun w' hw => ?_) ⟨h1, A, h2, rfl⟩ rfl
  simp only [execOp, ho]
  refine run_v ?_
  have hsz : ∃ n, n ≠ 0 ∧ (sizeOf fd.type).run P w' = .ok n w' := by
    subst g4
    unfold Program.cellsOf at g5
    cases hi : P.info? fd.type with
    | none => rw [hi] at g5; exact absurd rfl g5
    | some i => exact ⟨i.size, by rw [hi] at g5; exact g5, by simp [sizeOf, typeInfo, hi]⟩
  obtain ⟨n, hn0, hn1⟩ := hsz
  rw [h3]
  subst g3
  simp only [Instr.fieldAt, Sem.run_bind, run_underlying g1, Result.andThen_ok, g2, Instr.sureAddr, Sem.run_pure, fieldPlace, hn1, Sem.run_ite, if_neg hn0, Addr.add_add']
theorem op_indexAddrA (h : Sim P base pb w0 w e a.tmps) {t el : TypeId} {m : Nat} {x i : Operand} (ho : o.op = .indexAddr t x i) (ht : P.underlying t = some (.array m el)) (hc : cell1 P el = true) {s off : Nat} (hx : ev e x = .via s off) {k : IntKind} {n : Int}
    (hi : ev e i = .c (.s (.int k n))) (hK : (bif decide (0 ≤ n) && decide (n < (m : Int)) then K (putO e o.dst (.via s (off + n.toNat))) else none) = some r) : Pure1 P base pb w e a K r o := by
  cases hd : (decide (0 ≤ n) && decide (n < (m : Int)))
  · rw [hd] at hK; cases hK
  · rw [hd] at hK
    simp only [Bool.and_eq_true, decide_eq_true_eq] at hd
    have hv := (ev_rel h x).1
    rw [hx] at hv
    obtain ⟨h1, A, h2, h3⟩ := hv
    refine pureA hK (v := .pointer (some (A.add (off + n.toNat)))) (fun w' hw => ?_) ⟨h1, A, h2, rfl⟩ rfl
    simp only [execOp, ho]
    refine run_v ?_
    rw [h3, ev_s h hi]
    simp only [Instr.indexAt, S.enc, asIntOf, Sem.run_bind, Sem.run_pure, Result.andThen_ok, run_underlying ht, Instr.sureAddr, Sem.run_ite, if_pos hd, run_sizeOf1 hc, Nat.mul_one, Addr.add_add']
theorem op_indexAddrS (h : Sim P base pb w0 w e a.tmps) {t el : TypeId} {x i : Operand} (ho : o.op = .indexAddr t x i) (ht : P.underlying t = some (.slice el)) (hc : cell1 P el = true) {s lo m : Nat} {k : IntKind} {n : Int}
    (hx : (ev e x = .all s ∧ lo = 0 ∧ ∃ y, content e s = some y ∧ m = y.len) ∨ ev e x = .ali s lo m) (hi : ev e i = .c (.s (.int k n))) (hK : (bif decide (0 ≤ n) && decide (n < (m : Int)) then K (putO e o.dst (.via s (lo + n.toNat))) else none) = some r) : Pure1 P base pb w e a K r o := by
  cases hd : (decide (0 ≤ n) && decide (n < (m : Int)))
  · rw [hd] at hK; cases hK
  · rw [hd] at hK
    simp only [Bool.and_eq_true, decide_eq_true_eq] at hd
    have hv := (ev_rel h x).1
    have key : owner (e.getD s .u) = true ∧ ∃ A c b, a.eval x = .slice (some A) m c ∧ baseOf (a.tmps.getD s undef) = some b ∧ A = b.add lo := by
      rcases hx with ⟨g1, rfl, y, g2, rfl⟩ | g1
      · rw [g1] at hv
        obtain ⟨A, cap, h3, h4, h5⟩ := owner_slice h g2
        obtain ⟨b, rfl⟩ := h5 (by omega)
        exact ⟨isSl_owner (isSl_of g2), b, cap, b, hv.2.trans h3, by rw [h3]; rfl, by simp [Addr.add]⟩
      · rw [g1] at hv
        obtain ⟨k1, ⟨A, c, k2, k3, k4, k5⟩, k6⟩ := hv
        obtain ⟨b, k7, rfl⟩ := k4 (by omega)
        exact ⟨k1, _, c, b, k2, k7, rfl⟩
    obtain ⟨h1, A, c, b, h2, h3, rfl⟩ := key
    refine pureA hK (v := .pointer (some (b.add (lo + n.toNat)))) (fun w' hw => ?_) ⟨h1, b, h3, rfl⟩ rfl
    simp only [execOp, ho]
    refine run_v ?_
    rw [h2, ev_s h hi]
    simp only [Instr.indexAt, S.enc, asIntOf, Sem.run_bind, Sem.run_pure, Result.andThen_ok, run_underlying ht, Sem.run_ite, if_pos hd, run_sizeOf1 hc, Nat.mul_one, Addr.add_add']
theorem op_load1 (h : Sim P base pb w0 w e a.tmps) {t : TypeId} {x : Operand} (ho : o.op = .load t x) {s off : Nat} (hx : ev e x = .via s off) {y : Xs} (hy : contentB e s = some y) (hc : cell1 P t = true)
    (hK : y.atN off (fun s => K (putO e o.dst (.c (.s s)))) = some r) : Pure1 P base pb w e a K r o := by
  obtain ⟨z, h1, h2⟩ := atN_some hK
  obtain ⟨A, h3, h4⟩ := cell_at h hy h1
  have hv := (ev_rel h x).1
  rw [hx] at hv
  obtain ⟨g1, A', g2, g3⟩ := hv
  rw [h3] at g2; cases g2
  refine pureL h2 (hm := by simp only [memO, ho]) (hl := by simp only [ldSlot, ho, hx]) (v := z.enc) (fun w' hw => (h.ext hw).rel s) (fun w' hw => ?_) rfl rfl
  simp only [execOp, ho]
  refine run_v ?_
  rw [g3]
  obtain ⟨A2, q3, q4⟩ := cell_atR hw hy h1
  rw [h3] at q3; cases q3
  simp [Instr.loadAt, Instr.sureAddr, loadVar, (cell1_info hc).2 w', q4]
theorem isAggB_run {t : TypeId} (h : isAggB P t = some true) (w : World) : (isAgg t).run P w = .ok true w ∧ (sizeOf t).run P w = .ok (P.cellsOf t) w := by
  refine ⟨?_, ?_⟩
  · unfold isAggB at h
    split at h <;> first | (cases h; done) | skip
    all_goals (rename_i hu; first | simp [isAgg, run_underlying hu] | (cases h; done))
  · unfold isAggB Program.underlying at h
    cases hi : P.info? t with
    | none => rw [hi] at h; simp at h
    | some i => simp [sizeOf, typeInfo, hi, Program.cellsOf]
theorem op_loadA (h : Sim P base pb w0 w e a.tmps) {t : TypeId} {x : Operand} (ho : o.op = .load t x) {s off T : Nat} (hx : ev e x = .via s off) {y : Xs} (hy : e.getD s .u = .box T y) (hc : isAggB P t = some true) {c : Xs} (hl : off + P.cellsOf t ≤ y.len)
    (hce : c.enc = (y.enc.drop off).take (P.cellsOf t)) (hK : K (putO e o.dst (.c (.agg c))) = some r) : Pure1 P base pb w e a K r o := by
  have hyB : contentB e s = some y := by unfold contentB; rw [hy]
  have hv := (ev_rel h x).1
  rw [hx] at hv
  obtain ⟨g1, A, g2, g3⟩ := hv
  refine pureL hK (hm := by simp only [memO, ho]) (hl := by simp only [ldSlot, ho, hx]) (v := .agg c.enc.toArray) (fun w' hw => (h.ext hw).rel s) (fun w' hw => ?_) rfl rfl
  obtain ⟨h1, h2⟩ := isAggB_run hc w'
  have h3 := cells_atR hw hyB hl (A := A) (fun _ => g2)
  simp only [execOp, ho]
  refine run_v ?_
  rw [g3]
  simp only [Instr.loadAt, Instr.sureAddr, loadVar, Sem.run_bind, Sem.run_pure, Result.andThen_ok, h1, Sem.run_ite, if_true, h2, h3]
  rw [hce, cut_enc]
end Go.Proofs.YtnfjggagenmkjaaDoor.AM
