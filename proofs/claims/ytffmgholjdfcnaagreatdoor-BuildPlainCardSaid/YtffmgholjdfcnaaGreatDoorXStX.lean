/- Texts of this session, joined. -/
import Derived.Test.YtffmgholjdfcnaaGreatDoorXNvI
import Derived.Test.YtffmgholjdfcnaaGreatDoorRows
import Derived.WalkKit
import Derived.ProofKit
import Derived.OpenShut
import Derived.MakeChecks
import Derived.LaidLaws
import Derived.Lib.LaidTab
set_option linter.unusedVariables false
namespace Go.Proofs.YtffmgholjdfcnaaGreatDoor
open Go AM Go.RowKit Go.ChangeShapes Go.WideShapes Go.ChangeAt
def cellsD : Nat → DataW Unit → List Value
 | _ + 1, .lit (.int k n) => [.int k n]
 | f + 1, .agg l => l.flatMap (cellsD f)
 | _, _ => []
noncomputable def holdAt (w : World) (x : String × DataW Unit) : World :=
 { w with heap := w.heap.modify ((Tryz.prog.globalNamed x.1).getD 0) fun
   | .cells _ t frozen => .cells (cellsD 5 x.2).toArray t frozen
   | o => o }
noncomputable def laidWorld (os : Os) : World :=
 Rows.resolveTellsRow.laid.foldl holdAt (World.holding Tryz.prog os ⟨#[], #[], []⟩)
theorem tab_of {P : Program} {W : World} {name : String} {k : IntKind} {zs : List Int} {g : Nat} {t e : TypeId} {n : Nat}
  (hg : P.globalNamed name = some g) (hty : (P.globals[g]?).map (·.type) = some t) (ht : P.underlying t = some (.array n e)) (he : P.underlying e = some (.int k)) (hce : P.cellsOf e = 1) (hct : P.cellsOf t = n) :
  ∀ (l : List (String × DataW Unit)) (ps : List MemPlace), DataW.LaidVars P W l ps → (name, Lib.tabData k zs) ∈ l → Lib.TabIs P W name k zs
 | [], _, _, hm => by cases hm
 | (x, d) :: rest, ps, h, hm => by
  obtain ⟨g', t', cs, fuel, p, q, hg', ht', hvar, hd, hrest, _⟩ := h
  rcases List.mem_cons.1 hm with hm | hm
  ·cases hm
   obtain rfl := Option.some.inj (hg.symm.trans hg')
   obtain rfl := Option.some.inj (hty.symm.trans ht')
   unfold Lib.TabIs
   rw [hvar, ← Lib.cells_of_tab ht he hce hct hd]
  ·exact tab_of hg hty ht he hce hct rest _ hrest hm
noncomputable def tP : TypeId := ((Tryz.prog.globals[ng - 1]?).map (·.type)).getD 0
noncomputable def eP : TypeId := match Tryz.prog.underlying tP with
 | some (.array _ e) => e
 | _ => 0
theorem cell2 {W : World} (h : W.ShapedOpen Tryz.prog) : ∃ m : Int, W.cell? ⟨2, 0, none⟩ = some (.int .i64 m) :=
 Go.Proofs.cell_of_shapedOpen_int (zero := #[.int .i64 0]) (t := 3) h (of_decide_eq_true (by kernel_rfl)) (by kernel_rfl) rfl (by kernel_rfl) (by kernel_rfl) Tryz.underlying3
theorem laid_G {W : World} (h : laidMetH Tryz.prog Rows.resolveTellsRow.laid W) (hs : W.ShapedOpen Tryz.prog) : G W := by
 refine ⟨?_, cell2 hs⟩
 rw [MakeChecks.laidMetH_plain _ _ _ (by kernel_rfl)] at h
 obtain ⟨ps, h, -⟩ := h
 refine tab_of gP (t := tP) (e := eP) (n := 20) (by kernel_rfl) (by kernel_rfl) (by kernel_rfl) (by kernel_rfl) (by kernel_rfl) _ ps h ?_
 exact .tail _ (.tail _ (.head _))
theorem open_bytes_ro {H : Type} {enc : TypeId × Value → H} {P : Program} {W : World} {base0 : Nat} {sp : Nat → Bool} {held : Bool} {t e : TypeId} {a : Option Addr} {len cap : Nat} {d : DataW H} {ps : List MemPlace}
  (ht : P.underlying t = some (.slice e)) (he : P.underlying e = some (.int .u8)) (hc : P.cellsOf e = 1) (h : DataW.Trod enc P W base0 sp held t (.slice a len cap) d ps) (hlt : ∀ x ∈ ps, x.block < W.heap.size) (hsp : sp = fun _ => true) :
  ∃ zs : List Int, len ≤ zs.length ∧ RoRel W.heap.size none W (.ints .u8 (zs.take len)) (.slice a len cap) ∧ ∀ x, x ∈ zs.take len → 0 ≤ x ∧ x ≤ 255 := by
 subst hsp
 obtain ⟨fuel, hf⟩ := h
 rcases open_ints ht he hc hf with ⟨hcs, _⟩ | ⟨x, l, c, zs, hcs, _, hl, hm, hz, hx, hcell, hwz⟩
 ·simp [Value.cells] at hcs
  obtain ⟨rfl, rfl, rfl⟩ := hcs
  exact ⟨[], by simp, ⟨none, 0, by simp [Xs.len], by simp [Xs.len], fun i hi => by simp [Xs.len] at hi⟩, fun x hx => by simp at hx⟩
 ·simp [Value.cells] at hcs
  obtain ⟨rfl, rfl, rfl⟩ := hcs
  have hz' : zs.length = cap := by simpa using hz
  have hlen : (Xs.ints .u8 (zs.take len)).len = len := by simp [Xs.len]; omega
  refine ⟨zs, by omega, ⟨some x, cap, by rw [hlen], by rw [hlen]; exact hl, fun i hi => ?_⟩, fun n hn => ?_⟩
  ·rw [hlen] at hi
   have hps : ps = MemPlace.row x zs.length := by simpa using congrArg Prod.snd hx
   refine ⟨x, rfl, ?_, by simp, ?_⟩
   ·have : ∃ y ∈ ps, y.block = x.block := by
     rw [hps]
     exact ⟨.cell x.block (x.off + 0), List.mem_map.2 ⟨0, by simp; omega, rfl⟩, rfl⟩
    obtain ⟨y, hy, hb⟩ := this
    rw [← hb]; exact hlt y hy
   ·rw [hcell i (by omega)]
    simp only [Xs.enc, Xs.toS, List.getElem?_map]
    rw [List.getElem?_take_of_lt hi, List.getElem?_eq_getElem (by omega)]
    simp [S.enc, List.getD, List.getElem?_eq_getElem (by omega : i < zs.length)]
  ·have := hwz n (List.mem_of_mem_take hn)
   simp [Lit.wf, IntKind.min, IntKind.max, IntKind.signed, IntKind.bits] at this
   omega
end Go.Proofs.YtffmgholjdfcnaaGreatDoor
