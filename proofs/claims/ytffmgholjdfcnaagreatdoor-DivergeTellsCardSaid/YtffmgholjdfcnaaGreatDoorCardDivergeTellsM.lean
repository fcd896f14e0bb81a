/- A law's card. -/
import Derived.Test.YtffmgholjdfcnaaGreatDoorCards
import Derived.Test.YtffmgholjdfcnaaGreatDoorTie
import Derived.Test.YtffmgholjdfcnaaGreatDoorYSZ
import Derived.WalkKit
import Derived.ProofKit
import Derived.OpenShut
import Derived.ShutString
import Derived.ChangeOld
import Derived.Below
import Derived.SizedLaws
import Derived.Deep.DeepHandedRow
import Derived.Lib.LaidTab
import Derived.SevenTiedAt
set_option linter.unusedVariables false
namespace Go.Proofs.YtffmgholjdfcnaaGreatDoor.divergeTells
open Go.ChangeShapes Go.WideShapes Go.ChangeAt Go.RowKit Go.Proofs.YtffmgholjdfcnaaGreatDoor.AM
open Go.ChangeMaps (open_string shut_string)
theorem own : ownKnob Tryz.prog.godebug = none := by kernel_rfl
theorem laidOut : laidOutB Tryz.prog = true := by kernel_rfl
theorem gOf {W : World} (h : laidMetH Tryz.prog Rows.divergeTellsRow.laid W) (hs : W.ShapedOpen Tryz.prog) : G W := laid_G h hs
set_option maxRecDepth 100000 in
theorem contract (H : Type) (enc : TypeId × Value → H) (W : World) (base : Nat) (args : Array Value) (ds gs : List (DataW H)) (before : List MemPlace)
    (hval : ∀ (j : Nat) t v, Tryz.f10.params[j]? = some t → args[j]? = some v → Value.okWide Tryz.prog W .any base t v)
    (hW : DataW.Whole enc Tryz.prog Tryz.f10.params.toList Rows.divergeTellsSpec.vars false W args.toList ds gs before) (hL : laidMetH Tryz.prog Rows.divergeTellsRow.laid W) (hS : W.ShapedOpen Tryz.prog) :
    Calls Tryz.prog 10 args W fun e W' => ∃ v, e = .returned v ∧ Rows.divergeTellsSpec.post enc Tryz.prog Tryz.f10 false true false false W args v W' := by
  have hW' := hW
  obtain ⟨p, q, hA0, hV, rfl, hfz, hnd⟩ := hW
  have hA : DataW.TrodAll enc Tryz.prog W 0 (fun _ => true) true Tryz.f10.params.toList args.toList ds p := hA0
  rw [Tryz.params10] at hA hval
  obtain ⟨v0, vs0, d0, ds0, p0, q0, hargs, rfl, rfl, h0, r0⟩ := trodAll_cons hA
  obtain ⟨v1, vs1, d1, ds1, p1, q1, rfl, rfl, rfl, h1, r1⟩ := trodAll_cons r0
  obtain ⟨v2, vs2, d2, ds2, p2, q2, rfl, rfl, rfl, h2, r2⟩ := trodAll_cons r1
  obtain ⟨v3, vs3, d3, ds3, p3, q3, rfl, rfl, rfl, h3, r3⟩ := trodAll_cons r2
  obtain ⟨v4, vs4, d4, ds4, p4, q4, rfl, rfl, rfl, h4, r4⟩ := trodAll_cons r3
  obtain ⟨rfl, rfl, rfl⟩ := trodAll_nil r4
  obtain rfl : args = #[v0, v1, v2, v3, v4] := by cases args; simp_all
  obtain ⟨rfl, rfl⟩ := trodVars_none hV
  obtain ⟨a0, rfl, rfl, rfl⟩ := open_bool Tryz.underlying4 (hval 0 4 v0 rfl rfl) h0
  obtain ⟨a1, rfl, rfl, rfl, y1⟩ := open_string Tryz.underlying9 (hval 1 9 v1 rfl rfl) h1
  obtain ⟨a2, rfl, rfl, rfl, y2⟩ := open_string Tryz.underlying9 (hval 2 9 v2 rfl rfl) h2
  obtain ⟨a3, rfl, rfl, rfl, w3⟩ := open_int Tryz.underlying5 (hval 3 5 v3 rfl rfl) h3
  have b3 : 0 ≤ a3 ∧ a3 ≤ 255 := by simpa [Lit.wf, IntKind.min, IntKind.max, IntKind.signed, IntKind.bits] using w3
  obtain ⟨a4, len4, cap4, rfl⟩ := okWide_slice Tryz.underlying22 (hval 4 22 v4 rfl rfl)
  have k4 := h4
  have lt4 : ∀ x ∈ p4, x.block < W.heap.size := by obtain ⟨m, hm⟩ := k4; exact DataW.trod_lt m _ _ _ hm
  obtain ⟨z4, wl4, w4, wb4⟩ : ∃ zs : List Int, len4 ≤ zs.length ∧ RoRel W.heap.size none W (.ints .u8 (zs.take len4)) (.slice a4 len4 cap4) ∧ ∀ x, x ∈ zs.take len4 → 0 ≤ x ∧ x ≤ 255 := open_bytes_ro (t := 22) (e := 5) Tryz.underlying22 Tryz.underlying5 (by kernel_rfl) h4 lt4 rfl
  clear hA0 hval
  have hG := gOf hL hS
  have hlaw : adp10 A10 none [.s (.bool a0), .s (.str a1.data.toList), .s (.str a2.data.toList), .s (.int .u8 a3), .ro (.ints .u8 (z4.take len4))] some = some ([.s (.bool true)], none) := by
    exact if_pos ⟨b3, wb4⟩
  refine (calls_law t10 (c := Tryz.f10.body.getD .skip) Tryz.func10 (by kernel_rfl) (by kernel_rfl) hlaw hG (G_ng hG) (vs := [.bool a0, .string a1, .string a2, .int .u8 a3, .slice a4 len4 cap4]) (.cons rfl (.cons rfl (.cons rfl (.cons rfl (.cons w4 .nil))))) (by rfl)).mono fun e W' ⟨he, bel⟩ => ?_
  subst he
  exact ⟨_, rfl, _, _, _, [], _, [], hW', trodAll_mk1 (shut_bool Tryz.underlying4 _), (trodAll_cons_mk (shut_bool Tryz.underlying4 _) (trodAll_cons_mk (shut_string Tryz.underlying9 y1) (trodAll_cons_mk (shut_string Tryz.underlying9 y2) (trodAll_cons_mk (shut_int Tryz.underlying5 w3) (trodAll_cons_mk (Below.trod laidOut (by kernel_rfl) (of_decide_eq_true (by kernel_rfl)) k4 bel lt4) trodAll_mk0))))), rfl, bel.frame _, fun h => by cases h⟩
theorem laid_met (os : Os) : laidMet Tryz.prog Rows.divergeTellsRow.laid ((laidWorld os).forCall (fun _ _ => 0) ⟨#[], #[.bool false, .string ByteArray.empty, .string ByteArray.empty, .int .u8 0, .slice none 0 0], []⟩).memory :=
  laidMet_of_run' 8 (by kernel_rfl) (by kernel_rfl)
theorem reads (os : Os) {H : Type} (enc : TypeId × Value → H) : ∃ places, DataW.whole enc Tryz.prog ((laidWorld os).forCall (fun _ _ => 0) ⟨#[], #[.bool false, .string ByteArray.empty, .string ByteArray.empty, .int .u8 0, .slice none 0 0], []⟩).memory Tryz.f10.params.toList Rows.divergeTellsSpec.vars false (#[.bool false, .string ByteArray.empty, .string ByteArray.empty, .int .u8 0, .slice none 0 0] : Array Value).toList 8 = some ([.lit (.bool false), .lit (.string []), .lit (.string []), .lit (.int .u8 0), .nil], [], places) :=
  ⟨[], by kernel_rfl⟩
set_option maxRecDepth 100000 in
theorem lifted (os : Os) (started : os.Started) (H : Type) (enc : TypeId × Value → H) (F : Stop.Interp) :
    ReturnsInHanded {} Tryz.checked os 10 .any ((OpenSpec.ofChange Rows.divergeTellsSpec).preRow enc Tryz.prog Tryz.f10 Rows.divergeTellsRow.domain false Rows.divergeTellsRow.laid) (((OpenSpec.ofChange Rows.divergeTellsSpec).at F).post enc Tryz.prog Tryz.f10 false true false false) := by
  obtain ⟨places, hx⟩ := reads os enc
  refine returnsInHanded_of_row (C := Tryz.checked) (s := OpenSpec.ofChange Rows.divergeTellsSpec) own started (by kernel_rfl) Tryz.func10
    (witness_row_at (enc := enc) (C := Tryz.checked) false (laidWorld os) #[.bool false, .string ByteArray.empty, .string ByteArray.empty, .int .u8 0, .slice none 0 0] rfl (by kernel_rfl) (by kernel_rfl) (by kernel_rfl)
      (OpenSpec.preRow_of_cond 8 hx (by kernel_rfl) (fun k hk => by cases hk) (by kernel_rfl) (laid_met os))) ?_
  intro W base args ds gs before hval hW _ _ _ hL hS _
  exact contract H enc W base args ds gs before hval hW hL hS
theorem and2 {a b : Bool} (h : a = true) (g : b = true) : (a && b) = true := by rw [h, g]; rfl
set_option maxHeartbeats 0 in
theorem closed : joinedFacts Tryz.pinned.checked.prog 10 Tryz.f10 (OpenSpec.ofChange Rows.divergeTellsSpec).bare Rows.divergeTellsRow = true := by
  unfold joinedFacts
  repeat' with_reducible apply and2
  all_goals as_aux_lemma => kernel_rfl
theorem said : Rows.DivergeTellsSaid :=
  OpenClaim.holds_of_cond 10 Tryz.f10 rfl rfl rfl rfl rfl rfl rfl ⟨rfl, rfl, rfl, rfl, rfl⟩ rfl rfl rfl rfl rfl (by kernel_rfl) Tryz.func10 closed
    (of_decide_eq_true (by kernel_rfl)) (by unfold Func.isWrapper; first | (rw [if_pos (by decide +kernel)]; kernel_rfl) | (rw [if_neg (by decide +kernel)]; exact ⟨rfl, rfl⟩))
    (fun os started H enc _ F => by rw [OpenClaim.pre_eq_preRow]; exact lifted os started H enc F)
theorem plain (f : FuncId) (fn : Func) (hf : Tryz.pinned.checked.prog.funcNamed "targum/targumlaw16.DivergeTells" = some f) (hfn : Tryz.pinned.checked.prog.funcs[f]? = some fn) :
    false = Tryz.pinned.checked.prog.looks [] ∧ ∀ (j : Nat) t, fn.params[j]? = some t → Tryz.pinned.checked.prog.wantsStandIn t = false := by
  obtain rfl : f = 10 := Option.some.inj ((show Tryz.prog.funcNamed "targum/targumlaw16.DivergeTells" = some 10 by kernel_rfl).symm.trans hf) |>.symm
  obtain rfl : fn = Tryz.f10 := (Option.some.inj (Tryz.func10.symm.trans hfn)).symm
  refine ⟨by kernel_rfl, fun j t ht => ?_⟩
  rw [Tryz.params10] at ht
  have hm : t ∈ [4, 9, 9, 5, 22] := by simpa using Array.mem_of_getElem? ht
  have hall : ([4, 9, 9, 5, 22].all fun u => !Tryz.prog.wantsStandIn u) = true := by kernel_rfl
  exact (show Tryz.prog.wantsStandIn t = false by simpa using List.all_eq_true.1 hall t hm)
end Go.Proofs.YtffmgholjdfcnaaGreatDoor.divergeTells
namespace Go.Proofs.YtffmgholjdfcnaaGreatDoor
/-- The card of DivergeTells. -/
theorem divergeTells_card : Rows.DivergeTellsCardSaid :=
  Claim7.holds_tied_plain_at .later [] _ _ _ _ divergeTells.said (fun _ h => by cases h) (by kernel_rfl) (fun _ h => by cases h) divergeTells_row_tie rfl ⟨rfl, rfl⟩ (by kernel_rfl) rfl divergeTells.plain (by kernel_rfl)
#print axioms divergeTells_card
end Go.Proofs.YtffmgholjdfcnaaGreatDoor
