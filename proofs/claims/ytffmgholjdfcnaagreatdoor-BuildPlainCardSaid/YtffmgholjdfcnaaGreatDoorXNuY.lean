/- Texts of this session, joined. -/
import Derived.Test.YtffmgholjdfcnaaGreatDoorXNuQ
import Derived.Test.YtffmgholjdfcnaaGreatDoorXNuX
import Derived.Test.YtffmgholjdfcnaaGreatDoorJE
set_option linter.unusedSimpArgs false
set_option linter.unusedVariables false
namespace Go.Proofs.YtffmgholjdfcnaaGreatDoor
open Go AM St Nu
variable {C : Nat → Env → (Env → Option Out) → Option Out}
def A182 : Ty182 := fun l K => if (∀ x, x ∈ l → 0 ≤ x ∧ x ≤ 255) ∧ l.length ≤ 1000000 then K (enc (l.map fun n => UInt8.ofNat n.toNat)) else none
theorem at64 {n : Nat} (h : n < 64) : at? b64 (n : Int) = some (sig6 n) := by
 unfold at?
 rw [if_pos (by omega), Int.toNat_natCast]
 unfold sig6
 rw [List.getD_eq_getElem?_getD, List.getElem?_eq_getElem (show n < b64.length from h)]
 rfl
theorem idx_Pt {s l : B} {c : UInt8} (h : c :: l <:+ s) : (s.map nI)[(Pt s (c :: l)).toNat]? = some (nI c) := by
 have h1 := at_Pt h
 unfold at? at h1
 rw [if_pos (Pt_nn _ _)] at h1
 rw [List.getElem?_map, h1]; rfl
theorem A182_ok {b : B} (h : b.length ≤ 1000000) (K : Tk182) : A182 (b.map nI) K = K (enc b) := by
 unfold A182
 rw [if_pos ⟨fun x hx => by obtain ⟨c, -, rfl⟩ := List.mem_map.1 hx; have := byte_lt c; unfold nI; omega, by rw [List.length_map]; exact h⟩, map_nI]
theorem un_nI {l : List Int} (h : ∀ x, x ∈ l → 0 ≤ x ∧ x ≤ 255) : (l.map fun n => UInt8.ofNat n.toNat).map nI = l := by
 rw [List.map_map]
 conv => rhs; rw [← List.map_id l]
 refine List.map_congr_left fun n hn => ?_
 have := h n hn
 show nI (UInt8.ofNat n.toNat) = n
 unfold nI
 rw [UInt8.toNat_ofNat_of_lt' (by show n.toNat < 256; omega)]
 omega
end Go.Proofs.YtffmgholjdfcnaaGreatDoor
