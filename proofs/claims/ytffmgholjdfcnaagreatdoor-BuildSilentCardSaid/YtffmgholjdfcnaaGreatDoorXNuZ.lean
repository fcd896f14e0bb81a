/- Texts of this session, joined. -/
import Derived.Test.YtffmgholjdfcnaaGreatDoorXNuY
set_option linter.unusedSimpArgs false
set_option linter.unusedVariables false
namespace Go.Proofs.YtffmgholjdfcnaaGreatDoor
open Go AM St Nu
open Go.IntKind (i64 u8)
variable {C : Nat → Env → (Env → Option Out) → Option Out}
theorem cutN_to {n b : Nat} (h : b ≤ n) : cutN n none (some (b : Int)) = some (0, b) := by
 unfold cutN
 simp [h]
theorem w8_nat (n : Nat) : u8.wrap (n : Int) = nI (UInt8.ofNat n) := by
 rw [IntKind.wrap_u8]
 unfold nI
 simp
end Go.Proofs.YtffmgholjdfcnaaGreatDoor
