/- Texts of this session, joined. -/
import Derived.Test.YtffmgholjdfcnaaGreatDoorXNuR
set_option linter.unusedSimpArgs false
set_option linter.unusedVariables false
namespace Go.Proofs.YtffmgholjdfcnaaGreatDoor
open Go AM St Nu
variable {C : Nat → Env → (Env → Option Out) → Option Out}
structure OwnT (t : B) : Prop where
 d : t.all dg = true
 ne : t ≠ []
 g : good t = true
theorem dec_len {n : Nat} (h : n < 10000000000000) : (Lib.decDigits n).length ≤ 13 := by
 rw [Lib.decDigits_length]; exact nDig_le 12 n (by simpa using h)
end Go.Proofs.YtffmgholjdfcnaaGreatDoor
