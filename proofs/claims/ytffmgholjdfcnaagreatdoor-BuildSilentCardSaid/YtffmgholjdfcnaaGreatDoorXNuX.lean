/- Texts of this session, joined. -/
import Derived.Test.YtffmgholjdfcnaaGreatDoorXNuH
namespace Go.Proofs.YtffmgholjdfcnaaGreatDoor.Nu
open Go St
def b64 : B := [65, 66, 67, 68, 69, 70, 71, 72, 73, 74, 75, 76, 77, 78, 79, 80, 81, 82, 83, 84, 85, 86, 87, 88, 89, 90, 97, 98, 99, 100, 101, 102, 103, 104, 105, 106, 107, 108, 109, 110, 111, 112, 113, 114, 115, 116, 117, 118, 119, 120, 121, 122, 48, 49, 50, 51, 52, 53, 54, 55, 56, 57, 43, 47]
def sig6 (n : Nat) : UInt8 := b64.getD n 61
def plc (c : UInt8) : Nat := b64.idxOf c
theorem plc_le (c : UInt8) : plc c ≤ 64 := List.idxOf_le_length
def enc : B → B
 | a :: b :: c :: r => sig6 (a.toNat / 4) :: sig6 (a.toNat % 4 * 16 + b.toNat / 16) :: sig6 (b.toNat % 16 * 4 + c.toNat / 64) :: sig6 (c.toNat % 64) :: enc r
 | [a, b] => [sig6 (a.toNat / 4), sig6 (a.toNat % 4 * 16 + b.toNat / 16), sig6 (b.toNat % 16 * 4), 61]
 | [a] => [sig6 (a.toNat / 4), sig6 (a.toNat % 4 * 16), 61, 61]
 | [] => []
def decP : B → Nat → Nat → B → Option B
 | [], _, _, out => some out
 | c :: l, v, bits, out => if 63 < plc c then none
  else if 8 ≤ bits + 6 then decP l ((v * 64 + plc c) % 65536) (bits + 6 - 8) (out ++ [UInt8.ofNat ((v * 64 + plc c) % 65536 / 2 ^ (bits + 6 - 8))])
  else decP l ((v * 64 + plc c) % 65536) (bits + 6) out
theorem byte_lt (a : UInt8) : a.toNat < 256 := a.toNat_lt
theorem enc_len : ∀ b : B, (enc b).length = (b.length + 2) / 3 * 4
 | a :: b :: c :: r => by rw [enc]; simp only [List.length_cons]; rw [enc_len r]; omega
 | [a, b] => by simp [enc]
 | [a] => by simp [enc]
 | [] => rfl
def dec64 (t : B) : Option B := match decP (Lib.trimRightB t 61) 0 0 [] with
 | some b => if enc b = t then some b else none
 | none => none
theorem dec64_some {t b : B} (h : dec64 t = some b) : enc b = t := by
 unfold dec64 at h
 split at h
 ·split at h
  ·injection h with h; subst h; assumption
  ·cases h
 ·cases h
def clean (s : B) : B := s.filter fun c => !(c == 32 || c == 9 || c == 10 || c == 13)
theorem clean_clean (s : B) : clean (clean s) = clean s := by unfold clean; simp
theorem clean_len (s : B) : (clean s).length ≤ s.length := List.length_filter_le _ _
def binT (s : B) : B × Bool := match dec64 (clean s) with
 | some _ => (clean s, true)
 | none => ([], false)
theorem binT_again {s : B} (h : (binT s).2 = true) : binT (binT s).1 = binT s := by
 unfold binT at h ⊢
 cases e : dec64 (clean s) with
 | none => rw [e] at h; cases h
 | some b => simp only [clean_clean, e]
end Go.Proofs.YtffmgholjdfcnaaGreatDoor.Nu
