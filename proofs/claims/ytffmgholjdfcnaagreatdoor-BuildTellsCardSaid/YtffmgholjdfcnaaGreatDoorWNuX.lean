/- Texts of this session, joined. -/
import Derived.Test.YtffmgholjdfcnaaGreatDoorWNuH
namespace Go.Proofs.YtffmgholjdfcnaaGreatDoor.Nu
open Go St
def b64 : B := [65, 66, 67, 68, 69, 70, 71, 72, 73, 74, 75, 76, 77, 78, 79, 80, 81, 82, 83, 84, 85, 86, 87, 88, 89, 90, 97, 98, 99, 100, 101, 102, 103, 104, 105, 106, 107, 108, 109, 110, 111, 112, 113, 114, 115, 116, 117, 118, 119, 120, 121, 122, 48, 49, 50, 51, 52, 53, 54, 55, 56, 57, 43, 47]
def sig6 (n : Nat) : UInt8 := b64.getD n 61
def plc (c : UInt8) : Nat := b64.idxOf c
theorem plc_sig {n : Nat} (h : n < 64) : plc (sig6 n) = n := by
 have : ∀ n : Fin 64, plc (sig6 n.val) = n.val := by decide +kernel
 exact this ⟨n, h⟩
theorem sig_ne {n : Nat} (h : n < 64) : sig6 n ≠ 61 := by
 have : ∀ n : Fin 64, sig6 n.val ≠ 61 := by decide +kernel
 exact this ⟨n, h⟩
theorem plc_pad : plc 61 = 64 := by decide +kernel
theorem plc_le (c : UInt8) : plc c ≤ 64 := List.idxOf_le_length
def enc : B → B
 | a :: b :: c :: r => sig6 (a.toNat / 4) :: sig6 (a.toNat % 4 * 16 + b.toNat / 16) :: sig6 (b.toNat % 16 * 4 + c.toNat / 64) :: sig6 (c.toNat % 64) :: enc r
 | [a, b] => [sig6 (a.toNat / 4), sig6 (a.toNat % 4 * 16 + b.toNat / 16), sig6 (b.toNat % 16 * 4), 61]
 | [a] => [sig6 (a.toNat / 4), sig6 (a.toNat % 4 * 16), 61, 61]
 | [] => []
def encT : B → B
 | a :: b :: c :: r => sig6 (a.toNat / 4) :: sig6 (a.toNat % 4 * 16 + b.toNat / 16) :: sig6 (b.toNat % 16 * 4 + c.toNat / 64) :: sig6 (c.toNat % 64) :: encT r
 | [a, b] => [sig6 (a.toNat / 4), sig6 (a.toNat % 4 * 16 + b.toNat / 16), sig6 (b.toNat % 16 * 4)]
 | [a] => [sig6 (a.toNat / 4), sig6 (a.toNat % 4 * 16)]
 | [] => []
def decP : B → Nat → Nat → B → Option B
 | [], _, _, out => some out
 | c :: l, v, bits, out => if 63 < plc c then none
  else if 8 ≤ bits + 6 then decP l ((v * 64 + plc c) % 65536) (bits + 6 - 8) (out ++ [UInt8.ofNat ((v * 64 + plc c) % 65536 / 2 ^ (bits + 6 - 8))])
  else decP l ((v * 64 + plc c) % 65536) (bits + 6) out
theorem byte_lt (a : UInt8) : a.toNat < 256 := a.toNat_lt
theorem ofNat_eq {n : Nat} {a : UInt8} (h : n % 256 = a.toNat) : UInt8.ofNat n = a := by
 apply UInt8.toNat.inj
 simpa using h
theorem decP_step {n v bits : Nat} {l out : B} (h : n < 64) (hb : bits + 6 < 8) : decP (sig6 n :: l) v bits out = decP l ((v * 64 + n) % 65536) (bits + 6) out := by
 rw [decP, plc_sig h, if_neg (by omega), if_neg (by omega)]
theorem decP_byte {n v bits : Nat} {l out : B} (h : n < 64) (hb : 8 ≤ bits + 6) : decP (sig6 n :: l) v bits out = decP l ((v * 64 + n) % 65536) (bits + 6 - 8) (out ++ [UInt8.ofNat ((v * 64 + n) % 65536 / 2 ^ (bits + 6 - 8))]) := by
 rw [decP, plc_sig h, if_neg (by omega), if_pos hb]
theorem decP_enc : ∀ (b : B) (v : Nat) (out : B), decP (encT b) v 0 out = some (out ++ b)
 | a :: b :: c :: r, v, out => by
  have ha := byte_lt a; have hb := byte_lt b; have hc := byte_lt c
  rw [encT, decP_step (by omega) (by omega), decP_byte (by omega) (by omega), decP_byte (by omega) (by omega), decP_byte (by omega) (by omega)]
  have e1 : UInt8.ofNat (((v * 64 + a.toNat / 4) % 65536 * 64 + (a.toNat % 4 * 16 + b.toNat / 16)) % 65536 / 2 ^ (0 + 6 + 6 - 8)) = a := ofNat_eq (by simp only [Nat.reduceAdd, Nat.reduceSub, Nat.reducePow]; omega)
  have e2 : UInt8.ofNat ((((v * 64 + a.toNat / 4) % 65536 * 64 + (a.toNat % 4 * 16 + b.toNat / 16)) % 65536 * 64 + (b.toNat % 16 * 4 + c.toNat / 64)) % 65536 / 2 ^ (0 + 6 + 6 - 8 + 6 - 8)) = b := ofNat_eq (by simp only [Nat.reduceAdd, Nat.reduceSub, Nat.reducePow]; omega)
  have e3 : UInt8.ofNat (((((v * 64 + a.toNat / 4) % 65536 * 64 + (a.toNat % 4 * 16 + b.toNat / 16)) % 65536 * 64 + (b.toNat % 16 * 4 + c.toNat / 64)) % 65536 * 64 + c.toNat % 64) % 65536 / 2 ^ (0 + 6 + 6 - 8 + 6 - 8 + 6 - 8)) = c := ofNat_eq (by simp only [Nat.reduceAdd, Nat.reduceSub, Nat.reducePow]; omega)
  rw [e1, e2, e3]
  have := decP_enc r (((((v * 64 + a.toNat / 4) % 65536 * 64 + (a.toNat % 4 * 16 + b.toNat / 16)) % 65536 * 64 + (b.toNat % 16 * 4 + c.toNat / 64)) % 65536 * 64 + c.toNat % 64) % 65536) (out ++ [a] ++ [b] ++ [c])
  simp only [Nat.reduceAdd, Nat.reduceSub]
  rw [this]
  simp
 | [a, b], v, out => by
  have ha := byte_lt a; have hb := byte_lt b
  rw [encT, decP_step (by omega) (by omega), decP_byte (by omega) (by omega), decP_byte (by omega) (by omega), decP]
  have e1 : UInt8.ofNat (((v * 64 + a.toNat / 4) % 65536 * 64 + (a.toNat % 4 * 16 + b.toNat / 16)) % 65536 / 2 ^ (0 + 6 + 6 - 8)) = a := ofNat_eq (by simp only [Nat.reduceAdd, Nat.reduceSub, Nat.reducePow]; omega)
  have e2 : UInt8.ofNat ((((v * 64 + a.toNat / 4) % 65536 * 64 + (a.toNat % 4 * 16 + b.toNat / 16)) % 65536 * 64 + (b.toNat % 16 * 4)) % 65536 / 2 ^ (0 + 6 + 6 - 8 + 6 - 8)) = b := ofNat_eq (by simp only [Nat.reduceAdd, Nat.reduceSub, Nat.reducePow]; omega)
  rw [e1, e2]
  simp
 | [a], v, out => by
  have ha := byte_lt a
  rw [encT, decP_step (by omega) (by omega), decP_byte (by omega) (by omega), decP]
  have e1 : UInt8.ofNat (((v * 64 + a.toNat / 4) % 65536 * 64 + (a.toNat % 4 * 16)) % 65536 / 2 ^ (0 + 6 + 6 - 8)) = a := ofNat_eq (by simp only [Nat.reduceAdd, Nat.reduceSub, Nat.reducePow]; omega)
  rw [e1]
 | [], v, out => by rw [encT, decP]; simp
theorem drop_pads (l : B) : ∀ k : Nat, (List.replicate k (61 : UInt8) ++ l).dropWhile (· == 61) = l.dropWhile (· == 61)
 | 0 => rfl
 | k + 1 => by rw [List.replicate_succ, List.cons_append, List.dropWhile_cons_of_pos (by decide), drop_pads l k]
theorem drop_none {l : B} (h : ∀ c, c ∈ l → c ≠ 61) : l.dropWhile (· == 61) = l := by
 cases l with
 | nil => rfl
 | cons c l => exact List.dropWhile_cons_of_neg (by simpa using h c (by simp))
theorem trim_pads {l : B} (h : ∀ c, c ∈ l → c ≠ 61) (k : Nat) : Lib.trimRightB (l ++ List.replicate k 61) 61 = l := by
 unfold Lib.trimRightB
 rw [List.reverse_append, List.reverse_replicate, drop_pads, drop_none (fun c hc => h c (by simpa using hc)), List.reverse_reverse]
theorem enc_pads : ∀ b : B, ∃ k, enc b = encT b ++ List.replicate k 61
 | a :: b :: c :: r => by
  obtain ⟨k, h⟩ := enc_pads r
  exact ⟨k, by rw [enc, encT, h]; rfl⟩
 | [a, b] => ⟨1, rfl⟩
 | [a] => ⟨2, rfl⟩
 | [] => ⟨0, rfl⟩
theorem encT_ne : ∀ (b : B) (c : UInt8), c ∈ encT b → c ≠ 61
 | a :: b :: c :: r, x, h => by
  have ha := byte_lt a; have hb := byte_lt b; have hc := byte_lt c
  rw [encT] at h
  simp only [List.mem_cons] at h
  rcases h with h | h | h | h | h
  ·rw [h]; exact sig_ne (by omega)
  ·rw [h]; exact sig_ne (by omega)
  ·rw [h]; exact sig_ne (by omega)
  ·rw [h]; exact sig_ne (by omega)
  ·exact encT_ne r x h
 | [a, b], x, h => by
  have ha := byte_lt a; have hb := byte_lt b
  rw [encT] at h
  simp only [List.mem_cons, List.not_mem_nil, or_false] at h
  rcases h with h | h | h
  ·rw [h]; exact sig_ne (by omega)
  ·rw [h]; exact sig_ne (by omega)
  ·rw [h]; exact sig_ne (by omega)
 | [a], x, h => by
  have ha := byte_lt a
  rw [encT] at h
  simp only [List.mem_cons, List.not_mem_nil, or_false] at h
  rcases h with h | h
  ·rw [h]; exact sig_ne (by omega)
  ·rw [h]; exact sig_ne (by omega)
 | [], x, h => by rw [encT] at h; cases h
theorem trim_enc (b : B) : Lib.trimRightB (enc b) 61 = encT b := by
 obtain ⟨k, h⟩ := enc_pads b
 rw [h, trim_pads (encT_ne b)]
def gS (last : Bool) (j : Nat) (c : UInt8) (st : Nat × Nat) : Option (Nat × Nat) :=
 if plc c = 64 then (if c = 61 ∧ last = true ∧ 2 ≤ j then some (st.1 * 64, st.2 + 1) else none)
 else if 0 < st.2 then none else some (st.1 * 64 + plc c, st.2)
def grp (last : Bool) (c0 c1 c2 c3 : UInt8) : Option (Nat × Nat) :=
 (gS last 0 c0 (0, 0)).bind fun p => (gS last 1 c1 p).bind fun p => (gS last 2 c2 p).bind fun p => gS last 3 c3 p
def three (v : Nat) : B := [UInt8.ofNat (v / 65536), UInt8.ofNat (v / 256), UInt8.ofNat v]
def decR : B → B → Option B
 | c0 :: c1 :: c2 :: c3 :: r, out => match grp r.isEmpty c0 c1 c2 c3 with
  | none => none
  | some p => decR r (out ++ (three p.1).take (3 - p.2))
 | _, out => some out
theorem gS_sig {last : Bool} {j n v : Nat} (h : n < 64) : gS last j (sig6 n) (v, 0) = some (v * 64 + n, 0) := by
 unfold gS
 rw [plc_sig h, if_neg (by omega), if_neg (by simp)]
theorem gS_pad {j v p : Nat} (h : 2 ≤ j) : gS true j 61 (v, p) = some (v * 64, p + 1) := by
 unfold gS
 rw [plc_pad, if_pos rfl, if_pos ⟨rfl, rfl, h⟩]
theorem decR_enc : ∀ (b out : B), decR (enc b) out = some (out ++ b)
 | a :: b :: c :: r, out => by
  have ha := byte_lt a; have hb := byte_lt b; have hc := byte_lt c
  rw [enc, decR]
  unfold grp
  rw [gS_sig (by omega), Option.bind_some, gS_sig (by omega), Option.bind_some, gS_sig (by omega), Option.bind_some, gS_sig (by omega)]
  simp only
  have e : three ((((0 * 64 + a.toNat / 4) * 64 + (a.toNat % 4 * 16 + b.toNat / 16)) * 64 + (b.toNat % 16 * 4 + c.toNat / 64)) * 64 + c.toNat % 64) = [a, b, c] := by
   unfold three
   rw [ofNat_eq (a := a) (by omega), ofNat_eq (a := b) (by omega), ofNat_eq (a := c) (by omega)]
  rw [e, decR_enc r]
  simp
 | [a, b], out => by
  have ha := byte_lt a; have hb := byte_lt b
  rw [enc, decR]
  unfold grp
  rw [gS_sig (by omega), Option.bind_some, gS_sig (by omega), Option.bind_some, gS_sig (by omega), Option.bind_some, List.isEmpty_nil, gS_pad (by omega)]
  simp only
  have e : (three ((((0 * 64 + a.toNat / 4) * 64 + (a.toNat % 4 * 16 + b.toNat / 16)) * 64 + (b.toNat % 16 * 4)) * 64)).take (3 - (0 + 1)) = [a, b] := by
   unfold three
   rw [ofNat_eq (a := a) (by omega), ofNat_eq (a := b) (by omega)]
   rfl
  rw [e, decR]
  simp
 | [a], out => by
  have ha := byte_lt a
  rw [enc, decR]
  unfold grp
  rw [gS_sig (by omega), Option.bind_some, gS_sig (by omega), Option.bind_some, List.isEmpty_nil, gS_pad (by omega), Option.bind_some, gS_pad (by omega)]
  simp only
  have e : (three ((((0 * 64 + a.toNat / 4) * 64 + (a.toNat % 4 * 16)) * 64) * 64)).take (3 - (0 + 1 + 1)) = [a] := by
   unfold three
   rw [ofNat_eq (a := a) (by omega)]
   rfl
  rw [e, decR]
  simp
 | [], out => by rw [enc, decR]; simp; intros; contradiction
theorem enc_len : ∀ b : B, (enc b).length = (b.length + 2) / 3 * 4
 | a :: b :: c :: r => by rw [enc]; simp only [List.length_cons]; rw [enc_len r]; omega
 | [a, b] => by simp [enc]
 | [a] => by simp [enc]
 | [] => rfl
def dec64 (t : B) : Option B := match decP (Lib.trimRightB t 61) 0 0 [] with
 | some b => if enc b = t then some b else none
 | none => none
def dec64R (t : B) : Option B := if t.length % 4 = 0 then (match decR t [] with
 | some b => if enc b = t then some b else none
 | none => none) else none
theorem dec64_enc (b : B) : dec64 (enc b) = some b := by
 unfold dec64
 rw [trim_enc, decP_enc, List.nil_append]
 exact if_pos rfl
theorem dec64R_enc (b : B) : dec64R (enc b) = some b := by
 unfold dec64R
 rw [if_pos (by rw [enc_len]; omega), decR_enc, List.nil_append]
 exact if_pos rfl
theorem dec64_some {t b : B} (h : dec64 t = some b) : enc b = t := by
 unfold dec64 at h
 split at h
 ·split at h
  ·injection h with h; subst h; assumption
  ·cases h
 ·cases h
theorem dec64R_some {t b : B} (h : dec64R t = some b) : enc b = t := by
 unfold dec64R at h
 split at h
 ·split at h
  ·split at h
   ·injection h with h; subst h; assumption
   ·cases h
  ·cases h
 ·cases h
theorem dec_same (t : B) : dec64R t = dec64 t := by
 cases h : dec64 t with
 | some b => rw [← dec64_some h, dec64R_enc]
 | none =>
  cases h2 : dec64R t with
  | none => rfl
  | some b => rw [← dec64R_some h2, dec64_enc] at h; cases h
def clean (s : B) : B := s.filter fun c => !(c == 32 || c == 9 || c == 10 || c == 13)
theorem clean_len (s : B) : (clean s).length ≤ s.length := List.length_filter_le _ _
def binT (s : B) : B × Bool := match dec64 (clean s) with
 | some _ => (clean s, true)
 | none => ([], false)
end Go.Proofs.YtffmgholjdfcnaaGreatDoor.Nu
