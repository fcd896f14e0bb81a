/- Texts of this session, joined. -/
import Derived.Test.YtffmgholjdfcnaaGreatDoorWStO
set_option linter.unusedSimpArgs false
set_option linter.unusedVariables false
namespace Go.Proofs.YtffmgholjdfcnaaGreatDoor
open Go AM St
theorem dc_nat {n : Int} (h0 : 0 ≤ n) (h1 : n ≤ 9) : (dc n).toNat = 48 + n.toNat := by
 unfold dc
 rw [UInt8.toNat_ofNat']
 omega
def dayB (y m d : Int) (l : B) : B := w4 y ++ (45 :: (w2 m ++ (45 :: (w2 d ++ l))))
def clockB (h mi sec : Int) (l : B) : B := w2 h ++ (58 :: (w2 mi ++ (58 :: (w2 sec ++ l))))
def frB (f l : B) : B := match f with
 | [] => l
 | c :: f => 46 :: (c :: f ++ l)
theorem text_eq (p : Int × Int × Int × Int) (s : Int) (fr : B) : text p s fr = dayB p.1 p.2.1 p.2.2.1 (84 :: clockB (p.2.2.2 / 60) (p.2.2.2 % 60) s (frB fr [90])) := by
 unfold text dayB clockB tail frB
 cases fr <;> simp only [List.append_assoc, List.cons_append, List.nil_append]
structure DayOk (y m d : Int) : Prop where
 y0 : 0 ≤ y
 y1 : y ≤ 9999
 m0 : 1 ≤ m
 m1 : m ≤ 12
 d0 : 1 ≤ d
 d1 : d ≤ days y m
theorem DayOk.le {y m d : Int} (h : DayOk y m d) : d ≤ 31 := by have := days_bd y m; have := h.d1; omega
theorem text_len (p : Int × Int × Int × Int) (s : Int) (fr : B) : (text p s fr).length ≤ 21 + fr.length := by
 rw [text_eq]
 unfold dayB clockB frB
 cases fr <;> simp [w2_len, w4_len] <;> omega
theorem ofT_len (s : B) : (ofT s).1.length ≤ 21 + s.length := by
 unfold ofT
 cases hp : parse s with
 | none => simp
 | some q =>
  obtain ⟨m, date⟩ := q
  simp only
  cases okMo m with
  | false => simp
  | true =>
   cases date with
   | true => simp
   | false =>
    simp only
    cases decide (0 ≤ (putM m).1) && decide ((putM m).1 ≤ 9999) with
    | false => simp
    | true =>
     have h1 := text_len (putM m) m.s m.fr
     have h2 := (parse_bd hp).2.2.2.2.2.2.2
     simp only
     omega
end Go.Proofs.YtffmgholjdfcnaaGreatDoor
