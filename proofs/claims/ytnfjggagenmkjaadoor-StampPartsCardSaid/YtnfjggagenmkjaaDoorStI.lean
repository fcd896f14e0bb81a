/- The functions of the laws of moments tell what they are said to tell. -/
import Derived.Test.YtnfjggagenmkjaaDoorStL
import Derived.Test.YtnfjggagenmkjaaDoorShelf
import Derived.Lib.LaidTab
set_option linter.unusedVariables false
namespace Go.Proofs.YtnfjggagenmkjaaDoor
open Go AM St

/-- What the library's functions lean on: a table. -/
def G (w : World) : Prop := Lib.TabIs Tryd.prog w "internal/strconv.uint64pow10" .u64 Lib.pow10Tab
noncomputable def ng : Nat := (Tryd.prog.globalNamed "internal/strconv.uint64pow10").getD 0 + 1
theorem gP : Tryd.prog.globalNamed "internal/strconv.uint64pow10" = some (ng - 1) := by kernel_rfl
theorem ng1 : ng = ng - 1 + 1 := by kernel_rfl
theorem stays : Stays Tryd.prog G ng where
  stays := by
    intro w w' h hb _ _ _ _
    unfold G Lib.TabIs World.var? at h ⊢
    rw [gP] at h ⊢
    simp only [Option.bind_some] at h ⊢
    rw [hb (ng - 1) (by have := ng1; omega)]
    exact h
  mixed := by kernel_rfl
theorem G_ng {w : World} (h : G w) : ng ≤ w.heap.size := by
  unfold G Lib.TabIs World.var? at h
  rw [gP] at h
  simp only [Option.bind_some] at h
  rcases Nat.lt_or_ge (ng - 1) w.heap.size with h' | h'
  · have := ng1; omega
  · rw [Array.getElem?_eq_none h'] at h; cases h
theorem is39' : FnIs Tryd.prog G ng 39 (adp39 A39) := fnIs_lib (c := Tryd.f39.body.getD .skip) Tryd.func39 (by kernel_rfl) (by kernel_rfl) fun rc cs K r h => by
  unfold adp39 at h
  split at h
  · exact ⟨rfl, [.str _, .int .u8 _], rfl, .int .i64 _, h, fun w _ => (Tryd.strings_IndexByte _ _ w).mono fun e w' ⟨h1, h2⟩ => ⟨h1, h2 ▸ Ext.refl _⟩⟩
  · cases h
theorem is29' : FnIs Tryd.prog G ng 29 (adp29 A29) := fnIs_lib (c := Tryd.f29.body.getD .skip) Tryd.func29 (by kernel_rfl) (by kernel_rfl) fun rc cs K r h => by
  unfold adp29 A29 at h
  split at h
  · split at h
    · split at h
      · rename_i hc
        exact ⟨rfl, [.str _, .str _], rfl, .str _, h, fun w _ => (Tryd.strings_TrimRight_one ⟨⟨_⟩⟩ _ hc.1 w (by have := hc.2; rw [AM.size_mk]; omega)).mono fun e w' ⟨h1, h2⟩ => ⟨h1, h2 ▸ Ext.refl _⟩⟩
      · cases h
    · cases h
  · cases h
theorem is33' : FnIs Tryd.prog G ng 33 (adp33 A33) := fnIs_lib (c := Tryd.f33.body.getD .skip) Tryd.func33 (by kernel_rfl) (by kernel_rfl) fun rc cs K r h => by
  unfold adp33 A33 at h
  split at h
  · split at h
    · rename_i hc
      exact ⟨rfl, [.int .i64 _], rfl, .str _, h, fun w hG => (Tryd.strconv_Itoa _ hc.1 hc.2 w hG).mono fun e w' ⟨h1, k, os, h2⟩ => ⟨h1, h2 ▸ ext_grow⟩⟩
    · cases h
  · cases h
theorem is34' : FnIs Tryd.prog G ng 34 (adp34 A34) := fnIs_lib (c := Tryd.f34.body.getD .skip) Tryd.func34 (by kernel_rfl) (by kernel_rfl) fun rc cs K r h => by
  unfold adp34 A34 at h
  split at h
  · split at h
    · rename_i s n hc
      obtain ⟨n0, n1, n2⟩ := hc
      have hn : ((n.toNat : Nat) : Int) = n := by omega
      refine ⟨rfl, [.str s, .int .i64 n], rfl, .str _, h, fun w _ => ?_⟩
      have hl : s.length * n.toNat ≤ 140737488355328 := Nat.le_trans (Nat.mul_le_mul n2 (by omega : n.toNat ≤ 1000000)) (by decide)
      have := Tryd.strings_Repeat ⟨⟨s⟩⟩ n.toNat w (by omega) (by rw [AM.size_mk]; exact hl)
      rw [hn] at this
      exact this.mono fun e w' ⟨h1, h2⟩ => ⟨h1, ext_below h2⟩
    · cases h
  · cases h
theorem is32' : FnIs Tryd.prog G ng 32 (adp32 A32) := fnIs_lib (c := Tryd.f32.body.getD .skip) Tryd.func32 (by kernel_rfl) (by kernel_rfl) fun rc cs K r h => by
  unfold adp32 A32 at h
  split at h
  · split at h
    · rename_i hc
      exact ⟨rfl, [.str _], rfl, .str _, h, fun w _ => (Tryd.stringslite_Clone ⟨⟨_⟩⟩ w (by rw [AM.size_mk]; exact hc)).mono fun e w' ⟨h1, h2⟩ => ⟨h1, ext_below h2⟩⟩
    · cases h
  · cases h
theorem t11 : FnIs Tryd.prog G ng 11 (adp11 A11) := as11 stays fun y m K r h => by rw [eq11 cut0_eq]; exact h
theorem t27 : FnIs Tryd.prog G ng 27 (adp27 A27) := as27 stays is39' fun s b of K r h => by rw [eq27 cut0_eq]; exact h
theorem t26 : FnIs Tryd.prog G ng 26 (adp26 A26) := as26 stays t27 fun s b of K r h => eq26 cut0_eq s b of K r h
theorem t25 : FnIs Tryd.prog G ng 25 (adp25 A25) := as25 stays t27 fun s b l m K r h => eq25 cut0_eq s b l m K r h
theorem t40 : FnIs Tryd.prog G ng 40 (adp40 A40) := as40 stays fun s of K r h => eq40 cut0_eq s of K r h
theorem t28 : FnIs Tryd.prog G ng 28 (adp28 A28) := as28 stays t40 fun s b of K r h => eq28 s b of K r h
theorem t30 : FnIs Tryd.prog G ng 30 (adp30 A30) := as30 stays t25 t27 fun s b K r h => eq30 cut0_eq s b K r h
theorem t31 : FnIs Tryd.prog G ng 31 (adp31 A31) := as31 stays t11 fun y mo d h mi s fr z K r hh => by rw [eq31]; exact hh
theorem t19 : FnIs Tryd.prog G ng 19 (adp19 A19) := as19 stays t11 fun y mo d h mi s fr z K r hh => eq19 cut0_eq y mo d h mi s fr z K r hh
theorem t20 : FnIs Tryd.prog G ng 20 (adp20 A20) := as20 stays is33' is34' fun n w K r h => eq20 n w K r h
theorem t18 : FnIs Tryd.prog G ng 18 (adp18 A18) := as18 stays is32' fun s K r h => eq18 s K r h
theorem t17 : FnIs Tryd.prog G ng 17 (adp17 (run17 cut0 A25 A26 A27 A28 A29 A30 A31 big)) := is17 stays t25 t26 t27 t28 is29' t30 t31
theorem t9 : FnIs Tryd.prog G ng 9 (adp9 A9) := as9 stays t17 t18 t19 t20 fun s K r h => eq9 cut0_eq reads17 s K r h
theorem t16 : FnIs Tryd.prog G ng 16 (adp16 A16) := as16 stays t9 fun s K r h => eq16 s K r h
theorem t35 : FnIs Tryd.prog G ng 35 (adp35 A35) := as35 stays fun c K r h => by rw [eq35]; exact h
theorem t12 : FnIs Tryd.prog G ng 12 (adp12 A12) := as12 stays fun y m K r h => by rw [eq12 cut0_eq]; exact h
theorem t13 : FnIs Tryd.prog G ng 13 (adp13 A13) := as13 stays fun n K r h => eq13 cut0_eq n K r h
theorem t38 : FnIs Tryd.prog G ng 38 (adp38 A38) := as38 stays t13 fun n K r h => eq38 n K r h
theorem t10 : FnIs Tryd.prog G ng 10 (adp10 A10) := as10 stays t13 fun n K r h => eq10 n K r h
theorem t52 : FnIs Tryd.prog G ng 52 (adp52 A52) := as52 stays t38 fun y m d K r h => eq52 y m d K r h
theorem t21 : FnIs Tryd.prog G ng 21 (adp21 A21) := as21 stays t35 fun s i l m K r h => eq21 cut0_eq s i l m K r h
theorem t23 : FnIs Tryd.prog G ng 23 (adp23 A23) := as23 stays fun s i of K r h => eq23 cut0_eq s i of K r h
theorem t22 : FnIs Tryd.prog G ng 22 (adp22 A22) := as22 stays t21 t23 fun s i of l m K r h => eq22 s i of l m K r h
theorem t36 : FnIs Tryd.prog G ng 36 (adp36 A36) := as36 stays t22 fun s c K r h => eq36 cut0_eq s c K r h
theorem t37 : FnIs Tryd.prog G ng 37 (adp37 A37) := as37 stays t12 t38 t52 fun y m d n K r h => eq37 cut0_eq y m d n K r h
theorem t24 : FnIs Tryd.prog G ng 24 (adp24 A24) := as24 stays t21 t22 t23 t35 t36 t37 t38 fun s k y m d K r h => eq24 cut0_eq s k y m d K r h
theorem t15 : FnIs Tryd.prog G ng 15 (adp15 A15) := as15 stays t12 t21 t22 t23 t24 fun s K r h => eq15 cut0_eq s K r h
theorem t8 : FnIs Tryd.prog G ng 8 (adp8 A8) := as8 stays t9 t11 fun K r h => by rw [eq8]; exact h
theorem t14 : FnIs Tryd.prog G ng 14 (adp14 A14) := as14 stays fun l K r h => eq14 cut0_eq l K r h
theorem t6 : FnIs Tryd.prog G ng 6 (adp6 A6) := as6 stays t8 t9 t11 t12 t14 t15 t16 fun s l y m K r h => eq6 cut0_eq s l y m K r h
theorem t3 : FnIs Tryd.prog G ng 3 (adp3 A3) := as3 stays t8 t9 t10 t11 fun s y m d K r h => eq3 cut0_eq s y m d K r h
end Go.Proofs.YtnfjggagenmkjaaDoor
