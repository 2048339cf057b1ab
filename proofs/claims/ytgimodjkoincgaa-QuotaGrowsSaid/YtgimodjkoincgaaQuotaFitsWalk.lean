/- QuotaFits: the walk of the law. -/
import Derived.Test.YtgimodjkoincgaaAwake
import Derived.Test.YtgimodjkoincgaaPlain2
namespace Go.Proofs.Ytgimodjkoincgaa
open Go.RowKit

theorem bds_u8 {a : Int} (h : (Lit.int .u8 a).wf = true) : 0 ≤ a ∧ a ≤ 255 := by
  simp only [Lit.wf, Bool.and_eq_true, decide_eq_true_eq] at h
  exact h

set_option maxHeartbeats 2000000 in
theorem quotaFits_walk (v : Value) (a b : Int) (l : List Int) (w : World) (fl : Ints w v l) (ml : l.length ≤ 9223372036854775807) (ha : 0 ≤ a ∧ a ≤ 255) (hb : 0 ≤ b ∧ b ≤ 255) :
    Calls Try.prog 4 #[v, .int .u8 a, .int .u8 b] w fun e w' => e = .returned (.bool true) ∧ Below w.heap.size w w' := by
  have fl0 := fl
  obtain ⟨ao, cap, rfl, hx⟩ := fl
  clear hx
  obtain ⟨a1, a2⟩ := ha
  obtain ⟨b1, b2⟩ := hb
  by_cases h1 : (l.length : Int) ≤ 400
  · have hA := Ex.refl w.heap.size none w
    obtain ⟨x, hX⟩ : ∃ x, x = keysD l 10 := ⟨_, rfl⟩
    obtain ⟨y, hY⟩ : ∃ y, y = keysD x.2 10 := ⟨_, rfl⟩
    obtain ⟨z, hZ⟩ : ∃ z, z = keysD y.2 10 := ⟨_, rfl⟩
    have lx : (x.1.length : Int) ≤ 10 := by rw [hX]; exact keysD_le (by omega)
    have ly : (y.1.length : Int) ≤ 10 := by rw [hY]; exact keysD_le (by omega)
    have lz : (z.1.length : Int) ≤ 10 := by rw [hZ]; exact keysD_le (by omega)
    have my : Hid (∀ e ∈ y.1, 0 ≤ e ∧ e < 64) := fun e he => by rw [hY] at he; have := keysD_mem (by omega) he; omega
    have HX := Lib.hid hX
    have HY := Lib.hid hY
    have HZ := Lib.hid hZ
    clear hX hY hZ
    have lm1 := minusI_le x.1 y.1
    have lm2 := minusI_le y.1 x.1
    have t0 : Hid (∀ q, q = 0 → fitsI x.1 x.1 q = true) := fun q h => by rw [h]; exact fits_none (fun _ h => h)
    have t1 : Hid (∀ q, q = 0 → fitsI x.1 (minusI x.1 y.1) q = true) := fun q h => by rw [h]; exact fits_none (fun _ h => (mem_minusI.1 h).2.2.1)
    go_enter Try.func4, Try.ntmps4
    go_wp2_with fail
    refine (light_any _ _ _ _).mono ?_
    rintro e w' ⟨rfl, rfl⟩
    go_wp2_with fail
    refine (roll_any _ _ _ fl0 (by omega)).mono ?_
    rintro e w1 ⟨p, rfl, hd, hp1, hp2, hex1⟩
    have hE1 : Ex w.heap.size none w w1 := (Ex.weaken (by repeat (first | exact Ex.refl _ _ _ | refine Ex.alloc ?_ (by simp <;> omega) _ | refine Ex.drewN ?_ | refine Ex.drew ?_)) _).trans hex1 (by simp <;> omega) (by simp)
    have hS1 := hE1.size
    clear fl0
    replace hA := hA.trans hE1 (by omega) (by simp)
    clear hex1 hE1
    go_wp2_with fail
    refine (keys_any _ _ _ 10 _ hd (by omega) (by omega) (by omega)).mono ?_
    rintro e w2 ⟨ro1, rc1, rfl, hown, hd2, hex2⟩
    have hE2 : Ex w1.heap.size (some p) w1 w2 := (Ex.weaken (by repeat (first | exact Ex.refl _ _ _ | refine Ex.alloc ?_ (by simp <;> omega) _ | refine Ex.drewN ?_ | refine Ex.drew ?_)) _).trans hex2 (by simp <;> omega) (by simp)
    have hS2 := hE2.size
    clear hd
    replace hA := hA.trans hE2 (by omega) (fun q e _ => by cases e; omega)
    rw [← HX.out] at hown hd2
    have f1 := hown.o (p := p) (by omega)
    clear hown
    have hd := hd2
    clear hd2
    clear hex2 hE2
    rw [← HX.out]
    go_wp2_with fail
    refine (keys_any _ _ _ 10 _ hd (by omega) (by omega) (by omega)).mono ?_
    rintro e w3 ⟨ro2, rc2, rfl, hown, hd2, hex3⟩
    have hE3 : Ex w2.heap.size (some p) w2 w3 := (Ex.weaken (by repeat (first | exact Ex.refl _ _ _ | refine Ex.alloc ?_ (by simp <;> omega) _ | refine Ex.drewN ?_ | refine Ex.drew ?_)) _).trans hex3 (by simp <;> omega) (by simp)
    have hS3 := hE3.size
    replace f1 := f1.keep hE3 (Nat.le_refl _) (by simp)
    clear hd
    replace hA := hA.trans hE3 (by omega) (fun q e _ => by cases e; omega)
    rw [← HY.out] at hown hd2
    have f2 := hown.o (p := p) (by omega)
    clear hown
    have hd := hd2
    clear hd2
    clear hex3 hE3
    rw [← HY.out]
    go_wp2_with fail
    refine (keys_any _ _ _ 10 _ hd (by omega) (by omega) (by omega)).mono ?_
    rintro e w4 ⟨ro3, rc3, rfl, hown, hd2, hex4⟩
    have hE4 : Ex w3.heap.size (some p) w3 w4 := (Ex.weaken (by repeat (first | exact Ex.refl _ _ _ | refine Ex.alloc ?_ (by simp <;> omega) _ | refine Ex.drewN ?_ | refine Ex.drew ?_)) _).trans hex4 (by simp <;> omega) (by simp)
    have hS4 := hE4.size
    replace f1 := f1.keep hE4 (Nat.le_refl _) (by simp)
    replace f2 := f2.keep hE4 (Nat.le_refl _) (by simp)
    clear hd
    replace hA := hA.trans hE4 (by omega) (fun q e _ => by cases e; omega)
    rw [← HZ.out] at hown hd2
    have f3 := hown.o (p := p) (by omega)
    clear hown
    have hd := hd2
    clear hd2
    clear hex4 hE4
    rw [← HZ.out]
    go_wp2_with fail
    refine (asB (fits_any _ _ _ _ _ _ f1.v f1.v (by omega) (by omega)) (b := true) (t0.out _ rfl)).mono ?_
    rintro e w5 ⟨rfl, hex5⟩
    have hE5 : Ex w4.heap.size none w4 w5 := (Ex.weaken (by repeat (first | exact Ex.refl _ _ _ | refine Ex.alloc ?_ (by simp <;> omega) _ | refine Ex.drewN ?_ | refine Ex.drew ?_)) _).trans hex5 (by simp <;> omega) (by simp)
    have hS5 := hE5.size
    replace f1 := f1.keep hE5 (Nat.le_refl _) (by simp)
    replace f2 := f2.keep hE5 (Nat.le_refl _) (by simp)
    replace f3 := f3.keep hE5 (Nat.le_refl _) (by simp)
    replace hd := hd.keep hE5 (by omega)
    replace hA := hA.trans hE5 (by omega) (by simp)
    clear hex5 hE5
    go_wp2_with fail
    refine (minus_any _ _ _ _ _ f1.v f2.v (by omega) (by omega)).mono ?_
    rintro e w6 ⟨ro4, rc4, rfl, hown, hex6⟩
    have hE6 : Ex w5.heap.size none w5 w6 := (Ex.weaken (by repeat (first | exact Ex.refl _ _ _ | refine Ex.alloc ?_ (by simp <;> omega) _ | refine Ex.drewN ?_ | refine Ex.drew ?_)) _).trans hex6 (by simp <;> omega) (by simp)
    have hS6 := hE6.size
    replace f1 := f1.keep hE6 (Nat.le_refl _) (by simp)
    replace f2 := f2.keep hE6 (Nat.le_refl _) (by simp)
    replace f3 := f3.keep hE6 (Nat.le_refl _) (by simp)
    replace hd := hd.keep hE6 (by omega)
    replace hA := hA.trans hE6 (by omega) (by simp)
    have f4 := hown.v
    clear hown
    clear hex6 hE6
    go_wp2_with fail
    refine (asB (fits_any _ _ _ _ _ _ f1.v f4 (by omega) (by omega)) (b := true) (t1.out _ rfl)).mono ?_
    rintro e w7 ⟨rfl, hex7⟩
    have hE7 : Ex w6.heap.size none w6 w7 := (Ex.weaken (by repeat (first | exact Ex.refl _ _ _ | refine Ex.alloc ?_ (by simp <;> omega) _ | refine Ex.drewN ?_ | refine Ex.drew ?_)) _).trans hex7 (by simp <;> omega) (by simp)
    have hS7 := hE7.size
    replace f1 := f1.keep hE7 (Nat.le_refl _) (by simp)
    replace f2 := f2.keep hE7 (Nat.le_refl _) (by simp)
    replace f3 := f3.keep hE7 (Nat.le_refl _) (by simp)
    replace hd := hd.keep hE7 (by omega)
    replace f4 := f4.keep hE7 (Nat.le_refl _)
    replace hA := hA.trans hE7 (by omega) (by simp)
    clear hex7 hE7
    go_wp2_with fail
    clear f4
    by_cases hxy : fitsI x.1 y.1 (a % 8) = true
    · have Hxy : Hid (fitsI x.1 y.1 (a % 8) = true) := hxy
      have Hs : Hid (fitsI x.1 y.1 (a % 8 + b % 8) = true) := fits_mono hxy (by omega)
      have Hm : Hid (fitsI x.1 y.1 (a % 8) = decide (((minusI y.1 x.1).length : Int) ≤ a % 8)) := fits_minus my.out
      have hmin : (minusI y.1 x.1).length ≤ a % 8 := by have := Hm.out; rw [Hxy.out] at this; simpa using this.symm
      clear hxy
      refine (asB (fits_any _ _ _ _ _ _ f1.v f2.v (by omega) (by omega)) (b := true) Hxy.out).mono ?_
      rintro e w8 ⟨rfl, hex8⟩
      have hE8 : Ex w7.heap.size none w7 w8 := (Ex.weaken (by repeat (first | exact Ex.refl _ _ _ | refine Ex.alloc ?_ (by simp <;> omega) _ | refine Ex.drewN ?_ | refine Ex.drew ?_)) _).trans hex8 (by simp <;> omega) (by simp)
      have hS8 := hE8.size
      replace f1 := f1.keep hE8 (Nat.le_refl _) (by simp)
      replace f2 := f2.keep hE8 (Nat.le_refl _) (by simp)
      replace f3 := f3.keep hE8 (Nat.le_refl _) (by simp)
      replace hd := hd.keep hE8 (by omega)
      replace hA := hA.trans hE8 (by omega) (by simp)
      clear hex8 hE8
      go_wp2_with fail
      refine (asB (fits_any _ _ _ _ _ _ f1.v f2.v (by omega) (by omega)) (b := true) Hs.out).mono ?_
      rintro e w9 ⟨rfl, hex9⟩
      have hE9 : Ex w8.heap.size none w8 w9 := (Ex.weaken (by repeat (first | exact Ex.refl _ _ _ | refine Ex.alloc ?_ (by simp <;> omega) _ | refine Ex.drewN ?_ | refine Ex.drew ?_)) _).trans hex9 (by simp <;> omega) (by simp)
      have hS9 := hE9.size
      replace f1 := f1.keep hE9 (Nat.le_refl _) (by simp)
      replace f2 := f2.keep hE9 (Nat.le_refl _) (by simp)
      replace f3 := f3.keep hE9 (Nat.le_refl _) (by simp)
      replace hd := hd.keep hE9 (by omega)
      replace hA := hA.trans hE9 (by omega) (by simp)
      clear hex9 hE9
      go_wp2_with fail
      refine (asB (fits_any _ _ _ _ _ _ f1.v f2.v (by omega) (by omega)) (b := true) Hxy.out).mono ?_
      rintro e w10 ⟨rfl, hex10⟩
      have hE10 : Ex w9.heap.size none w9 w10 := (Ex.weaken (by repeat (first | exact Ex.refl _ _ _ | refine Ex.alloc ?_ (by simp <;> omega) _ | refine Ex.drewN ?_ | refine Ex.drew ?_)) _).trans hex10 (by simp <;> omega) (by simp)
      have hS10 := hE10.size
      replace f1 := f1.keep hE10 (Nat.le_refl _) (by simp)
      replace f2 := f2.keep hE10 (Nat.le_refl _) (by simp)
      replace f3 := f3.keep hE10 (Nat.le_refl _) (by simp)
      replace hd := hd.keep hE10 (by omega)
      replace hA := hA.trans hE10 (by omega) (by simp)
      clear hex10 hE10
      by_cases hyz : fitsI y.1 z.1 (b % 8) = true
      · have Hyz := Lib.hid hyz
        have Hxz : Hid (fitsI x.1 z.1 (a % 8 + b % 8) = true) := fits_sum Hxy.out hyz
        clear hyz
        go_wp2_with fail
        refine (asB (fits_any _ _ _ _ _ _ f2.v f3.v (by omega) (by omega)) (b := true) Hyz.out).mono ?_
        rintro e w11 ⟨rfl, hex11⟩
        have hE11 : Ex w10.heap.size none w10 w11 := (Ex.weaken (by repeat (first | exact Ex.refl _ _ _ | refine Ex.alloc ?_ (by simp <;> omega) _ | refine Ex.drewN ?_ | refine Ex.drew ?_)) _).trans hex11 (by simp <;> omega) (by simp)
        have hS11 := hE11.size
        replace f1 := f1.keep hE11 (Nat.le_refl _) (by simp)
        replace f2 := f2.keep hE11 (Nat.le_refl _) (by simp)
        replace f3 := f3.keep hE11 (Nat.le_refl _) (by simp)
        replace hd := hd.keep hE11 (by omega)
        replace hA := hA.trans hE11 (by omega) (by simp)
        clear hex11 hE11
        go_wp2_with fail
        refine (asB (fits_any _ _ _ _ _ _ f1.v f3.v (by omega) (by omega)) (b := true) Hxz.out).mono ?_
        rintro e w12 ⟨rfl, hex12⟩
        have hE12 : Ex w11.heap.size none w11 w12 := (Ex.weaken (by repeat (first | exact Ex.refl _ _ _ | refine Ex.alloc ?_ (by simp <;> omega) _ | refine Ex.drewN ?_ | refine Ex.drew ?_)) _).trans hex12 (by simp <;> omega) (by simp)
        have hS12 := hE12.size
        replace f1 := f1.keep hE12 (Nat.le_refl _) (by simp)
        replace f2 := f2.keep hE12 (Nat.le_refl _) (by simp)
        replace f3 := f3.keep hE12 (Nat.le_refl _) (by simp)
        replace hd := hd.keep hE12 (by omega)
        replace hA := hA.trans hE12 (by omega) (by simp)
        clear hex12 hE12
        go_wp2_with fail
        refine (asB (fits_any _ _ _ _ _ _ f1.v f2.v (by omega) (by omega)) (b := true) Hxy.out).mono ?_
        rintro e w13 ⟨rfl, hex13⟩
        have hE13 : Ex w12.heap.size none w12 w13 := (Ex.weaken (by repeat (first | exact Ex.refl _ _ _ | refine Ex.alloc ?_ (by simp <;> omega) _ | refine Ex.drewN ?_ | refine Ex.drew ?_)) _).trans hex13 (by simp <;> omega) (by simp)
        have hS13 := hE13.size
        replace f1 := f1.keep hE13 (Nat.le_refl _) (by simp)
        replace f2 := f2.keep hE13 (Nat.le_refl _) (by simp)
        replace f3 := f3.keep hE13 (Nat.le_refl _) (by simp)
        replace hd := hd.keep hE13 (by omega)
        replace hA := hA.trans hE13 (by omega) (by simp)
        clear hex13 hE13
        go_wp2_with fail
        refine (minus_any _ _ _ _ _ f2.v f1.v (by omega) (by omega)).mono ?_
        rintro e w14 ⟨ro5, rc5, rfl, hown, hex14⟩
        have hE14 : Ex w13.heap.size none w13 w14 := (Ex.weaken (by repeat (first | exact Ex.refl _ _ _ | refine Ex.alloc ?_ (by simp <;> omega) _ | refine Ex.drewN ?_ | refine Ex.drew ?_)) _).trans hex14 (by simp <;> omega) (by simp)
        have hS14 := hE14.size
        replace f1 := f1.keep hE14 (Nat.le_refl _) (by simp)
        replace f2 := f2.keep hE14 (Nat.le_refl _) (by simp)
        replace f3 := f3.keep hE14 (Nat.le_refl _) (by simp)
        replace hd := hd.keep hE14 (by omega)
        replace hA := hA.trans hE14 (by omega) (by simp)
        clear hown
        clear hex14 hE14
        go_wp2_with fail
        refine (awake_any _).mono ?_
        rintro e w15 ⟨rfl, hex15⟩
        have hE15 : Ex w14.heap.size none w14 w15 := (Ex.weaken (by repeat (first | exact Ex.refl _ _ _ | refine Ex.alloc ?_ (by simp <;> omega) _ | refine Ex.drewN ?_ | refine Ex.drew ?_)) _).trans hex15 (by simp <;> omega) (by simp)
        have hS15 := hE15.size
        replace f1 := f1.keep hE15 (Nat.le_refl _) (by simp)
        replace f2 := f2.keep hE15 (Nat.le_refl _) (by simp)
        replace f3 := f3.keep hE15 (Nat.le_refl _) (by simp)
        replace hd := hd.keep hE15 (by omega)
        replace hA := hA.trans hE15 (by omega) (by simp)
        clear hex15 hE15
        go_wp2_with fail
        go_ret
        exact ⟨by first | rfl | exact ret_bool (by simpa using hmin), hA.below⟩
      · have Hyz : Hid (fitsI y.1 z.1 (b % 8) = false) := Bool.eq_false_iff.2 hyz
        clear hyz
        go_wp2_with fail
        refine (asB (fits_any _ _ _ _ _ _ f2.v f3.v (by omega) (by omega)) (b := false) Hyz.out).mono ?_
        rintro e w11 ⟨rfl, hex11⟩
        have hE11 : Ex w10.heap.size none w10 w11 := (Ex.weaken (by repeat (first | exact Ex.refl _ _ _ | refine Ex.alloc ?_ (by simp <;> omega) _ | refine Ex.drewN ?_ | refine Ex.drew ?_)) _).trans hex11 (by simp <;> omega) (by simp)
        have hS11 := hE11.size
        replace f1 := f1.keep hE11 (Nat.le_refl _) (by simp)
        replace f2 := f2.keep hE11 (Nat.le_refl _) (by simp)
        replace f3 := f3.keep hE11 (Nat.le_refl _) (by simp)
        replace hd := hd.keep hE11 (by omega)
        replace hA := hA.trans hE11 (by omega) (by simp)
        clear hex11 hE11
        go_wp2_with fail
        refine (asB (fits_any _ _ _ _ _ _ f1.v f2.v (by omega) (by omega)) (b := true) Hxy.out).mono ?_
        rintro e w12 ⟨rfl, hex12⟩
        have hE12 : Ex w11.heap.size none w11 w12 := (Ex.weaken (by repeat (first | exact Ex.refl _ _ _ | refine Ex.alloc ?_ (by simp <;> omega) _ | refine Ex.drewN ?_ | refine Ex.drew ?_)) _).trans hex12 (by simp <;> omega) (by simp)
        have hS12 := hE12.size
        replace f1 := f1.keep hE12 (Nat.le_refl _) (by simp)
        replace f2 := f2.keep hE12 (Nat.le_refl _) (by simp)
        replace f3 := f3.keep hE12 (Nat.le_refl _) (by simp)
        replace hd := hd.keep hE12 (by omega)
        replace hA := hA.trans hE12 (by omega) (by simp)
        clear hex12 hE12
        go_wp2_with fail
        refine (minus_any _ _ _ _ _ f2.v f1.v (by omega) (by omega)).mono ?_
        rintro e w13 ⟨ro5, rc5, rfl, hown, hex13⟩
        have hE13 : Ex w12.heap.size none w12 w13 := (Ex.weaken (by repeat (first | exact Ex.refl _ _ _ | refine Ex.alloc ?_ (by simp <;> omega) _ | refine Ex.drewN ?_ | refine Ex.drew ?_)) _).trans hex13 (by simp <;> omega) (by simp)
        have hS13 := hE13.size
        replace f1 := f1.keep hE13 (Nat.le_refl _) (by simp)
        replace f2 := f2.keep hE13 (Nat.le_refl _) (by simp)
        replace f3 := f3.keep hE13 (Nat.le_refl _) (by simp)
        replace hd := hd.keep hE13 (by omega)
        replace hA := hA.trans hE13 (by omega) (by simp)
        clear hown
        clear hex13 hE13
        go_wp2_with fail
        refine (awake_any _).mono ?_
        rintro e w14 ⟨rfl, hex14⟩
        have hE14 : Ex w13.heap.size none w13 w14 := (Ex.weaken (by repeat (first | exact Ex.refl _ _ _ | refine Ex.alloc ?_ (by simp <;> omega) _ | refine Ex.drewN ?_ | refine Ex.drew ?_)) _).trans hex14 (by simp <;> omega) (by simp)
        have hS14 := hE14.size
        replace f1 := f1.keep hE14 (Nat.le_refl _) (by simp)
        replace f2 := f2.keep hE14 (Nat.le_refl _) (by simp)
        replace f3 := f3.keep hE14 (Nat.le_refl _) (by simp)
        replace hd := hd.keep hE14 (by omega)
        replace hA := hA.trans hE14 (by omega) (by simp)
        clear hex14 hE14
        go_wp2_with fail
        go_ret
        exact ⟨by first | rfl | exact ret_bool (by simpa using hmin), hA.below⟩
    · have Hxy : Hid (fitsI x.1 y.1 (a % 8) = false) := Bool.eq_false_iff.2 hxy
      have Hm : Hid (fitsI x.1 y.1 (a % 8) = decide (((minusI y.1 x.1).length : Int) ≤ a % 8)) := fits_minus my.out
      have hmin : ¬ (minusI y.1 x.1).length ≤ a % 8 := by have := Hm.out; rw [Hxy.out] at this; simpa using this.symm
      clear hxy
      refine (asB (fits_any _ _ _ _ _ _ f1.v f2.v (by omega) (by omega)) (b := false) Hxy.out).mono ?_
      rintro e w8 ⟨rfl, hex8⟩
      have hE8 : Ex w7.heap.size none w7 w8 := (Ex.weaken (by repeat (first | exact Ex.refl _ _ _ | refine Ex.alloc ?_ (by simp <;> omega) _ | refine Ex.drewN ?_ | refine Ex.drew ?_)) _).trans hex8 (by simp <;> omega) (by simp)
      have hS8 := hE8.size
      replace f1 := f1.keep hE8 (Nat.le_refl _) (by simp)
      replace f2 := f2.keep hE8 (Nat.le_refl _) (by simp)
      replace f3 := f3.keep hE8 (Nat.le_refl _) (by simp)
      replace hd := hd.keep hE8 (by omega)
      replace hA := hA.trans hE8 (by omega) (by simp)
      clear hex8 hE8
      go_wp2_with fail
      refine (asB (fits_any _ _ _ _ _ _ f1.v f2.v (by omega) (by omega)) (b := false) Hxy.out).mono ?_
      rintro e w9 ⟨rfl, hex9⟩
      have hE9 : Ex w8.heap.size none w8 w9 := (Ex.weaken (by repeat (first | exact Ex.refl _ _ _ | refine Ex.alloc ?_ (by simp <;> omega) _ | refine Ex.drewN ?_ | refine Ex.drew ?_)) _).trans hex9 (by simp <;> omega) (by simp)
      have hS9 := hE9.size
      replace f1 := f1.keep hE9 (Nat.le_refl _) (by simp)
      replace f2 := f2.keep hE9 (Nat.le_refl _) (by simp)
      replace f3 := f3.keep hE9 (Nat.le_refl _) (by simp)
      replace hd := hd.keep hE9 (by omega)
      replace hA := hA.trans hE9 (by omega) (by simp)
      clear hex9 hE9
      go_wp2_with fail
      refine (asB (fits_any _ _ _ _ _ _ f1.v f2.v (by omega) (by omega)) (b := false) Hxy.out).mono ?_
      rintro e w10 ⟨rfl, hex10⟩
      have hE10 : Ex w9.heap.size none w9 w10 := (Ex.weaken (by repeat (first | exact Ex.refl _ _ _ | refine Ex.alloc ?_ (by simp <;> omega) _ | refine Ex.drewN ?_ | refine Ex.drew ?_)) _).trans hex10 (by simp <;> omega) (by simp)
      have hS10 := hE10.size
      replace f1 := f1.keep hE10 (Nat.le_refl _) (by simp)
      replace f2 := f2.keep hE10 (Nat.le_refl _) (by simp)
      replace f3 := f3.keep hE10 (Nat.le_refl _) (by simp)
      replace hd := hd.keep hE10 (by omega)
      replace hA := hA.trans hE10 (by omega) (by simp)
      clear hex10 hE10
      go_wp2_with fail
      refine (minus_any _ _ _ _ _ f2.v f1.v (by omega) (by omega)).mono ?_
      rintro e w11 ⟨ro5, rc5, rfl, hown, hex11⟩
      have hE11 : Ex w10.heap.size none w10 w11 := (Ex.weaken (by repeat (first | exact Ex.refl _ _ _ | refine Ex.alloc ?_ (by simp <;> omega) _ | refine Ex.drewN ?_ | refine Ex.drew ?_)) _).trans hex11 (by simp <;> omega) (by simp)
      have hS11 := hE11.size
      replace f1 := f1.keep hE11 (Nat.le_refl _) (by simp)
      replace f2 := f2.keep hE11 (Nat.le_refl _) (by simp)
      replace f3 := f3.keep hE11 (Nat.le_refl _) (by simp)
      replace hd := hd.keep hE11 (by omega)
      replace hA := hA.trans hE11 (by omega) (by simp)
      clear hown
      clear hex11 hE11
      go_wp2_with fail
      refine (awake_any _).mono ?_
      rintro e w12 ⟨rfl, hex12⟩
      have hE12 : Ex w11.heap.size none w11 w12 := (Ex.weaken (by repeat (first | exact Ex.refl _ _ _ | refine Ex.alloc ?_ (by simp <;> omega) _ | refine Ex.drewN ?_ | refine Ex.drew ?_)) _).trans hex12 (by simp <;> omega) (by simp)
      have hS12 := hE12.size
      replace f1 := f1.keep hE12 (Nat.le_refl _) (by simp)
      replace f2 := f2.keep hE12 (Nat.le_refl _) (by simp)
      replace f3 := f3.keep hE12 (Nat.le_refl _) (by simp)
      replace hd := hd.keep hE12 (by omega)
      replace hA := hA.trans hE12 (by omega) (by simp)
      clear hex12 hE12
      go_wp2_with fail
      go_ret
      exact ⟨by first | rfl | exact ret_bool (by simpa using hmin), hA.below⟩
  · go_enter Try.func4, Try.ntmps4
    go_wp2_with fail
    refine (asB (light_any _ _ _ _) (b := false) (by simp; omega)).mono ?_
    rintro e w' ⟨rfl, rfl⟩
    go_wp2_with fail
    refine (awake_any _).mono ?_
    rintro e w1 ⟨rfl, hex⟩
    go_wp2_with fail
    go_ret
    exact ⟨rfl, hex.below⟩
end Go.Proofs.Ytgimodjkoincgaa
