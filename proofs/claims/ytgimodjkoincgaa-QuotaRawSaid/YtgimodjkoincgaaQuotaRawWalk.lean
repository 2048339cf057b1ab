/- QuotaRaw: the walk of the law. -/
import Derived.Test.YtgimodjkoincgaaAwake
namespace Go.Proofs.Ytgimodjkoincgaa
open Go.RowKit

theorem emod_bd (n : Int) {m : Int} (h : 1 ≤ m) (hn : 0 ≤ n) : n.tmod m = n % m ∧ 0 ≤ n % m ∧ n % m < m := ⟨Int.tmod_eq_emod_of_nonneg hn, Int.emod_nonneg _ (by omega), Int.emod_lt_of_pos _ (by omega)⟩
theorem joinI_le (a b : List Int) : (joinI a b).length ≤ 64 := keysTo_le _ _
theorem minusI_le (a b : List Int) : (minusI a b).length ≤ 64 := keysTo_le _ _
theorem newc_le (a b : List Int) (q : Int) : (newc a b q).length ≤ a.length := newcTo_le _ _ _ _

set_option maxHeartbeats 1000000 in
theorem quotaRaw_walk (va vb : Value) (n : Int) (xs ys : List Int) (w : World) (fa : Ints w va xs) (fb : Ints w vb ys) (m1 : xs.length ≤ 9223372036854775807) (m2 : ys.length ≤ 9223372036854775807) :
    Calls Try.prog 5 #[va, vb, .int .i64 n] w fun e w' => e = .returned (.bool true) ∧ Below w.heap.size w w' := by
  have fa0 := fa
  have fb0 := fb
  obtain ⟨ao, cap, rfl, hx⟩ := fa
  obtain ⟨bo, cbp, rfl, hy⟩ := fb
  by_cases h1 : 100 < (xs.length : Int)
  · go_enter Try.func5, Try.ntmps5
    go_wp2_with (go_at_call 8; refine (awake_any _).mono ?_; rintro e w1 ⟨rfl, hex⟩)
    go_ret
    exact ⟨rfl, hex.below⟩
  by_cases h2 : 100 < (ys.length : Int)
  · go_enter Try.func5, Try.ntmps5
    go_wp2_with (go_at_call 8; refine (awake_any _).mono ?_; rintro e w1 ⟨rfl, hex⟩)
    go_ret
    exact ⟨rfl, hex.below⟩
  clear hx hy
  have b1 : xs.length ≤ 100 := by omega
  have b2 : ys.length ≤ 100 := by omega
  obtain ⟨v1, rfl⟩ : ∃ v : Value, v = .slice ao xs.length cap := ⟨_, rfl⟩
  go_enter Try.func5, Try.ntmps5
  have hA := Ex.refl w.heap.size none w
  have j1 := joinI_le xs []
  have j2 := joinI_le ys []
  have e1 := modI_bd (n := n) (show (1 : Int) ≤ 65 by omega)
  have e2 := modI_bd (n := n) (show (1 : Int) ≤ 40 by omega)
  obtain ⟨e11, e12⟩ := e1
  obtain ⟨e21, e22⟩ := e2
  go_wp2_with fail
  refine (join_any _ _ _ _ _ fa0 (Ints.nil _) (by omega) (by simp)).mono ?_
  rintro e w1 ⟨ro1, rc1, rfl, hown, hex1⟩
  have hE1 : Ex w.heap.size none w w1 := (Ex.weaken (by repeat (first | exact Ex.refl _ _ _ | refine Ex.alloc ?_ (by simp <;> omega) _ | refine Ex.drewN ?_ | refine Ex.drew ?_)) _).trans hex1 (by simp <;> omega) (by simp)
  have hS1 := hE1.size
  replace fa0 := fa0.keep hE1 (Nat.le_refl _)
  replace fb0 := fb0.keep hE1 (Nat.le_refl _)
  replace hA := hA.trans hE1 (by omega) (by simp)
  have f1 := hown.v
  clear hown
  clear hex1 hE1
  go_wp2_with fail
  refine (join_any _ _ _ _ _ fb0 (Ints.nil _) (by omega) (by simp)).mono ?_
  rintro e w2 ⟨ro2, rc2, rfl, hown, hex2⟩
  have hE2 : Ex w1.heap.size none w1 w2 := (Ex.weaken (by repeat (first | exact Ex.refl _ _ _ | refine Ex.alloc ?_ (by simp <;> omega) _ | refine Ex.drewN ?_ | refine Ex.drew ?_)) _).trans hex2 (by simp <;> omega) (by simp)
  have hS2 := hE2.size
  replace fa0 := fa0.keep hE2 (Nat.le_refl _)
  replace fb0 := fb0.keep hE2 (Nat.le_refl _)
  replace f1 := f1.keep hE2 (Nat.le_refl _)
  replace hA := hA.trans hE2 (by omega) (by simp)
  have f2 := hown.v
  clear hown
  clear hex2 hE2
  go_wp2_with fail
  refine (millMod_any _ _ _ (by omega)).mono ?_
  rintro e w' ⟨rfl, rfl⟩
  go_wp2_with fail
  refine (millMod_any _ _ _ (by omega)).mono ?_
  rintro e w' ⟨rfl, rfl⟩
  go_wp2_with fail
  refine (newcomers_any _ _ _ _ _ _ fa0 fb0 (by omega) (by omega)).mono ?_
  rintro e w3 ⟨ro3, rc3, rfl, hown, hex3⟩
  have hE3 : Ex w2.heap.size none w2 w3 := (Ex.weaken (by repeat (first | exact Ex.refl _ _ _ | refine Ex.alloc ?_ (by simp <;> omega) _ | refine Ex.drewN ?_ | refine Ex.drew ?_)) _).trans hex3 (by simp <;> omega) (by simp)
  have hS3 := hE3.size
  replace fa0 := fa0.keep hE3 (Nat.le_refl _)
  replace fb0 := fb0.keep hE3 (Nat.le_refl _)
  replace f1 := f1.keep hE3 (Nat.le_refl _)
  replace f2 := f2.keep hE3 (Nat.le_refl _)
  replace hA := hA.trans hE3 (by omega) (by simp)
  have f3 := hown.v
  clear hown
  clear hex3 hE3
  go_wp2_with fail
  refine (refNewcomers_any _ _ _ _ _ _ fa0 fb0 (by omega) (by omega)).mono ?_
  rintro e w4 ⟨ro4, rc4, rfl, hown, hex4⟩
  have hE4 : Ex w3.heap.size none w3 w4 := (Ex.weaken (by repeat (first | exact Ex.refl _ _ _ | refine Ex.alloc ?_ (by simp <;> omega) _ | refine Ex.drewN ?_ | refine Ex.drew ?_)) _).trans hex4 (by simp <;> omega) (by simp)
  have hS4 := hE4.size
  replace fa0 := fa0.keep hE4 (Nat.le_refl _)
  replace fb0 := fb0.keep hE4 (Nat.le_refl _)
  replace f1 := f1.keep hE4 (Nat.le_refl _)
  replace f2 := f2.keep hE4 (Nat.le_refl _)
  replace f3 := f3.keep hE4 (Nat.le_refl _)
  replace hA := hA.trans hE4 (by omega) (by simp)
  have f4 := hown.v
  clear hown
  clear hex4 hE4
  go_wp2_with fail
  refine (asB (sameInts_any _ _ _ _ _ f3 f4 (Nat.le_trans (newc_le _ _ _) (by omega))) (b := true) (by simp)).mono ?_
  rintro e w5 ⟨rfl, hex5⟩
  have hE5 : Ex w4.heap.size none w4 w5 := (Ex.weaken (by repeat (first | exact Ex.refl _ _ _ | refine Ex.alloc ?_ (by simp <;> omega) _ | refine Ex.drewN ?_ | refine Ex.drew ?_)) _).trans hex5 (by simp <;> omega) (by simp)
  have hS5 := hE5.size
  replace fa0 := fa0.keep hE5 (Nat.le_refl _)
  replace fb0 := fb0.keep hE5 (Nat.le_refl _)
  replace f1 := f1.keep hE5 (Nat.le_refl _)
  replace f2 := f2.keep hE5 (Nat.le_refl _)
  replace f3 := f3.keep hE5 (Nat.le_refl _)
  replace f4 := f4.keep hE5 (Nat.le_refl _)
  replace hA := hA.trans hE5 (by omega) (by simp)
  clear hex5 hE5
  go_wp2_with fail
  clear f3 f4
  refine (newcomers_any _ _ _ _ _ _ fa0 fb0 (by omega) (by omega)).mono ?_
  rintro e w6 ⟨ro3, rc3, rfl, hown, hex6⟩
  have hE6 : Ex w5.heap.size none w5 w6 := (Ex.weaken (by repeat (first | exact Ex.refl _ _ _ | refine Ex.alloc ?_ (by simp <;> omega) _ | refine Ex.drewN ?_ | refine Ex.drew ?_)) _).trans hex6 (by simp <;> omega) (by simp)
  have hS6 := hE6.size
  replace fa0 := fa0.keep hE6 (Nat.le_refl _)
  replace fb0 := fb0.keep hE6 (Nat.le_refl _)
  replace f1 := f1.keep hE6 (Nat.le_refl _)
  replace f2 := f2.keep hE6 (Nat.le_refl _)
  replace hA := hA.trans hE6 (by omega) (by simp)
  have f3 := hown.v
  clear hown
  clear hex6 hE6
  go_wp2_with fail
  refine (refNewcomers_any _ _ _ _ _ _ fa0 fb0 (by omega) (by omega)).mono ?_
  rintro e w7 ⟨ro4, rc4, rfl, hown, hex7⟩
  have hE7 : Ex w6.heap.size none w6 w7 := (Ex.weaken (by repeat (first | exact Ex.refl _ _ _ | refine Ex.alloc ?_ (by simp <;> omega) _ | refine Ex.drewN ?_ | refine Ex.drew ?_)) _).trans hex7 (by simp <;> omega) (by simp)
  have hS7 := hE7.size
  replace fa0 := fa0.keep hE7 (Nat.le_refl _)
  replace fb0 := fb0.keep hE7 (Nat.le_refl _)
  replace f1 := f1.keep hE7 (Nat.le_refl _)
  replace f2 := f2.keep hE7 (Nat.le_refl _)
  replace f3 := f3.keep hE7 (Nat.le_refl _)
  replace hA := hA.trans hE7 (by omega) (by simp)
  have f4 := hown.v
  clear hown
  clear hex7 hE7
  go_wp2_with fail
  refine (asB (sameInts_any _ _ _ _ _ f3 f4 (Nat.le_trans (newc_le _ _ _) (by omega))) (b := true) (by simp)).mono ?_
  rintro e w8 ⟨rfl, hex8⟩
  have hE8 : Ex w7.heap.size none w7 w8 := (Ex.weaken (by repeat (first | exact Ex.refl _ _ _ | refine Ex.alloc ?_ (by simp <;> omega) _ | refine Ex.drewN ?_ | refine Ex.drew ?_)) _).trans hex8 (by simp <;> omega) (by simp)
  have hS8 := hE8.size
  replace fa0 := fa0.keep hE8 (Nat.le_refl _)
  replace fb0 := fb0.keep hE8 (Nat.le_refl _)
  replace f1 := f1.keep hE8 (Nat.le_refl _)
  replace f2 := f2.keep hE8 (Nat.le_refl _)
  replace f3 := f3.keep hE8 (Nat.le_refl _)
  replace f4 := f4.keep hE8 (Nat.le_refl _)
  replace hA := hA.trans hE8 (by omega) (by simp)
  clear hex8 hE8
  go_wp2_with fail
  clear f3 f4
  refine (fits_any _ _ _ _ _ _ fa0 fb0 (by omega) (by omega)).mono ?_
  rintro e w9 ⟨rfl, hex9⟩
  have hE9 : Ex w8.heap.size none w8 w9 := (Ex.weaken (by repeat (first | exact Ex.refl _ _ _ | refine Ex.alloc ?_ (by simp <;> omega) _ | refine Ex.drewN ?_ | refine Ex.drew ?_)) _).trans hex9 (by simp <;> omega) (by simp)
  have hS9 := hE9.size
  replace fa0 := fa0.keep hE9 (Nat.le_refl _)
  replace fb0 := fb0.keep hE9 (Nat.le_refl _)
  replace f1 := f1.keep hE9 (Nat.le_refl _)
  replace f2 := f2.keep hE9 (Nat.le_refl _)
  replace hA := hA.trans hE9 (by omega) (by simp)
  clear hex9 hE9
  go_wp2_with fail
  refine (refFits_any _ _ _ _ _ _ fa0 fb0 (by omega) (by omega)).mono ?_
  rintro e w10 ⟨rfl, hex10⟩
  have hE10 : Ex w9.heap.size none w9 w10 := (Ex.weaken (by repeat (first | exact Ex.refl _ _ _ | refine Ex.alloc ?_ (by simp <;> omega) _ | refine Ex.drewN ?_ | refine Ex.drew ?_)) _).trans hex10 (by simp <;> omega) (by simp)
  have hS10 := hE10.size
  replace fa0 := fa0.keep hE10 (Nat.le_refl _)
  replace fb0 := fb0.keep hE10 (Nat.le_refl _)
  replace f1 := f1.keep hE10 (Nat.le_refl _)
  replace f2 := f2.keep hE10 (Nat.le_refl _)
  replace hA := hA.trans hE10 (by omega) (by simp)
  clear hex10 hE10
  go_wp2_with fail
  refine (fits_any _ _ _ _ _ _ f1 f2 (by omega) (by omega)).mono ?_
  rintro e w11 ⟨rfl, hex11⟩
  have hE11 : Ex w10.heap.size none w10 w11 := (Ex.weaken (by repeat (first | exact Ex.refl _ _ _ | refine Ex.alloc ?_ (by simp <;> omega) _ | refine Ex.drewN ?_ | refine Ex.drew ?_)) _).trans hex11 (by simp <;> omega) (by simp)
  have hS11 := hE11.size
  replace fa0 := fa0.keep hE11 (Nat.le_refl _)
  replace fb0 := fb0.keep hE11 (Nat.le_refl _)
  replace f1 := f1.keep hE11 (Nat.le_refl _)
  replace f2 := f2.keep hE11 (Nat.le_refl _)
  replace hA := hA.trans hE11 (by omega) (by simp)
  clear hex11 hE11
  go_wp2_with fail
  refine (refFits_any _ _ _ _ _ _ f1 f2 (by omega) (by omega)).mono ?_
  rintro e w12 ⟨rfl, hex12⟩
  have hE12 : Ex w11.heap.size none w11 w12 := (Ex.weaken (by repeat (first | exact Ex.refl _ _ _ | refine Ex.alloc ?_ (by simp <;> omega) _ | refine Ex.drewN ?_ | refine Ex.drew ?_)) _).trans hex12 (by simp <;> omega) (by simp)
  have hS12 := hE12.size
  replace fa0 := fa0.keep hE12 (Nat.le_refl _)
  replace fb0 := fb0.keep hE12 (Nat.le_refl _)
  replace f1 := f1.keep hE12 (Nat.le_refl _)
  replace f2 := f2.keep hE12 (Nat.le_refl _)
  replace hA := hA.trans hE12 (by omega) (by simp)
  clear hex12 hE12
  go_wp2_with fail
  refine (most_any _ _ _ _ _ _ _ f1 f2 (by omega) (by omega) ⟨by omega, by omega⟩ ⟨by omega, by omega⟩).mono ?_
  rintro e w' ⟨rfl, rfl⟩
  go_wp2_with fail
  refine (refMost_any _ _ _ _ _ _ _ f1 f2 (by omega) (by omega) ⟨by omega, by omega⟩ ⟨by omega, by omega⟩).mono ?_
  rintro e w' ⟨rfl, rfl⟩
  go_wp2_with fail
  refine (awake_any _).mono ?_
  rintro e w13 ⟨rfl, hex13⟩
  have hE13 : Ex w12.heap.size none w12 w13 := (Ex.weaken (by repeat (first | exact Ex.refl _ _ _ | refine Ex.alloc ?_ (by simp <;> omega) _ | refine Ex.drewN ?_ | refine Ex.drew ?_)) _).trans hex13 (by simp <;> omega) (by simp)
  have hS13 := hE13.size
  replace fa0 := fa0.keep hE13 (Nat.le_refl _)
  replace fb0 := fb0.keep hE13 (Nat.le_refl _)
  replace f1 := f1.keep hE13 (Nat.le_refl _)
  replace f2 := f2.keep hE13 (Nat.le_refl _)
  replace hA := hA.trans hE13 (by omega) (by simp)
  clear hex13 hE13
  go_wp2_with fail
  go_ret
  exact ⟨rfl, hA.below⟩
end Go.Proofs.Ytgimodjkoincgaa
