/- awake of the Quota laws: a contract, no statement of the seat. -/
import Derived.Test.YtgimodjkoincgaaFits
import Derived.Test.YtgimodjkoincgaaDice
namespace Go.Proofs.Ytgimodjkoincgaa
open Go.RowKit

set_option maxHeartbeats 1000000 in
theorem awake_any (w : World) : Calls Try.prog 8 #[] w fun e w' => e = .returned (.bool true) ∧ Ex w.heap.size none w w' := by
  go_enter Try.func8, Try.ntmps8
  have hA := Ex.refl w.heap.size none w
  go_wp2_with fail
  refine (newcomers_any _ _ [4, 2, 7, 5] [2, 3] _ _ ((Ints.lit [4, 2, 7, 5] rfl rfl).keep (Ex.new _ _) (Nat.le_refl _)) (Ints.lit [2, 3] (by simp) rfl) (by decide) (by decide)).mono ?_
  rintro e w1 ⟨ro, rc, rfl, hown, hex1⟩
  have hE1 : Ex w.heap.size none w w1 := (Ex.weaken (by repeat (first | exact Ex.refl _ _ _ | refine Ex.alloc ?_ (by simp <;> omega) _ | refine Ex.drewN ?_ | refine Ex.drew ?_)) _).trans hex1 (by simp <;> omega) (by simp)
  have hS1 := hE1.size
  replace hA := hA.trans hE1 (by omega) (by simp)
  have f1 := hown.v
  clear hown
  clear hex1 hE1
  go_wp2_with fail
  refine (asB (sameInts_any _ _ _ _ _ (f1.keep (Ex.new _ _) (Nat.le_refl _)) (Ints.lit [4, 7] (by simp) rfl) (by decide)) (b := true) (by decide)).mono ?_
  rintro e w2 ⟨rfl, hex2⟩
  have hE2 : Ex w1.heap.size none w1 w2 := (Ex.weaken (by repeat (first | exact Ex.refl _ _ _ | refine Ex.alloc ?_ (by simp <;> omega) _ | refine Ex.drewN ?_ | refine Ex.drew ?_)) _).trans hex2 (by simp <;> omega) (by simp)
  have hS2 := hE2.size
  replace f1 := f1.keep hE2 (Nat.le_refl _)
  replace hA := hA.trans hE2 (by omega) (by simp)
  clear hex2 hE2
  go_wp2_with fail
  refine (asB (fits_any _ _ _ _ _ _ ((Ints.lit [1] (by simp) rfl).keep (Ex.new _ _) (Nat.le_refl _)) (Ints.lit [1, 2] (by simp) rfl) (by decide) (by decide)) (b := true) (by decide)).mono ?_
  rintro e w3 ⟨rfl, hex3⟩
  have hE3 : Ex w2.heap.size none w2 w3 := (Ex.weaken (by repeat (first | exact Ex.refl _ _ _ | refine Ex.alloc ?_ (by simp <;> omega) _ | refine Ex.drewN ?_ | refine Ex.drew ?_)) _).trans hex3 (by simp <;> omega) (by simp)
  have hS3 := hE3.size
  replace hA := hA.trans hE3 (by omega) (by simp)
  clear hex3 hE3
  go_wp2_with fail
  refine (asB (fits_any _ _ _ _ _ _ ((Ints.lit [1] (by simp) rfl).keep (Ex.new _ _) (Nat.le_refl _)) (Ints.lit [2, 3] (by simp) rfl) (by decide) (by decide)) (b := false) (by decide)).mono ?_
  rintro e w4 ⟨rfl, hex4⟩
  have hE4 : Ex w3.heap.size none w3 w4 := (Ex.weaken (by repeat (first | exact Ex.refl _ _ _ | refine Ex.alloc ?_ (by simp <;> omega) _ | refine Ex.drewN ?_ | refine Ex.drew ?_)) _).trans hex4 (by simp <;> omega) (by simp)
  have hS4 := hE4.size
  replace hA := hA.trans hE4 (by omega) (by simp)
  clear hex4 hE4
  go_wp2_with fail
  go_ret
  exact ⟨rfl, hA⟩
end Go.Proofs.Ytgimodjkoincgaa
