/- cmp.Compare at int: a contract, no statement of the seat. -/
import Derived.Test.YtdmchekkcmjafaaRows
import Derived.Test.YtdmchekkcmjafaaBase
namespace Go.Proofs.Ytdmchekkcmjafaa
open Go.RowKit

/-- cmp.Compare of two numbers. -/
def cmpI (x y : Int) : Int := if x < y then -1 else if y < x then 1 else 0
theorem cmpI_lt {x y : Int} : cmpI x y < 0 ↔ x < y := by unfold cmpI; split <;> (try split) <;> omega
theorem cmpI_zero {x y : Int} : cmpI x y = 0 ↔ x = y := by unfold cmpI; split <;> (try split) <;> omega
theorem cmpI_gt {x y : Int} : 0 < cmpI x y ↔ y < x := by unfold cmpI; split <;> (try split) <;> omega

theorem isNaN_any (x : Int) (w : World) : Calls Try.prog 49 #[.int .i64 x] w fun e w' => e = .returned (.bool false) ∧ w = w' := by
  have h : (x != x) = false := by simp
  go_enter Try.func49, Try.ntmps49
  go_wp2
  go_ret
  exact ⟨rfl, rfl⟩

set_option maxHeartbeats 400000 in
theorem compare_any (x y : Int) (w : World) : Calls Try.prog 34 #[.int .i64 x, .int .i64 y] w fun e w' => e = .returned (.int .i64 (cmpI x y)) ∧ w = w' := by
  by_cases h1 : x < y
  · have d1 : decide (x < y) = true := decide_eq_true h1
    have HK : Hid (cmpI x y = -1) := by show _ = _; simp [cmpI, h1]
    go_enter Try.func34, Try.ntmps34
    go_wp2_with (go_at_call 49; refine (isNaN_any _ _).mono ?_; rintro e w' ⟨rfl, rfl⟩)
    go_ret
    exact ⟨by rw [HK.out]; rfl, rfl⟩
  · have d1 : decide (x < y) = false := decide_eq_false h1
    by_cases h2 : y < x
    · have d2 : decide (y < x) = true := decide_eq_true h2
      have HK : Hid (cmpI x y = 1) := by show _ = _; simp [cmpI, h1, h2]
      go_enter Try.func34, Try.ntmps34
      go_wp2_with (go_at_call 49; refine (isNaN_any _ _).mono ?_; rintro e w' ⟨rfl, rfl⟩)
      go_ret
      exact ⟨by rw [HK.out]; rfl, rfl⟩
    · have d2 : decide (y < x) = false := decide_eq_false h2
      have HK : Hid (cmpI x y = 0) := by show _ = _; simp [cmpI, h1, h2]
      go_enter Try.func34, Try.ntmps34
      go_wp2_with (go_at_call 49; refine (isNaN_any _ _).mono ?_; rintro e w' ⟨rfl, rfl⟩)
      go_ret
      exact ⟨by rw [HK.out]; rfl, rfl⟩
end Go.Proofs.Ytdmchekkcmjafaa
