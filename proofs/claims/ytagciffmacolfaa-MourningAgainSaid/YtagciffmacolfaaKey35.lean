/- mourning.key: a contract, no statement of the seat. -/
import Derived.Test.YtagciffmacolfaaHeir
namespace Go.Proofs.Ytagciffmacolfaa
open Go.RowKit

def keyB (n : Int) : Bool := decide (0 ≤ n) && decide (n < 64)
theorem key_any (n : Int) (w : World) : Calls Try.prog 49 #[.int .i64 n] w fun e w' => e = .returned (.bool (keyB n)) ∧ w = w' := by
  by_cases h0 : 0 ≤ n
  · by_cases h1 : n < 64
    · have d0 : decide ((0 : Int) ≤ n) = true := decide_eq_true h0
      have d1 : decide (n < 64) = true := decide_eq_true h1
      have HK : Hid (keyB n = true) := by show _ = _; simp [keyB, h0, h1]
      go_enter Try.func49, Try.ntmps49
      go_wp2
      go_ret
      exact ⟨by rw [HK.out]; rfl, rfl⟩
    · have d0 : decide ((0 : Int) ≤ n) = true := decide_eq_true h0
      have d1 : decide (n < 64) = false := decide_eq_false h1
      have HK : Hid (keyB n = false) := by show _ = _; simp [keyB, h1]
      go_enter Try.func49, Try.ntmps49
      go_wp2
      go_ret
      exact ⟨by rw [HK.out]; rfl, rfl⟩
  · have d0 : decide ((0 : Int) ≤ n) = false := decide_eq_false h0
    have HK : Hid (keyB n = false) := by show _ = _; simp [keyB, h0]
    go_enter Try.func49, Try.ntmps49
    go_wp2
    go_ret
    exact ⟨by rw [HK.out]; rfl, rfl⟩
end Go.Proofs.Ytagciffmacolfaa
