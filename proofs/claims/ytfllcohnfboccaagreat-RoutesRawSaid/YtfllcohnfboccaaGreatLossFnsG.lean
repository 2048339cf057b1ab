/- Small functions of the mourning layer and the statement layer's. No statement of the seat. -/
import Derived.Test.YtfllcohnfboccaaGreatSeal03G
import Derived.IntWalk
namespace Go.Proofs.YtfllcohnfboccaaGreat
open Go.RowKit Go.Sort

set_option maxHeartbeats 1000000 in
theorem listsIn_any (n lo hi : Int) (w : World) : Calls Tryz.prog 132 #[.int .i64 n, .int .i64 lo, .int .i64 hi] w fun e w' => e = .returned (.bool (decide (lo ≤ n) && decide (n ≤ hi))) ∧ w = w' := by
  by_cases h1 : lo ≤ n
  · have d1 : decide (lo ≤ n) = true := decide_eq_true h1
    go_enter Tryz.func132, Tryz.ntmps132
    go_wp2
    go_ret
    exact ⟨by rw [d1, Bool.true_and]; rfl, rfl⟩
  · have d1 : decide (lo ≤ n) = false := decide_eq_false h1
    go_enter Tryz.func132, Tryz.ntmps132
    go_wp2
    go_ret
    exact ⟨rfl, rfl⟩
theorem listsIn_yes (n lo hi : Int) (w : World) (h : lo ≤ n ∧ n ≤ hi) : Calls Tryz.prog 132 #[.int .i64 n, .int .i64 lo, .int .i64 hi] w fun e w' => e = .returned (.bool true) ∧ w = w' :=
  (listsIn_any n lo hi w).mono fun _ _ h' => ⟨by rw [h'.1, decide_eq_true h.1, decide_eq_true h.2]; rfl, h'.2⟩
set_option maxHeartbeats 1000000 in
theorem valueP_any (n : Int) (w : World) (h : 0 ≤ n ∧ n ≤ 1099511627776) : Calls Tryz.prog 138 #[.int .i64 n] w fun e w' => e = .returned (.bool true) ∧ w = w' := by
  go_enter Tryz.func138, Tryz.ntmps138
  go_wp2_with (go_at_call 132; refine (listsIn_yes _ _ _ _ h).mono ?_; rintro e w' ⟨rfl, rfl⟩)
  go_ret
  exact ⟨rfl, rfl⟩
set_option maxHeartbeats 1000000 in
theorem indexNone_any (ao : Option Addr) (cap : Nat) (f : Value) (w : World) : Calls Tryz.prog 104 #[.slice ao 0 cap, f] w fun e w' => e = .returned (.int .i64 (-1)) ∧ w = w' := by
  go_enter Tryz.func104, Tryz.ntmps104
  go_wp2
  go_loopw [5, 8] (fun _ i wr => i = .int .i64 0 ∧ wr = w) (fun _ _ _ => 0)
  case atStart => exact ⟨rfl, rfl⟩
  case round =>
    obtain ⟨rfl, rfl⟩ := hrel
    go_wp2
    go_ret
    exact ⟨rfl, rfl⟩
set_option maxHeartbeats 1000000 in
theorem containsNone_any (ao : Option Addr) (cap : Nat) (f : Value) (w : World) : Calls Tryz.prog 95 #[.slice ao 0 cap, f] w fun e w' => e = .returned (.bool false) ∧ w = w' := by
  go_enter Tryz.func95, Tryz.ntmps95
  go_wp2_with (go_at_call 104; refine (indexNone_any _ _ _ _).mono ?_; rintro e w' ⟨rfl, rfl⟩)
  go_ret
  exact ⟨rfl, rfl⟩
set_option maxHeartbeats 1000000 in
theorem pinnedNone_any (ao : Option Addr) (cap : Nat) (w : World) : Calls Tryz.prog 141 #[.slice ao 0 cap] w fun e w' => e = .returned (.bool true) ∧ w = w' := by
  go_enter Tryz.func141, Tryz.ntmps141
  go_wp2
  go_loopw [3, 4, 7] (fun _ _ i wr => i = .int .i64 0 ∧ wr = w) (fun _ _ _ _ => 0)
  case atStart => exact ⟨rfl, rfl⟩
  case round =>
    obtain ⟨rfl, rfl⟩ := hrel
    go_wp2
    go_ret
    exact ⟨rfl, rfl⟩
end Go.Proofs.YtfllcohnfboccaaGreat
