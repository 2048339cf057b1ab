/- Dice.One: a contract, no statement of the seat. -/
import Derived.Test.YtagciffmacolfaaDice
namespace Go.Proofs.Ytagciffmacolfaa
open Go.RowKit

set_option maxHeartbeats 400000 in
theorem one_any (N p : Nat) (d : List Int) (n : Int) (w : World) (hd : DiceAt N w p d) (h1 : 1 ≤ n) (hn : n ≤ 4611686018427387904) :
    Calls Try.prog 27 #[.pointer (some ⟨p, 0, none⟩), .int .i64 n] w fun e w' => e = .returned (.bool (dVal d n == n - 1)) ∧ DiceAt N w' p d.tail ∧ Ex w.heap.size (some p) w w' := by
  go_enter Try.func27, Try.ntmps27
  go_wp2_with fail
  refine (next_any N p d n w hd hn).mono ?_
  rintro e w1 ⟨rfl, hd1, hex1⟩
  go_wp2
  go_ret
  exact ⟨rfl, hd1, hex1⟩
end Go.Proofs.Ytagciffmacolfaa
