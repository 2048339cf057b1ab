/- mill.Roll: contracts, no statement of the seat. -/
import Derived.Test.YtagciffmacolfaaDice
namespace Go.Proofs.Ytagciffmacolfaa
open Go.RowKit

theorem roll_any (v1 : Value) (L : List Int) (w : World) (hv1 : Ints w v1 L) (hL : L.length ≤ 1000000) :
    Calls Try.prog 26 #[v1] w fun e w' => ∃ p, e = .returned (.pointer (some ⟨p, 0, none⟩)) ∧ DiceAt (p + 1) w' p L ∧ w.heap.size ≤ p ∧ p + 1 ≤ w'.heap.size ∧ Ex w.heap.size none w w' := by
  obtain ⟨ao, cap, rfl, hx⟩ := hv1
  go_enter Try.func26, Try.ntmps26
  go_wp2_with (go_at_call 54; refine (madeRoll_any _ _ _ ⟨_, _, rfl, hx⟩ hL).mono ?_; rintro e w' ⟨p, rfl, h1, h2, h3, h4⟩)
  go_ret
  exact ⟨_, rfl, h1, h2, h3, h4⟩

end Go.Proofs.Ytagciffmacolfaa
