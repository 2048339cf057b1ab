/- The closures on heirs that the program's mourning hands to the library: contracts, no statement of the seat. -/
import Derived.Test.YtagciffmacolfaaCmp
import Derived.Test.YtagciffmacolfaaHeir
import Derived.Sort.Grow
namespace Go.Proofs.Ytagciffmacolfaa
open Go.RowKit Go.Sort

def heirV (x : Int × Int) : Value := .agg #[.int .i64 x.1, .int .i64 x.2]

set_option maxHeartbeats 400000 in
theorem byLost_any (x y : Int × Int) (w : World) : Calls Try.prog 63 #[heirV x, heirV y] w fun e w' => e = .returned (.int .i64 (cmpI x.1 y.1)) ∧ ∃ q os', w' = grow (w.drewN q) os' := by
  unfold heirV
  go_enter Try.func63, Try.ntmps63
  go_wp2_with (go_at_call 40; refine (compare_any _ _ _).mono ?_; rintro e w' ⟨rfl, rfl⟩)
  go_ret
  exact ⟨rfl, 0, #[_, _], by rw [alloc_eq_grow, alloc_eq_grow, grow_grow]; rfl⟩

set_option maxHeartbeats 400000 in
theorem sameLost_any (x y : Int × Int) (w : World) : Calls Try.prog 65 #[heirV x, heirV y] w fun e w' => e = .returned (.bool (x.1 == y.1)) ∧ ∃ q os', w' = grow (w.drewN q) os' := by
  unfold heirV
  go_enter Try.func65, Try.ntmps65
  go_wp2
  go_ret
  exact ⟨rfl, 0, #[_, _], by rw [alloc_eq_grow, alloc_eq_grow, grow_grow]; rfl⟩

set_option maxHeartbeats 400000 in
theorem lostAt_any (x : Int × Int) (n : Int) (w : World) : Calls Try.prog 46 #[heirV x, .int .i64 n] w fun e w' => e = .returned (.int .i64 (cmpI x.1 n)) ∧ ∃ q os', w' = grow (w.drewN q) os' := by
  unfold heirV
  go_enter Try.func46, Try.ntmps46
  go_wp2_with (go_at_call 40; refine (compare_any _ _ _).mono ?_; rintro e w' ⟨rfl, rfl⟩)
  go_ret
  exact ⟨rfl, 0, #[_], by rw [alloc_eq_grow]; rfl⟩
end Go.Proofs.Ytagciffmacolfaa
