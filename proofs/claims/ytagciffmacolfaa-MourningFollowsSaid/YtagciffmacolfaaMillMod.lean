/- mill.Mod: contracts, no statement of the seat. -/
import Derived.Test.YtagciffmacolfaaMod
namespace Go.Proofs.Ytagciffmacolfaa
open Go.RowKit

theorem millMod_any (n m : Int) (w : World) (hm : m ≤ 4611686018427387904) :
    Calls Try.prog 24 #[.int .i64 n, .int .i64 m] w fun e w' => e = .returned (.int .i64 (modI n m)) ∧ w = w' := by
  go_enter Try.func24, Try.ntmps24
  go_wp2_with (go_at_call 53; refine (mod_any _ _ _ hm).mono ?_; rintro e w' ⟨rfl, rfl⟩)
  go_ret
  exact ⟨rfl, rfl⟩

end Go.Proofs.Ytagciffmacolfaa
