/- mill.Light: contracts, no statement of the seat. -/
import Derived.Test.YtagciffmacolfaaRows
import Derived.Test.YtagciffmacolfaaBase
namespace Go.Proofs.Ytagciffmacolfaa
open Go.RowKit

theorem light_any (ao : Option Addr) (cap n : Nat) (w : World) :
    Calls Try.prog 25 #[.slice ao n cap] w fun e w' => e = .returned (.bool (decide ((n : Int) ≤ 400))) ∧ w = w' := by
  go_enter Try.func25, Try.ntmps25
  go_wp2
  go_ret
  exact ⟨rfl, rfl⟩

end Go.Proofs.Ytagciffmacolfaa
