/- The row of int in the table of types: a fact, no statement of the seat. -/
import Derived.Test.YtagciffmacolfaaRows
import Derived.Test.YtagciffmacolfaaBase
namespace Go.Proofs.Ytagciffmacolfaa
open Go.RowKit

theorem Try.infoInt : (Try.prog.info? 3).map (fun i => (i.zero, i.size, i.bytes)) = some (some (.int .i64 0), 1, 8) := by kernel_rfl
end Go.Proofs.Ytagciffmacolfaa
