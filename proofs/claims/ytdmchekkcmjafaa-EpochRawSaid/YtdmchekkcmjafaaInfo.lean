/- The row of int in the table of types: a fact, no statement of the seat. -/
import Derived.Test.YtdmchekkcmjafaaRows
import Derived.Test.YtdmchekkcmjafaaBase
namespace Go.Proofs.Ytdmchekkcmjafaa
open Go.RowKit

theorem Try.infoInt : (Try.prog.info? 3).map (fun i => (i.zero, i.size, i.bytes)) = some (some (.int .i64 0), 1, 8) := by kernel_rfl
end Go.Proofs.Ytdmchekkcmjafaa
