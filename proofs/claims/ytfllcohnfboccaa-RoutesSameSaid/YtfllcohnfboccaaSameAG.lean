/- ref03.Same: contracts by the first field that differs, no statement of the seat. -/
import Derived.Test.YtfllcohnfboccaaMg02
namespace Go.Proofs.Ytfllcohnfboccaa
open Go.RowKit Go.Sort

end Go.Proofs.Ytfllcohnfboccaa
