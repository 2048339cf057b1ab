/- ref03.Same: contracts by the first field that differs, no statement of the seat. -/
import Derived.Test.YtfllcohnfboccaaGreatMg02
namespace Go.Proofs.YtfllcohnfboccaaGreat
open Go.RowKit Go.Sort

end Go.Proofs.YtfllcohnfboccaaGreat
