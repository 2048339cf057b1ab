/- ref03.Same: contracts by the first field that differs, no statement of the seat. -/
import Derived.Test.YtdifcnhhcinonaaGreatMg01
namespace Go.Proofs.YtdifcnhhcinonaaGreat
open Go.RowKit Go.Sort

end Go.Proofs.YtdifcnhhcinonaaGreat
