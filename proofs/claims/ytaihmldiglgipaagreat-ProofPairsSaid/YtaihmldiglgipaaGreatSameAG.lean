/- ref03.Same: contracts by the first field that differs, no statement of the seat. -/
import Derived.Test.YtaihmldiglgipaaGreatMg00
namespace Go.Proofs.YtaihmldiglgipaaGreat
open Go.RowKit Go.Sort

end Go.Proofs.YtaihmldiglgipaaGreat
