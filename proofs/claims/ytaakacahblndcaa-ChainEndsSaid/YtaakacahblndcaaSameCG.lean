/- ref03.Same: contracts by the first field that differs, no statement of the seat. -/
import Derived.Test.YtaakacahblndcaaMg00
namespace Go.Proofs.Ytaakacahblndcaa
open Go.RowKit Go.Sort

end Go.Proofs.Ytaakacahblndcaa
