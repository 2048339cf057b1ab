/- ref03.Same: contracts by the first field that differs, no statement of the seat. -/
import Derived.Test.YtaghfcnpnfhacaaGreatMg00
namespace Go.Proofs.YtaghfcnpnfhacaaGreat
open Go.RowKit Go.Sort

end Go.Proofs.YtaghfcnpnfhacaaGreat
