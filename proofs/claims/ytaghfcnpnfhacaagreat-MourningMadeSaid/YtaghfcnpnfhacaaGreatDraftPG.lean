/- mourning.right, Draft. No statement of the seat. -/
import Derived.Test.YtaghfcnpnfhacaaGreatMg08
import Derived.Test.YtaghfcnpnfhacaaGreatRoundsPG
import Derived.Laws.ResultCell
import Derived.Deep.Cut
namespace Go.Proofs.YtaghfcnpnfhacaaGreat
open Go.RowKit Go.Sort

end Go.Proofs.YtaghfcnpnfhacaaGreat
