/- ref03.Same: a contract, no statement of the seat. -/
import Derived.Test.YtfllcohnfboccaaGreatSameAG
import Derived.Test.YtfllcohnfboccaaGreatSameBG
import Derived.Test.YtfllcohnfboccaaGreatSameCG
import Derived.Test.YtfllcohnfboccaaGreatSameDG
namespace Go.Proofs.YtfllcohnfboccaaGreat
open Go.RowKit Go.Sort

theorem sameS_no {s t : St} (h : ¬ s = t) : sameS s t = false := by
  rw [Bool.eq_false_iff]; intro h'; exact h (sameS_iff.1 h')
end Go.Proofs.YtfllcohnfboccaaGreat
