/- Closed facts of the row of MourningMade: each by itself. No walk. -/
import Derived.Test.YtaghfcnpnfhacaaGreatRows
import Derived.WalkKit
import Derived.ProofKit
namespace Go.Proofs.YtaghfcnpnfhacaaGreat.mourningMade
open Go.RowKit

theorem jf9 : (Rows.mourningMadeRow.inPlace == Tryz.pinned.checked.prog.inPlace 3) = true := by kernel_rfl
theorem jf10 : (Rows.mourningMadeRow.unfollowed == Tryz.pinned.checked.prog.unfollowed 3) = true := by kernel_rfl
theorem jf11 : (Rows.mourningMadeRow.recurses == Tryz.pinned.checked.prog.recurses 3) = true := by kernel_rfl
theorem jf12 : (Rows.mourningMadeRow.named == Tryz.pinned.checked.prog.varsNamed 3) = true := by kernel_rfl
theorem jf22 : (Rows.mourningMadeRow.plainKeys == Tryz.pinned.checked.prog.plainKeys) = true := by kernel_rfl
theorem jf24 : Tryz.pinned.checked.prog.stopsHeard = true := by kernel_rfl
theorem jf25 : Tryz.pinned.checked.prog.mayEnter = true := by kernel_rfl
theorem jf26 : (Rows.mourningMadeRow.lifted == Tryz.pinned.checked.prog.liftsFinal) = true := by kernel_rfl
theorem joined : joinedFacts Tryz.pinned.checked.prog 3 Tryz.f3 Rows.mourningMadeSpec Rows.mourningMadeRow = true := by
  unfold joinedFacts
  rw [jf9, jf10, jf11, jf12, jf22, jf24, jf25, jf26]
  kernel_rfl
end Go.Proofs.YtaghfcnpnfhacaaGreat.mourningMade
