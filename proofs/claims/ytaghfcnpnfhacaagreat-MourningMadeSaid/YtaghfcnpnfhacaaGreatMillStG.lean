/- mill.Statement at a draft of a loss. No statement of the seat. -/
import Derived.Test.YtaghfcnpnfhacaaGreatDraftPG
import Derived.Test.YtaghfcnpnfhacaaGreatMg08
import Derived.Test.YtaghfcnpnfhacaaGreatSeal03G
import Derived.Test.YtaghfcnpnfhacaaGreatDiceWG
import Derived.Deep.RegionHeld3
import Derived.Deep.CutRange
namespace Go.Proofs.YtaghfcnpnfhacaaGreat
open Go.RowKit Go.Sort

/-- append of nothing to an empty slice, by the walk's own reckoning. -/
theorem app_none (t e ty : TypeId) (i : TypeInfo) (ht : Tryz.prog.underlying t = some (.slice e)) (hi : Tryz.prog.info? e = some i) (w : World) (g : Nat) :
    (Builtin.append_ #[t, t] ty #[.slice (some ⟨g, 0, none⟩) 0 0, .slice none 0 0]).run Tryz.prog w = .ok (.slice (some ⟨g, 0, none⟩) 0 0) w := by
  simp [Builtin.append_, run_underlying ht, sizeOf, typeInfo, hi, Builtin.lenOf, Builtin.firstCells, storeCells]
theorem at_new (w : World) (o : Obj) (g : Nat) (h : w.heap.size = g) : (w.alloc o).heap[g]? = some o := by
  rw [← h]; exact heap_alloc_new _ _
theorem at_old (w : World) (o : Obj) (g : Nat) (h : g < w.heap.size) : (w.alloc o).heap[g]? = w.heap[g]? := (Ex.new w o).block g h (by simp)
end Go.Proofs.YtaghfcnpnfhacaaGreat
